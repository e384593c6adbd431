/- A part of the proof; no condition of its own. -/
import Derived.Laws.Externs
import Derived.MapKept
import Derived.WalkKit
import Derived.Laws.IdiomRangeMap
import Derived.LoopTactic
import Derived.Test.YtoebbafmopdfbaaGreatDoorEnS
set_option linter.unusedSimpArgs false
set_option linter.unusedVariables false
/- EnX1: maps.Clone at the shelf's files: a walk by the kit's words,then the contract. -/
namespace Go.Proofs
open Go.RowKit
section
variable {P : Program} (w : World)
theorem run_equalIn_map_nil_sh (d : Nat) (t k e : TypeId) (p : Option Nat) (h : P.underlying t = some (.map k e)) :
  (Op.equalIn (d + 1) t (.map p) (.map none)).run P w = .ok p.isNone w:=by
 cases p <;> simp [Op.equalIn,run_underlying h]
theorem run_eql_map_nil_sh (t k e : TypeId) (p : Option Nat) (h : P.underlying t = some (.map k e)) :
  (binOp .eql t (.map p) (.map none)).run P w = .ok (.bool p.isNone) w:=by
 simp only [binOp]
 simp [show Op.equal t (.map p) (.map none) = Op.equalIn (9999 + 1) t (.map p) (.map none) from rfl,run_equalIn_map_nil_sh w 9999 t k e p h]
theorem run_typeAssert_map_sh (t xT k e : TypeId) (v : Value) (h : P.underlying t = some (.map k e)) : (Instr.typeAssert (.iface t v) xT t false).run P w = .ok v w:=by
 simp [Instr.typeAssert,run_underlying h,go_sem,Result.andThen]
theorem run_maps_clone_sh {r : Nat} {es : Array MapEntry} {clock : Nat} (t : TypeId) (hb : w.heap[r]? = some (.map es clock)) :
  (Extern.MapsClone.clone #[.iface t (.map (some r))]).run P w = .ok (.iface t (.map (some w.heap.size))) (w.alloc (.map es clock)):=by
 obtain ⟨F,e⟩ : ∃ F : Sem Value,Extern.MapsClone.clone #[.iface t (.map (some r))] = (getObj r >>= fun o => match o with
   | .map entries clock => (newObj (.map entries clock) >>= fun n => pure (.iface t (.map (some n))))
   | _ => F):=⟨_,rfl⟩
 rw [e]
 simp [MapKept.run_getObj_map hb,Result.andThen,go_sem]
end
set_option maxRecDepth 100000 in
set_option maxHeartbeats 2000000 in
theorem calls82 (b : Nat) (es : Array MapEntry) (clock : Nat) (w : World) (hb : w.heap[b]? = some (.map es clock)) :
  Calls Tryz.prog 82 #[.map (some b)] w fun e w' => e = .returned (.map (some w.heap.size))∧w' = w.alloc (.map es clock):=by
 have hq:=fun w => run_eql_map_nil_sh (P:=Tryz.prog) w 117 _ _ (some b) Tryz.underlying117
 go_enter Tryz.func82,Tryz.ntmps82
 go_wp2
 rw [run_callFunc_extern Tryz.func146 (by kernel_rfl) (by kernel_rfl) (by kernel_rfl) (e:=Extern.MapsClone.clone) (by kernel_rfl),run_maps_clone_sh w 117 hb]
 simp only [Result.andThen]
 rw [Oper.upon_value]
 go_wp2
 rw [run_typeAssert_map_sh _ 117 20 _ _ _ Tryz.underlying117]
 simp only [Result.andThen]
 rw [Oper.upon_value]
 go_wp2
 go_ret
 exact ⟨rfl,rfl⟩
end Go.Proofs
namespace Go.Ab.En
open Go Go.Conc Go.RowKit Go.Ab
theorem rc82 : RC (loneJ pp) 82 S82:=by
 refine rc_of_calls ⟨_,Go.Proofs.Tryz.func82,by kernel_rfl,by kernel_rfl⟩ fun N0 w0 d G w H args vs K hS hW hF => ?_
 obtain ⟨m,es,rfl,h1,hK⟩:=hS
 have hsz : vs.size = 1:=hF.1.symm
 obtain ⟨v,rfl⟩ : ∃ v,vs = #[v]:=Array.size_eq_one_iff.1 hsz
 obtain ⟨b,hb,rfl⟩:=SV.map (d:=0) (hF.2 0 _ _ rfl rfl)
 obtain ⟨b',ms,ck,g1,g2,g3,g4⟩:=hW.objs m _ h1
 obtain rfl : b = b':=by rw [hb] at g1; exact Option.some.inj g1
 refine (Go.Proofs.calls82 b ms ck w g3).mono fun e w' ⟨he,hw⟩ => ?_
 subst he hw
 have hn:=Neu.alloc G w (.map ms ck) (.obj H.length)
 have hW1:=hW.neu hn
 have hW2:=hW1.addObj (n:=w.heap.size) (ob:=.map es) (G.setRole_same _ _) ⟨w.heap.size,ms,ck,by simp [Gh.setBl],by simp,(MapKept.heap_alloc w _).1,by
  obtain ⟨k1,k2,k3⟩:=g4
  have hk:=hn.keep.trans (keep_setBl hW1 w.heap.size)
  exact ⟨k1,fun i e m he hm => ⟨(k2 i e m he hm).1.keep hk,(k2 i e m he hm).2.1.keep hk,(k2 i e m he hm).2.2⟩,k3⟩⟩
 exact ⟨_,rfl,_,_,.map H.length,hK,(hn.ext hW.fresh _).trans (ext_setBl hW1 _),hW2,SV.of_vp (.map (by simp [Gh.setBl])),sown_of_noOwn rfl⟩
end Go.Ab.En
/- EnX2: files.used: a walk over a map in whatever order,by the kit's words,then the contract. -/
namespace Go.Ab.En
open Go Go.Conc Go.RowKit Go.Ab
def Tp {α : Type} (s : Sem α) : Prop:=∀ (P : Program) (w w' : World) (r : α),s.run P w = .ok r w'→w'.tape = w.tape
theorem Tp.pure {α : Type} (a : α) : Tp (Pure.pure a : Sem α):=fun P w w' r h => by cases h; rfl
theorem Tp.halt {α : Type} (a : Halt) : Tp (Sem.halt a : Sem α):=fun P w w' r h => by cases h
theorem Tp.bind {α β : Type} {x : Sem α} {f : α→Sem β} (hx : Tp x) (hf : ∀ a,Tp (f a)) : Tp (x >>= f):=fun P w w' r h => by
 rw [Sem.run_bind] at h
 cases hr : x.run P w with
 | ok a w1 => rw [hr] at h; exact (hf a P w1 w' r h).trans (hx P w w1 a hr)
 | halt a w1 => rw [hr] at h; cases h
theorem Tp.getObj (r : Nat) : Tp (Go.getObj r):=fun P w w' o h => by
 simp only [Go.getObj,Sem.run] at h
 split at h <;> cases h <;> rfl
theorem Tp.setObj (r : Nat) (o : Obj) : Tp (Go.setObj r o):=fun P w w' u h => by
 simp only [Go.setObj,Sem.run] at h
 split at h <;> cases h <;> rfl
theorem Tp.choose (q : Question) : Tp (Go.choose q):=fun P w w' u h => by
 simp only [Go.choose,Sem.run] at h
 split at h <;> cases h <;> rfl
theorem Tp.next (v : Value) (t : TypeId) : Tp (Instr.next v false t):=by
 unfold Instr.next
 dsimp only
 split
 ·refine Tp.bind (Tp.getObj _) fun o => ?_
  split
  ·rename_i h; cases h
  ·exact Tp.pure _
  ·refine Tp.bind (Tp.getObj _) fun o => ?_
   split
   ·split
    ·exact Tp.bind (Tp.halt _) fun _ => by
      refine Tp.bind (Tp.choose _) fun c => ?_
      split
      ·exact Tp.bind (Tp.setObj _ _) fun _ => Tp.pure _
      ·exact Tp.pure _
      ·exact Tp.halt _
    ·refine Tp.bind (Tp.choose _) fun c => ?_
     split
     ·exact Tp.bind (Tp.setObj _ _) fun _ => Tp.pure _
     ·exact Tp.pure _
     ·exact Tp.halt _
   ·exact Tp.halt _
  ·exact Tp.halt _
 ·exact Tp.halt _
def lenV : Value→Int | .string b => b.size | _ => 0
def lenE (e : MapEntry) : MapEntry:={ e with val:=.int .i64 (lenV e.val) }
end Go.Ab.En
namespace Go.Proofs
open Go.RowKit Go.Ab Go.Ab.En
def seenLen (es : Array MapEntry) (seen : Array Nat) : Int:=seenSum (es.toList.map lenE) seen
def allLen (es : Array MapEntry) : Int:=((es.toList.map lenE).map fun e => valOf e.val).sum
theorem seenLen_none (es : Array MapEntry) : seenLen es #[] = 0:=seenSum_none _
theorem seenLen_le : ∀ (es : List MapEntry) (seen : Array Nat),0≤seenSum (es.map lenE) seen∧seenSum (es.map lenE) seen≤((es.map lenE).map fun e => valOf e.val).sum
 | [],_ => by simp [seenSum]
 | x :: l,seen => by
  have ih:=seenLen_le l seen
  have h0 : 0≤lenV x.val:=by unfold lenV; split <;> omega
  simp only [List.map_cons,seenSum,List.sum_cons]
  have : valOf (lenE x).val = lenV x.val:=rfl
  rw [this]
  split <;> omega
theorem seenLen_all (es : Array MapEntry) (seen : Array Nat) (h : (leftOf es seen).size = 0) : seenLen es seen = allLen es:=by
 refine seenSum_full seen _ fun x hx => ?_
 obtain ⟨y,hy,rfl⟩:=List.mem_map.1 hx
 exact all_seen es seen h y hy
theorem seenLen_push (es : Array MapEntry) (seen : Array Nat) (e : MapEntry) (hs : seen.contains e.born = false) (hn : (es.toList.map (·.born)).Nodup) (he : e∈es.toList) : seenLen es (seen.push e.born) = seenLen es seen + lenV e.val :=
 seenSum_push seen (lenE e) hs _ (by rw [List.map_map]; exact hn) (List.mem_map.2 ⟨e,he,rfl⟩)
set_option maxRecDepth 100000 in
set_option maxHeartbeats 4000000 in
theorem calls105 (bm : Nat) (es : Array MapEntry) (clock : Nat) (w : World) (hb : w.heap[bm]? = some (.map es clock)) (hlt : ∀ x∈es.toList,x.born < clock) (hnd : (es.toList.map (·.born)).Nodup) (hv : ∀ x∈es.toList,∃ v,x.val = .string v) (hs : allLen es < 4611686018427387904) :
  Calls Tryz.prog 105 #[.map (some bm)] w fun e w' => e = .returned (.int .i64 (allLen es))∧∃ (w1 : World) (seen : Array Nat),w1.Alike w∧w1.tape = w.tape∧w' = w1.alloc (.mapIter (some bm) clock seen clock):=by
 have hrg:=run_range_map (P:=Tryz.prog) w 117 _ _ bm es clock Tryz.underlying117 hb
 go_enter Tryz.func105,Tryz.ntmps105
 go_wp2
 go_loopw [3] (fun s w' => ∃ (w1 : World) (seen : Array Nat),w1.Alike w∧w1.tape = w.tape∧w' = w1.alloc (.mapIter (some bm) clock seen clock)∧s = .int .i64 (seenLen es seen)) (fun _ w' => (leftOf es (w'.iterSeen w.heap.size)).size)
 case atStart => exact ⟨w,#[],⟨rfl,rfl,rfl⟩,rfl,rfl,by rw [seenLen_none]⟩
 case round =>
  obtain ⟨w1,seen,hal,htp,rfl,rfl⟩:=hrel
  have hsz : w1.heap.size = w.heap.size:=by rw [hal.1]
  have hb1 : w1.heap[bm]? = some (.map es clock):=by rw [hal.1]; exact hb
  have law:=fun ty => run_next_map (P:=Tryz.prog) w1 ty bm clock clock seen es clock hb1 hlt (Nat.le_refl _)
  rw [hsz] at law
  rcases law 0 with ⟨h0,hrun⟩ | ⟨e,he,w2,hal2,hrun⟩
  ·have hnx : ∀ ty,(Instr.next (.pointer (some ⟨w.heap.size,0,none⟩)) false ty).run Tryz.prog (w1.alloc (.mapIter (some bm) clock seen clock)) = _:=fun _ => hrun
   go_wp2
   go_ret
   rw [seenLen_all es seen h0]
   exact ⟨rfl,w1,seen,hal,htp,rfl⟩
  ·obtain ⟨v,hval⟩:=hv e (mem_left he).1
   have htp2 : w2.tape = w.tape:=(Tp.next _ 0 _ _ _ _ hrun).trans htp
   have hrun0:=hrun
   rw [hval] at hrun
   have hnx : ∀ ty,(Instr.next (.pointer (some ⟨w.heap.size,0,none⟩)) false ty).run Tryz.prog (w1.alloc (.mapIter (some bm) clock seen clock)) = _:=fun _ => hrun
   have hsz2 : w2.heap.size = w.heap.size:=by rw [hal2.1,hal.1]
   have hb2 : w2.heap[bm]? = some (.map es clock):=by rw [hal2.1]; exact hb1
   have hen:=run_entry_map (P:=Tryz.prog) w2 bm clock seen es clock e hb2 (mem_left he).1 hnd
   rw [hsz2,hval] at hen
   go_wp2
   go_roundw
   case rel =>
    refine ⟨w2,seen.push e.born,⟨hal2.1.trans hal.1,hal2.2.1.trans hal.2.1,hal2.2.2.trans hal.2.2⟩,htp2,rfl,?_⟩
    have e1:=seenLen_push es seen e (mem_left he).2 hnd (mem_left he).1
    have e2:=seenLen_le es.toList (seen.push e.born)
    have e3 : seenLen es (seen.push e.born)≤allLen es:=e2.2
    have e4 : 0≤seenLen es (seen.push e.born):=e2.1
    rw [hval] at e1
    have e5 : lenV (.string v) = v.size:=rfl
    rw [e5] at e1
    have e6 : wrap64 (seenLen es seen + v.size) = seenLen es (seen.push e.born):=by
     rw [← e1]
     simp only [wrap64]
     omega
    rw [e6]
   case measure =>
    rw [← hsz2,World.iterSeen_alloc,hsz2,← hsz,World.iterSeen_alloc]
    exact left_shrinks es seen e he
end Go.Proofs
namespace Go.Ab.En
open Go Go.Conc Go.RowKit Go.Ab
theorem nodup_map_of {α β : Type} (f : α→β) (l : List α) (h : ∀ (i j : Nat) (a b : α),l[i]? = some a→l[j]? = some b→f a = f b→i = j) : (l.map f).Nodup:=by
 refine List.pairwise_iff_getElem.2 fun i j hi hj hij he => ?_
 simp only [List.length_map] at hi hj
 simp only [List.getElem_map] at he
 have:=h i j _ _ (List.getElem?_eq_getElem hi) (List.getElem?_eq_getElem hj) he
 omega
theorem allLen_enc {G : Gh} {w : World} {fs : Files} {ms : List MapEntry} (hl : (enc fs).length = ms.length) (h : ∀ (i : Nat) (e : DV × DV) (m : MapEntry),(enc fs)[i]? = some e→ms[i]? = some m→VP G w e.2 m.val) :
  ((ms.map lenE).map fun e => valOf e.val).sum = (usedF fs : Int)∧∀ m∈ms,∃ v,m.val = .string v:=by
 induction fs generalizing ms with
 | nil =>
  cases ms with
  | nil => simp [usedF]
  | cons => simp [enc] at hl
 | cons x fs ih =>
  cases ms with
  | nil => simp [enc] at hl
  | cons m ms =>
   obtain ⟨k,v⟩:=x
   obtain ⟨i1,i2⟩:=ih (by simpa [enc] using hl) fun i e m h1 h2 => h (i + 1) e m (by simpa [enc] using h1) (by simpa using h2)
   have h0:=h 0 (.str k,.str v) m (by simp [enc]) (by simp)
   have e1:=SV.str (d:=0) h0
   refine ⟨?_,fun m' hm => ?_⟩
   ·simp only [List.map_cons,List.sum_cons,i1,usedF]
    have : valOf (lenE m).val = v.length:=by
     show lenV m.val = _
     rw [e1]
     simp [lenV,ByteArray.size]
    rw [this]
    omega
   ·rcases List.mem_cons.1 hm with rfl | hm
    ·exact ⟨_,e1⟩
    ·exact i2 m' hm
theorem rc105 : RC (loneJ pp) 105 S105:=by
 refine rc_of_calls ⟨_,Go.Proofs.Tryz.func105,by kernel_rfl,by kernel_rfl⟩ fun N0 w0 d G w H args vs K hS hW hF => ?_
 obtain ⟨m,fs,rfl,h1,hu,hK⟩:=hS
 have hsz : vs.size = 1:=hF.1.symm
 obtain ⟨v,rfl⟩ : ∃ v,vs = #[v]:=Array.size_eq_one_iff.1 hsz
 obtain ⟨b,hb,rfl⟩:=SV.map (d:=0) (hF.2 0 _ _ rfl rfl)
 obtain ⟨b',ms,ck,g1,g2,g3,g4⟩:=hW.objs m _ h1
 obtain rfl : b = b':=by rw [hb] at g1; exact Option.some.inj g1
 obtain ⟨k1,k2,k3⟩:=g4
 have hL:=allLen_enc (G:=G) (w:=w) (fs:=fs) (ms:=ms.toList) (by simpa using k1) (fun i e m he hm => (k2 i e m he (by simpa using hm)).2.1)
 have hA : Go.Proofs.allLen ms = usedF fs:=hL.1
 refine (Go.Proofs.calls105 b ms ck w g3 (fun x hx => ?_) (nodup_map_of _ _ fun i j a b ha hb h => k3 i j a b (by simpa using ha) (by simpa using hb) h) hL.2 (by rw [hA]; omega)).mono fun e w' ⟨he,w1,seen,hal,htp,hw⟩ => ?_
 ·obtain ⟨i,hi⟩:=List.mem_iff_getElem?.1 hx
  have hi2 : i < (enc fs).length:=by
   have:=(List.getElem?_eq_some_iff.1 hi).1
   simp at this
   omega
  exact (k2 i _ x (List.getElem?_eq_getElem hi2) (by simpa using hi)).2.2
 subst he hw
 have hn1 : Neu G w G w1:=⟨hal.2.1,htp,hal.2.2,by rw [hal.1]; exact Nat.le_refl _,fun _ _ => ⟨by rw [hal.1],rfl⟩,rfl,rfl,fun h b hb => h b (by rw [hal.1] at hb; exact hb)⟩
 have hn:=hn1.trans (Neu.alloc G w1 (.mapIter (some b) ck seen ck) .no)
 rw [hA]
 exact ⟨_,rfl,_,_,.int .i64 (usedF fs),hK,hn.ext hW.fresh _,hW.neu hn,SV.of_vp (.int _ _),sown_of_noOwn rfl⟩
end Go.Ab.En
