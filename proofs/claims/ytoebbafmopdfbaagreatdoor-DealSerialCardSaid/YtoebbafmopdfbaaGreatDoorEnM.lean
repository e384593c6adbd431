/- A part of the proof; no condition of its own. -/
import Derived.Sort.KeysCollected
import Derived.MapKept
import Derived.Test.YtoebbafmopdfbaaGreatDoorEnX2
set_option linter.unusedSimpArgs false
set_option linter.unusedVariables false
/- EnM: maps.Keys,slices.Sorted: the contracts. -/
namespace Go.Ab.En
open Go Go.Conc Go.RowKit Go.Ab Go.Maps
open Go.WideElems (Fit rd rg)
def namesF (fs : Files) : List Str:=(fs.map (·.1)).mergeSort leB
def RN : Value→Option (DataW Unit × List MemPlace):=fun _ => some (.nil,[])
theorem keyOf9 (x : Str) (h : x.length≤maxLen) : keyOf Go.Proofs.Tryz.prog 9 (.string ⟨x.toArray⟩) = some (.string x):=by
 simp [keyOf,mapKey,Go.Proofs.Tryz.underlying9,ByteArray.size,h]
theorem fit_of {G : Gh} {w : World} {fs : Files} {ms : Array MapEntry} {ck : Nat} (h : MapRel G w (enc fs) ms ck) (hn : (fs.map (·.1)).Nodup) (hl : fs.length < 100000) (hx : ∀ x∈fs,x.1.length≤maxLen) :
  Fit Go.Proofs.Tryz.prog 9 RN ms ck∧(ms.toList.map (rg Go.Proofs.Tryz.prog 9 RN)) = fs.map fun x => (.string x.1,.nil):=by
 obtain ⟨k1,k2,k3⟩:=h
 have hsz : fs.length = ms.size:=by rw [← k1,enc_length]
 have hkey : ∀ (i : Nat) (hi : i < fs.length),(ms[i]'(by omega)).key = .string ⟨(fs[i]).1.toArray⟩:=by
  intro i hi
  have:=(k2 i (.str fs[i].1,.str fs[i].2) (ms[i]'(by omega)) (by simp [enc,hi]) (by simp [show i < ms.size by omega])).1
  exact SV.str (d:=0) this
 have hrd : ∀ (i : Nat) (hi : i < fs.length),rd Go.Proofs.Tryz.prog 9 RN (ms[i]'(by omega)) = some (.string fs[i].1,.nil):=by
  intro i hi
  unfold rd
  rw [hkey i hi,keyOf9 _ (hx _ (List.getElem_mem hi))]
  rfl
 have hborn : ∀ x∈ms.toList,x.born < ck:=by
  intro x hx
  obtain ⟨i,hi⟩:=List.mem_iff_getElem?.1 hx
  have hi2 : i < (enc fs).length:=by
   have:=(List.getElem?_eq_some_iff.1 hi).1
   simp at this
   omega
  exact (k2 i _ x (List.getElem?_eq_getElem hi2) (by simpa using hi)).2.2
 refine ⟨⟨by unfold maxLen; omega,(MapKept.stamped_iff _ _).2 ⟨hborn,nodup_map_of _ _ fun i j a b ha hb h => k3 i j a b (by simpa using ha) (by simpa using hb) h,?_⟩,?_⟩,?_⟩
 ·refine List.pairwise_iff_getElem.2 fun i j hi hj hij he => ?_
  simp only [Array.length_toList] at hi hj
  simp only [Array.getElem_toList] at he
  rw [hkey i (by omega),hkey j (by omega)] at he
  have he2 : (fs[i]'(by omega)).1 = (fs[j]'(by omega)).1:=by simpa using he
  have:=List.pairwise_iff_getElem.1 hn i j (by simp; omega) (by simp; omega) hij
  simp at this
  exact this he2
 ·intro x hx
  obtain ⟨i,hi,rfl⟩:=List.mem_iff_getElem.1 hx
  simp only [Array.length_toList] at hi
  exact ⟨_,by simpa using hrd i (by omega)⟩
 ·refine List.ext_getElem (by simp [hsz]) fun i h1 h2 => ?_
  simp only [List.getElem_map,Array.getElem_toList]
  unfold rg
  rw [hrd i (by simpa using h2)]
  rfl
theorem strKeys_of {fs : Files} : (strKeys (DataW.map (H:=Unit) ((fs.map fun x => (Lit.string x.1,DataW.nil)).foldr DataW.insert []))).Perm (fs.map (·.1)):=by
 show ((((fs.map fun x => (Lit.string x.1,DataW.nil (H:=Unit))).foldr DataW.insert []).map fun p => strOf p.1)).Perm _
 refine ((Go.WideShapes.sorted_perm _).map _).trans ?_
 exact List.Perm.of_eq (by simp [strOf])
def SKeys : Spec:=fun H args K => ∃ v,args = [v]∧((∃ m,v = .map m)∨v = .nilmap)∧K (H ++ [.cells [v]]) (.fn 275 [.ptr H.length 0])
theorem rcKeys : RC (loneJ pp) 230 SKeys:=by
 refine rc_of_calls ⟨_,Go.Proofs.Tryz.func230,by kernel_rfl,by kernel_rfl⟩ fun N0 w0 d G w H args vs K hS hW hF => ?_
 obtain ⟨v,rfl,hv,hK⟩:=hS
 have hsz : vs.size = 1:=hF.1.symm
 obtain ⟨x,rfl⟩ : ∃ x,vs = #[x]:=Array.size_eq_one_iff.1 hsz
 have hx : VP G w v x:=hF.2 0 _ _ rfl rfl
 obtain ⟨mb,rfl⟩ : ∃ mb,x = .map mb:=by
  rcases hv with ⟨m,rfl⟩ | rfl
  ·cases hx; exact ⟨_,rfl⟩
  ·cases hx; exact ⟨_,rfl⟩
 refine (callsIn_wide.1 (Go.Proofs.Tryz.maps_Keys_230 mb w)).mono fun e w' ⟨he,hw⟩ => ?_
 subst he hw
 have hn:=Neu.alloc G w (.cells #[.map mb] 117) (.obj H.length)
 have hW1:=hW.neu hn
 have hk:=hn.keep.trans (keep_setBl hW1 w.heap.size)
 have hW2:=hW1.addObj (n:=w.heap.size) (ob:=.cells [v]) (G.setRole_same _ _) ⟨w.heap.size,_,_,by simp [Gh.setBl],by simp,(MapKept.heap_alloc w _).1,by simp,by
  intro j c u hc hu
  cases j with
  | zero =>
   simp at hc hu; subst hc hu
   refine ⟨hx.keep hk,?_⟩
   rcases hv with ⟨m,rfl⟩ | rfl <;> (intro sz xs e; cases e)
  | succ j => simp at hc⟩
 refine ⟨_,rfl,_,_,.fn 275 [.ptr H.length 0],hK,(hn.ext hW.fresh _).trans (ext_setBl hW1 _),hW2,SV.of_vp (.fn (by simp) ?_),sown_of_noOwn rfl⟩
 intro j c u hc hu
 cases j with
 | zero => simp at hc hu; subst hc hu; exact .ptr (by simp [Gh.setBl])
 | succ j => simp at hc
def SSrt : Spec:=fun H args K => ∃ L v,args = [.fn 275 [.ptr L 0]]∧H[L]? = some (.cells [v])∧((v = .nilmap∧K H (.sl false 1 [])) ∨
 ∃ m fs,v = .map m∧H[m]? = some (.map (enc fs))∧(fs.map (·.1)).Nodup∧fs.length < 100000∧(∀ x∈fs,x.1.length≤maxLen)∧K H (.sl false 1 ((namesF fs).map .str)))
theorem rowBack {N0 : Nat} {w0 : World} {d : Nat} {G : Gh} {w w' : World} {H : List HObj} {K : List HObj→DV→Prop} {v : Value} {ss : List (List UInt8)} {l : List Str} (hW : WRel N0 w0 G w H) (hss : ss.mergeSort leB = l)
  (hrow : w'.ownsRow w.heap.size 9 1 v ss.length ((ss.mergeSort (fun x y => decide (x≤y))).map Go.Proofs.encStr)) (hbl : Below w.heap.size w w') (hK : K H (.sl false 1 (l.map .str))) : Back N0 w0 d G w K v w':=by
 have hlen : ss.length = l.length:=by rw [← hss,List.length_mergeSort]
 have e1 : (fun x y : List UInt8 => decide (x≤y)) = leB:=rfl
 rw [e1,hss] at hrow
 obtain ⟨r1,r2⟩:=hrow
 rcases r2 with ⟨rfl,hz⟩ | ⟨g,cap,cur,rfl,hg,hh,hc1,hc2,hc3,hc4⟩
 ·have hn2 : Neu G w G w':=⟨hbl.os,hbl.tape,hbl.output,hbl.size,fun b hb => ⟨hbl.block b hb,rfl⟩,rfl,rfl,fun h b hb => h b (Nat.le_trans hbl.size hb)⟩
  have hnil : l = []:=List.eq_nil_of_length_eq_zero (by omega)
  rw [hnil] at hK
  exact ⟨_,_,_,hK,hn2.ext hW.fresh _,hW.neu hn2,SV.of_vp (.sl0),sown_of_noOwn rfl⟩
 ·have hgl : g < w'.heap.size:=(Array.getElem?_eq_some_iff.1 hh).1
  have hn2 : Neu G w (G.setRole g .imm) w':=⟨hbl.os,hbl.tape,hbl.output,hbl.size,fun b hb => ⟨hbl.block b hb,G.setRole_ne _ (by omega)⟩,rfl,rfl,fun h b hb => by rw [G.setRole_ne _ (by omega)]; exact h b (Nat.le_trans hbl.size hb)⟩
  refine ⟨_,_,.sl false 1 ((l).map .str),hK,hn2.ext hW.fresh _,hW.neu hn2,SV.of_vp ?_,sown_of_noOwn rfl⟩
  refine .sl (fun i j => Go.Proofs.encStr ((l).getD i [])) (by simp [hlen]) hc1 hc2 (fun i x hx => ?_) (fun i j x c hx hc => ?_) (fun i j x c hx hc => ?_)
  ·obtain ⟨s,_,rfl⟩:=by simpa using hx
   exact ⟨rfl,rfl⟩
  ·have hx':=hx
   rw [List.getElem?_map] at hx'
   obtain ⟨s,hs,rfl⟩:=Option.map_eq_some_iff.1 hx'
   have hj : j = 0:=by
    cases j with
    | zero => rfl
    | succ j => simp [DV.cells] at hc
   subst hj
   have hi : i < (l).length:=(List.getElem?_eq_some_iff.1 hs).1
   refine ⟨by rw [G.setRole_same]; exact .inl rfl,?_⟩
   unfold World.cell?
   simp only [hh,Option.isSome_none,Bool.false_eq_true,if_false]
   have h0 : cur.toList[i]? = some (Go.Proofs.encStr s):=by
    have h1 : (cur.toList.take (ss.length * 1))[i]? = ((l).map Go.Proofs.encStr)[i]?:=by rw [hc4]
    rw [List.getElem?_take,if_pos (by omega),List.getElem?_map,hs] at h1
    exact h1
   have h2 : (l).getD i [] = s:=by simp [List.getD,hs]
   rw [h2]
   simpa using h0
  ·rw [List.getElem?_map] at hx
   obtain ⟨s,hs,rfl⟩:=Option.map_eq_some_iff.1 hx
   have hj : j = 0:=by
    cases j with
    | zero => rfl
    | succ j => simp [DV.cells] at hc
   subst hj
   have h2 : (l).getD i [] = s:=by simp [List.getD,hs]
   simp only [DV.cells,List.getElem?_cons_zero,Option.some.injEq] at hc
   subst hc
   rw [h2]
   exact .str s
theorem rcSrt : RC (loneJ pp) 229 SSrt:=by
 refine rc_of_calls ⟨_,Go.Proofs.Tryz.func229,by kernel_rfl,by kernel_rfl⟩ fun N0 w0 d G w H args vs K hS hW hF => ?_
 obtain ⟨L,v,rfl,hL,hv⟩:=hS
 have hsz : vs.size = 1:=hF.1.symm
 obtain ⟨x,rfl⟩ : ∃ x,vs = #[x]:=Array.size_eq_one_iff.1 hsz
 have hx : VP G w (.fn 275 [.ptr L 0]) x:=hF.2 0 _ _ rfl rfl
 obtain ⟨b,rfl,hb⟩ : ∃ b,x = .func (.func 275) #[] #[.pointer (some ⟨b,0,none⟩)]∧G.bl L = some b:=by
  cases hx with
  | @fn _ _ us h1 h2 =>
   obtain ⟨u,rfl⟩ : ∃ u,us = #[u]:=Array.size_eq_one_iff.1 h1.symm
   obtain ⟨b,hb,rfl⟩:=SV.ptr (d:=0) (h2 0 _ _ rfl rfl)
   exact ⟨b,rfl,hb⟩
 obtain ⟨b',cs,e,g1,g2,g3,g4,g5⟩:=hW.objs L _ hL
 obtain rfl : b = b':=by rw [hb] at g1; exact Option.some.inj g1
 have hcs : cs.size = 1:=by rw [← g4]; rfl
 obtain ⟨u,rfl⟩ : ∃ u,cs = #[u]:=Array.size_eq_one_iff.1 hcs
 have hu:=(g5 0 v u rfl rfl).1
 have hbl : b < w.heap.size:=(Array.getElem?_eq_some_iff.1 g3).1
 have hcell : w.cell? ⟨b,0,none⟩ = some u:=by
  unfold World.cell?
  rw [g3]
  simp
 rcases hv with ⟨rfl,hK⟩ | ⟨m,fs,rfl,h3,hn,hl,hx,hK⟩
 ·obtain rfl:=SV.nilmap (d:=0) hu
  refine (callsIn_wide.1 (Go.Proofs.Tryz.sorted_nil_at b w hbl hcell)).mono fun e w' ⟨v,ss,he,hp,hrow,_,hbl⟩ => ?_
  subst he hp
  exact ⟨_,rfl,rowBack (l:=[]) hW (by simp) hrow hbl hK⟩
 ·obtain ⟨bm,hbm,rfl⟩:=SV.map (d:=0) hu
  obtain ⟨bm',ms,ck,q1,q2,q3,q4⟩:=hW.objs m _ h3
  obtain rfl : bm = bm':=by rw [hbm] at q1; exact Option.some.inj q1
  obtain ⟨hfit,hrg⟩:=fit_of q4 hn hl hx
  have hown : w.ownsMap Go.Proofs.Tryz.prog 9 RN bm ms.size (.map ((ms.toList.map (rg Go.Proofs.Tryz.prog 9 RN)).foldr DataW.insert [])):=⟨ms,ck,q3,hfit,Nat.le_refl _,rfl⟩
  rw [hrg] at hown
  have hmsz : Maps.size (DataW.map (H:=Unit) ((fs.map fun x => (Lit.string x.1,DataW.nil)).foldr DataW.insert [])) = fs.length:=by
   simp [Maps.size,length_sorted]
  refine (callsIn_wide.1 (Go.Proofs.Tryz.sorted_at b bm ms.size _ RN w hbl hcell hown (by rw [hmsz]; unfold maxLen; omega) (by rw [hmsz]; omega))).mono fun e w' ⟨v,ss,he,hp,hrow,_,hbl⟩ => ?_
  subst he
  exact ⟨_,rfl,rowBack hW (mergeSort_of_perm (hp.trans strKeys_of)) hrow hbl hK⟩
def NamesOk (fs : Files) : Prop:=(fs.map (·.1)).Nodup∧fs.length < 100000∧∀ x∈fs,x.1.length≤maxLen
end Go.Ab.En
