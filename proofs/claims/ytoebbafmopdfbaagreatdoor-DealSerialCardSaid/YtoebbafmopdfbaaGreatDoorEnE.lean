/- A part of the proof; no condition of its own. -/
import Derived.Test.YtoebbafmopdfbaaGreatDoorEnD
set_option linter.unusedSimpArgs false
set_option linter.unusedVariables false
/- EnE: The engine's laws: entries in memory. -/
namespace Go.Ab.En
open Go Go.Conc Go.RowKit Go.Ab
set_option maxRecDepth 10000
def isH : ObjT:=fun t => t == 125 || t == 189
theorem isH_eq {t : TypeId} : isH t = (t == 125 || t == 189):=_root_.id rfl
def HeapAt (H : List HObj) (hp : Nat) (S : List Nat) (es : List Ent) : Prop:=∃ (id cap : Nat) (b : Int),H[hp]? = some (.cells [.hsl id 4 0 es.length cap,.int .i64 b])∧HRowF H id cap es∧(cap ≠ 0→id ≠ hp)∧0≤b∧b≤100 * es.length∧S = (if cap = 0 then [hp] else [hp,id])∧Sorted es
theorem HeapAt.fr {H H' : List HObj} {hp : Nat} {S T : List Nat} {es : List Ent} (h : HeapAt H hp S es) (f : Fr T H H') (hd : ∀ x∈S,x ∉ T) : HeapAt H' hp S es:=by
 obtain ⟨id,cap,b,h1,h2,h3,h4,h5,rfl,h7⟩:=h
 have hhp : hp ∉ T:=hd hp (by split <;> simp)
 refine ⟨id,cap,b,f.get h1 hhp,⟨h2.1,fun hc => ?_⟩,h3,h4,h5,rfl,h7⟩
 obtain ⟨sp,k1,k2⟩:=h2.2 hc
 exact ⟨sp,f.get k1 (hd id (by rw [if_neg hc]; simp)),k2⟩
theorem HeapAt.lt {H : List HObj} {hp : Nat} {S : List Nat} {es : List Ent} (h : HeapAt H hp S es) : ∀ x∈S,x < H.length:=by
 obtain ⟨id,cap,b,h1,h2,h3,h4,h5,rfl,h7⟩:=h
 intro x hx
 split at hx
 ·obtain rfl : x = hp:=by simpa using hx
  exact (List.getElem?_eq_some_iff.1 h1).1
 ·rename_i hc
  obtain ⟨sp,k1,k2⟩:=h2.2 hc
  rcases List.mem_cons.1 hx with rfl | hx
  ·exact (List.getElem?_eq_some_iff.1 h1).1
  ·obtain rfl : x = id:=by simpa using hx
   exact (List.getElem?_eq_some_iff.1 k1).1
noncomputable def b64 : Code:=(Go.Proofs.Tryz.f64.body).getD .skip
theorem hb64 : Go.Proofs.Tryz.f64.body = some b64:=by kernel_rfl
def SHNew : Spec:=fun H args K => args = []∧∀ H',Fr [] H H'→HeapAt H' H.length [H.length] []→K H' (.ptr H.length 0)
theorem appHNew {H : List HObj} {K : List HObj→DV→Prop} (h : ∀ H',Fr [] H H'→HeapAt H' H.length [H.length] []→K H' (.ptr H.length 0)) : app SHNew H [] K:=⟨rfl,h⟩
theorem rcHNew {I : Jd pp} (hI : ∀ w e,I.Ok w e) : RC I 64 SHNew:=by
 refine rc_of_code (isObj:=isH) (Γ:=envOf []) (rs:=[0]) mixed hI (envOf_rc (by simp)) Go.Proofs.Tryz.func64 (by kernel_rfl) hb64 Go.Proofs.Tryz.results64 Go.Proofs.Tryz.ntmps64 (by decide) ?_
 rintro H args K ⟨rfl,hK⟩
 refine ⟨by simp,rfl,?_⟩
 unfold b64 Go.Proofs.Tryz.f64
 simp only [Option.getD_some,argSlots,w_seq,BZ1,constDV,dropLk,bd189,isH_eq,BQ,Nat.reduceBEq,nz_t,BZ3,Nat.reduceLT,takK,List.map_cons,BZ2,List.map_nil,bgen_eq,if_true]
 refine hK _ (Fr.app _ _ _) ⟨0,0,0,by simp,⟨by simp,fun h => absurd rfl h⟩,fun h => absurd rfl h,by omega,by simp,by simp,by simp [Sorted]⟩
theorem hrow_cells {cs : List DV} {off i : Nat} {es : List Ent} (h : (cs.drop off).take (es.length * 4) = flatE es) (hi : i < es.length) : ∃ r,cs.drop (off + i * 4) = (es[i]).cells ++ r :=
 ⟨(cs.drop (off + i * 4)).drop 4,by
  obtain ⟨_,d2⟩:=hrow_get h hi
  rw [← d2,List.take_append_drop]⟩
noncomputable def b144 : Code:=(Go.Proofs.Tryz.f144.body).getD .skip
theorem hb144 : Go.Proofs.Tryz.f144.body = some b144:=by kernel_rfl
def putE (es : List Ent) (e : Ent) : List Ent:=es.take (firstE es e.key e.seq) ++ e :: es.drop (firstE es e.key e.seq)
theorem tw_lt {α : Type} (p : α→Bool) : ∀ (l : List α) (i : Nat) (_ : i < (l.takeWhile p).length) (h : i < l.length),p l[i] = true
 | [],i,_,h => by simp at h
 | a :: r,i,h1,h => by
  rw [List.takeWhile_cons] at h1
  split at h1
  ·rename_i ha
   cases i with
   | zero => simpa using ha
   | succ i => simpa using tw_lt p r i (by simpa using h1) (by simpa using h)
  ·simp at h1
theorem tw_at {α : Type} (p : α→Bool) : ∀ (l : List α) (h : (l.takeWhile p).length < l.length),p (l[(l.takeWhile p).length]) = false
 | [],h => by simp at h
 | a :: r,h => by
  cases ha : p a
  ·simp [ha]
  ·simp only [List.takeWhile_cons,ha,if_true,List.length_cons,List.getElem_cons_succ]
   exact tw_at p r (by simpa [List.takeWhile_cons,ha] using h)
theorem firstE_lt {es : List Ent} {k : Str} {n : Int} {j : Nat} (h : j < firstE es k n) : ltE (es[j]'(Nat.lt_of_lt_of_le h (firstE_le es k n))) ⟨k,n,false,[]⟩ = true :=
 tw_lt (fun e => ltE e ⟨k,n,false,[]⟩) es j h (Nat.lt_of_lt_of_le h (firstE_le es k n))
theorem firstE_ge {es : List Ent} (hs : Sorted es) {k : Str} {n : Int} {j : Nat} (h : firstE es k n≤j) (hj : j < es.length) : ltE es[j] ⟨k,n,false,[]⟩ = false:=by
 have h0 : ltE (es[firstE es k n]'(by omega)) ⟨k,n,false,[]⟩ = false:=tw_at (fun e => ltE e ⟨k,n,false,[]⟩) es (by simp only [firstE] at h; omega)
 have:=sorted_mono hs ⟨k,n,false,[]⟩ _ j h hj (by rw [h0]; rfl)
 simpa using this
theorem ltE_total {a b : Ent} (h : ltE a b = false) (hne : ¬ (a.key = b.key∧a.seq = b.seq)) : ltE b a = true:=by
 rw [Bool.eq_false_iff,ne_eq,ltE_iff,not_or] at h
 rw [ltE_iff]
 obtain ⟨h1,h2⟩:=h
 rw [cmpS_swap b.key a.key] at h1
 by_cases e : a.key = b.key
 ·exact .inr ⟨e.symm,by have : ¬ b.seq < a.seq:=fun q => h2 ⟨e,q⟩; have : ¬ a.seq = b.seq:=fun q => hne ⟨e,q⟩; omega⟩
 ·left
  have hz : cmpS b.key a.key ≠ 0:=fun q => e (cmpS_eq _ _ q).symm
  have:=cmpS_range b.key a.key
  omega
theorem put_sorted {es : List Ent} {e : Ent} (hs : Sorted es) (hnew : ∀ x∈es,¬ (x.key = e.key∧x.seq = e.seq)) : Sorted (putE es e):=by
 have key : ∀ a : Ent,ltE a e = ltE a ⟨e.key,e.seq,false,[]⟩:=fun _ => rfl
 rw [Sorted,putE,List.pairwise_append]
 refine ⟨hs.sublist (List.take_sublist _ _),?_,?_⟩
 ·rw [List.pairwise_cons]
  refine ⟨fun b hb => ?_,hs.sublist (List.drop_sublist _ _)⟩
  obtain ⟨j,hj,rfl⟩:=List.mem_iff_getElem.1 hb
  rw [List.getElem_drop]
  rw [List.length_drop] at hj
  refine ltE_total (by rw [key]; exact firstE_ge hs (by omega) (by omega)) (hnew _ (List.getElem_mem _))
 ·intro a ha b hb
  obtain ⟨j,hj,rfl⟩:=List.mem_take_iff_getElem.1 ha
  have h1 : ltE es[j] e = true:=by rw [key]; exact firstE_lt (by omega)
  rcases List.mem_cons.1 hb with rfl | hb
  ·exact h1
  ·obtain ⟨q,hq,rfl⟩:=List.mem_iff_getElem.1 hb
   rw [List.getElem_drop]
   exact List.pairwise_iff_getElem.1 hs j _ (by omega) (by rw [List.length_drop] at hq; omega) (by omega)
def SHPut : Spec:=fun H args K => ∃ (hp : Nat) (S : List Nat) (es : List Ent) (e : Ent),args = [.ptr hp 0,.agg e.cells]∧HeapAt H hp S es∧es.length < 100000000∧isEnt e = true∧(∀ x∈es,¬ (x.key = e.key∧x.seq = e.seq)) ∧
 ∀ H' S',Fr S H H'→HeapAt H' hp S' (putE es e)→(∀ x∈S',x∈S∨H.length≤x)→K H' (.bool true)
set_option maxHeartbeats 1000000 in
theorem rcHPut {I : Jd pp} (hI : ∀ w e,I.Ok w e) (hC : RC I 135 SCs) : RC I 144 SHPut:=by
 refine rc_of_code (isObj:=isI) (Γ:=envOf [(166,SFirst),(177,SIe),(213,SIns)]) (rs:=[4]) mixed hI (envOf_rc (by simpa using ⟨rcFirst hI hC,rcIe hI,rcIns hI⟩)) Go.Proofs.Tryz.func144 (by kernel_rfl) hb144 Go.Proofs.Tryz.results144 Go.Proofs.Tryz.ntmps144 (by decide) ?_
 rintro H args K ⟨hp,S,es,e,rfl,⟨id,cap,b,h1,h2,h3,h4,h5,rfl,h7⟩,hl,he,hnew,hK⟩
 refine ⟨by simp,rfl,?_⟩
 unfold b144 Go.Proofs.Tryz.f144
 simp only [BQ,Option.getD_some,argSlots,BZ2,Ent.cells,List.map_cons,List.map_nil,w_seq,BZ1,o_box,Nat.reduceLT,takK,Nat.reduceBEq,isI_eq,dropLk,bgen_eq,if_false,constDV]
 refine w_draw [8,9] (.quiet 0 (.quiet 1 (.quiet 2 (.quiet 3 (.quiet 4 (.quiet 5 (.quiet 6 (.quiet 7 (.acts [(8,[],.acts [(9,[],.done)])]))))))))) (by decide) (by kernel_rfl) ?_
 simp only [BZ1,BZ2,Nat.reduceLT,Nat.reduceBEq,dropLk,BZ3,dnil,fp189_0,BQ,h1,la125,fl138_0,if_true,la9,fl138_1,la3,Nat.reduceEqDiff,if_false,List.map_cons,List.map_nil]
 refine appFirst es (.inr ⟨id,0,cap,rfl,h2.row⟩) h7 (by omega) fun H1 f1 => ?_
 have g1:=f1.get h1 (by simp)
 simp only [BZ1,BZ2,Pos.isHp,BQ,BP,dropLk,dropLks,Nat.reduceLT,takK,rp_done,w_seq]
 have hfi:=firstE_le es e.key e.seq
 generalize hii : firstE es e.key e.seq = i at hfi
 have he' : isEnt ⟨e.key,e.seq,e.del,e.val⟩ = true:=he
 have c0 : (0 : Int)≤i:=by omega
 have hr1 : HRowF (H1 ++ [HObj.cells [.str e.key,.int .i64 e.seq,.bool e.del,.str e.val]]) id cap es:=⟨h2.1,fun hc => by obtain ⟨sp,a,b⟩:=h2.2 hc; exact ⟨sp,(Fr.app [] _ _).get (f1.get a (by simp)) (by simp),b⟩⟩
 have hnv : cap ≠ 0→id ≠ H1.length:=fun hc e => by
  obtain ⟨sp,a,b⟩:=h2.2 hc
  have:=(List.getElem?_eq_some_iff.1 (f1.get a (by simp))).1
  omega
 have g2 : ∀ X,(H1 ++ [X])[hp]? = some (.cells [.hsl id 4 0 es.length cap,.int .i64 b]):=fun X => (Fr.app [] _ _).get g1 (by simp)
 have hhl : hp < H1.length:=(List.getElem?_eq_some_iff.1 g1).1
 have after : ∀ (H3 : List HObj) (id' cap' : Nat),Fr (if cap = 0 then [] else [id]) (H1 ++ [HObj.cells [.str e.key,.int .i64 e.seq,.bool e.del,.str e.val]]) H3→HRowF H3 id' cap' (es.take i ++ e :: es.drop i) →
   (cap ≠ 0∧id' = id∨(H1 ++ [HObj.cells [.str e.key,.int .i64 e.seq,.bool e.del,.str e.val]]).length≤id'∧id' < H3.length)→H3[hp]? = some (.cells [.hsl id 4 0 es.length cap,.int .i64 b])∧Fr (if cap = 0 then [] else [id]) H H3∧(id' ≠ hp):=by
  intro H3 id' cap' f3 hr3 hid
  refine ⟨f3.get ((Fr.app [] _ _).get g1 (by simp)) ?_,((f1.trans (Fr.app [] _ _)).trans f3).mono (by simp),?_⟩
  ·split
   ·simp
   ·rename_i hc
    simpa using (h3 hc).symm
  ·rcases hid with ⟨hc,rfl⟩ | ⟨hge,_⟩
   ·exact h3 hc
   ·rw [List.length_append] at hge; omega
 have hkv : e.key.length≤13∧e.val.length≤24:=by
  simp only [isEnt,isWr,Bool.and_eq_true,decide_eq_true_eq] at he
  omega
 have w1 : IntKind.i64.wrap ((e.key.length : Int) + (e.val.length : Int)) = (e.key.length : Int) + (e.val.length : Int):=wrap_i64 (by omega) (by omega)
 have w2 : IntKind.i64.wrap (b + ((e.key.length : Int) + (e.val.length : Int))) = b + ((e.key.length : Int) + (e.val.length : Int)):=wrap_i64 (by omega) (by omega)
 have hpl : (putE es e).length = es.length + 1:=by simp [putE]; omega
 have fin : ∀ (H3 : List HObj) (id' cap' : Nat),Fr (if cap = 0 then [] else [id]) (H1 ++ [HObj.cells [.str e.key,.int .i64 e.seq,.bool e.del,.str e.val]]) H3→HRowF H3 id' cap' (es.take i ++ e :: es.drop i) →
   (cap ≠ 0∧id' = id∨(H1 ++ [HObj.cells [.str e.key,.int .i64 e.seq,.bool e.del,.str e.val]]).length≤id'∧id' < H3.length)→K (H3.set hp (.cells [.hsl id' 4 0 (es.length + 1) cap',.int .i64 (b + ((e.key.length : Int) + (e.val.length : Int)))])) (.bool true):=by
  intro H3 id' cap' f3 hr3 hid
  obtain ⟨g3,hx1,hx2⟩:=after H3 id' cap' f3 hr3 hid
  have hh3 : hp < H3.length:=(List.getElem?_eq_some_iff.1 g3).1
  have hpe : putE es e = es.take i ++ e :: es.drop i:=by simp only [putE,hii]
  have hc' : cap' ≠ 0:=fun h0 => by
   have:=hr3.1
   rw [← hpe,hpl] at this; omega
  refine hK _ [hp,id'] ((hx1.trans (Fr.set _ _ _)).mono fun j _ hj => ?_) ⟨id',cap',_,by rw [hpl]; exact List.getElem?_set_self hh3,⟨by rw [hpe]; exact hr3.1,fun hc => ?_⟩,fun _ => hx2,by omega,by rw [hpl]; omega,by rw [if_neg hc'],put_sorted h7 hnew⟩ fun x hx => ?_
  ·rcases List.mem_append.1 hj with hj | hj
   ·split at hj
    ·simp at hj
    ·rename_i hc
     rw [if_neg hc]; simp at hj ⊢; exact .inr hj
   ·obtain rfl : j = hp:=by simpa using hj
    split <;> simp
  ·obtain ⟨sp,a,b⟩:=hr3.2 hc
   refine ⟨sp,?_,by rw [hpe]; exact b⟩
   rw [List.getElem?_set_ne (Ne.symm hx2),hpe]; exact a
  ·rcases List.mem_cons.1 hx with rfl | hx
   ·left; split <;> simp
   ·obtain rfl : x = id':=by simpa using hx
    rcases hid with ⟨hc,rfl⟩ | ⟨hge,_⟩
    ·left; rw [if_neg hc]; simp
    ·right
     rw [List.length_append] at hge
     have:=f1.1
     omega
 refine w_draw [1] (.quiet 0 (.acts [(1,[],.quiet 2 (.quiet 3 (.quiet 4 (.quiet 5 (.quiet 6 (.quiet 7 (.quiet 8 (.quiet 9 (.quiet 10 (.quiet 11 (.quiet 12 (.quiet 13 (.quiet 14 (.quiet 15 (.quiet 16 (.quiet 17 (.quiet 18 (.quiet 19 (.quiet 20 (.quiet 21 (.quiet 22 (.quiet 23 (.quiet 24 (.quiet 25 (.quiet 26 (.quiet 27 (.quiet 28 (.quiet 29 (.quiet 30 (.quiet 31 (.quiet 32 (.quiet 33 (.quiet 34 (.quiet 35 (.quiet 36 (.quiet 37 (.done)))))))))))))))))))))))))))))))))))))])) (by decide) (by kernel_rfl) ?_
 by_cases hlt : i < es.length
 ·have c1 : (i : Int) < es.length:=by omega
  have hne : es ≠ []:=by rintro rfl; simp at hlt
  obtain ⟨cs,k1,k2⟩:=h2.row.2 hne
  obtain ⟨r,d1⟩:=hrow_cells k2 hlt
  have k3:=f1.get k1 (by simp)
  rw [Nat.zero_add] at d1
  simp only [Ent.cells,List.cons_append,List.nil_append] at d1
  have d2 : List.drop (i * 4 + 1) cs = .int .i64 es[i].seq :: .bool es[i].del :: .str es[i].val :: r:=by rw [← List.drop_drop,d1]; rfl
  by_cases hk : es[i].key = e.key
  ·have hs : ¬ es[i].seq = e.seq:=fun h => hnew _ (List.getElem_mem hlt) ⟨hk,h⟩
   simp only [BZ1,BZ2,q_load,Nat.reduceLT,Nat.reduceBEq,if_true,BQ,la138,Nat.reduceAdd,Nat.reduceLeDiff,List.map_cons,List.map_nil,dropLk,Nat.reduceEqDiff,if_false]
   refine appIe ?_
   simp only [he',BZ1,BZ2,Pos.isHp,BQ,BP,dropLk,dropLks,Nat.reduceLT,gs2_ff,Nat.reduceBEq,BZ3,dnil,fp189_0,g1,la125,dlh125,c1,gs2_tt,ixh125,c0,fp138_0,k3,d1,hk,la9,fl138_0,if_true,constDV,fp138_1,d2,la3,fl138_1,hs,if_false,cd_f,w_seq]
   refine w_draw [7,8,11] (.quiet 0 (.quiet 1 (.quiet 2 (.quiet 3 (.quiet 4 (.quiet 5 (.quiet 6 (.acts [(7,[5,4,3,2,1,0],.acts [(8,[0],.quiet 9 (.quiet 10 (.acts [(11,[],.done)])))])])))))))) (by decide) (by kernel_rfl) ?_
   simp only [BZ1,BZ2,Nat.reduceLT,Nat.reduceBEq,dropLk,BZ3,dnil,fp189_0,BQ,g1,la125,if_true,la138,Nat.reduceAdd,Nat.reduceLeDiff,List.map_cons,List.map_nil,bs125_1,isI_eq,g2,dropLks,Nat.reduceEqDiff,if_false]
   refine ⟨id,cap,H1.length,i,es,e,rfl,hfi,hr1,by simp [Ent.cells],hnv,by omega,fun H3 id' cap' f3 hr3 hid => ?_⟩
   obtain ⟨g3,hx1,hx2⟩:=after H3 id' cap' f3 hr3 hid
   simp only [BZ1,BZ2,Pos.isHp,BQ,BP,dropLk,BZ3,Nat.reduceLT,Nat.reduceBEq,dropLks,dnil,fp189_0,takK,g3,Proofs.Tryz.underlying125,cn125,Nat.reduceAdd,Nat.reduceLeDiff,Pos.inHp,w_seq]
   have hh3 : hp < H3.length:=(List.getElem?_eq_some_iff.1 g3).1
   have g4 : ∀ X,(H3.set hp X)[hp]? = some X:=fun X => List.getElem?_set_self hh3
   refine w_draw [14] (.quiet 0 (.quiet 1 (.quiet 2 (.quiet 3 (.quiet 4 (.quiet 5 (.quiet 6 (.quiet 7 (.quiet 8 (.quiet 9 (.quiet 10 (.quiet 11 (.quiet 12 (.quiet 13 (.acts [(14,[],.done)]))))))))))))))) (by decide) (by kernel_rfl) ?_
   simp only [BZ1,BZ2,Nat.reduceLT,Nat.reduceBEq,dropLk,BZ3,dnil,fp189_1,BQ,g4,la3,fl138_0,if_true,la9,BP,dl9,fl138_3,w1,w2,takK,Proofs.Tryz.underlying3,cn3,Nat.reduceAdd,Nat.reduceLeDiff,Pos.inHp,dropLks,w_seq,constDV]
   exact fin H3 id' cap' f3 hr3 hid
  ·simp only [BZ1,BZ2,q_load,Nat.reduceLT,Nat.reduceBEq,if_true,BQ,la138,Nat.reduceAdd,Nat.reduceLeDiff,List.map_cons,List.map_nil,dropLk,Nat.reduceEqDiff,if_false]
   refine appIe ?_
   simp only [he',BZ1,BZ2,Pos.isHp,BQ,BP,dropLk,dropLks,Nat.reduceLT,gs2_ff,Nat.reduceBEq,BZ3,dnil,fp189_0,g1,la125,dlh125,c1,gs2_tt,ixh125,c0,fp138_0,k3,d1,la9,fl138_0,if_true,hk,constDV,gs2_ft,List.map_nil,if_false,cd_f,w_seq]
   refine w_draw [7,8,11] (.quiet 0 (.quiet 1 (.quiet 2 (.quiet 3 (.quiet 4 (.quiet 5 (.quiet 6 (.acts [(7,[5,4,3,2,1,0],.acts [(8,[0],.quiet 9 (.quiet 10 (.acts [(11,[],.done)])))])])))))))) (by decide) (by kernel_rfl) ?_
   simp only [BZ1,BZ2,Nat.reduceLT,Nat.reduceBEq,dropLk,BZ3,dnil,fp189_0,BQ,g1,la125,if_true,la138,Nat.reduceAdd,Nat.reduceLeDiff,List.map_cons,List.map_nil,bs125_1,isI_eq,g2,dropLks,Nat.reduceEqDiff,if_false]
   refine ⟨id,cap,H1.length,i,es,e,rfl,hfi,hr1,by simp [Ent.cells],hnv,by omega,fun H3 id' cap' f3 hr3 hid => ?_⟩
   obtain ⟨g3,hx1,hx2⟩:=after H3 id' cap' f3 hr3 hid
   simp only [BZ1,BZ2,Pos.isHp,BQ,BP,dropLk,BZ3,Nat.reduceLT,Nat.reduceBEq,dropLks,dnil,fp189_0,takK,g3,Proofs.Tryz.underlying125,cn125,Nat.reduceAdd,Nat.reduceLeDiff,Pos.inHp,w_seq]
   have hh3 : hp < H3.length:=(List.getElem?_eq_some_iff.1 g3).1
   have g4 : ∀ X,(H3.set hp X)[hp]? = some X:=fun X => List.getElem?_set_self hh3
   refine w_draw [14] (.quiet 0 (.quiet 1 (.quiet 2 (.quiet 3 (.quiet 4 (.quiet 5 (.quiet 6 (.quiet 7 (.quiet 8 (.quiet 9 (.quiet 10 (.quiet 11 (.quiet 12 (.quiet 13 (.acts [(14,[],.done)]))))))))))))))) (by decide) (by kernel_rfl) ?_
   simp only [BZ1,BZ2,Nat.reduceLT,Nat.reduceBEq,dropLk,BZ3,dnil,fp189_1,BQ,g4,la3,fl138_0,if_true,la9,BP,dl9,fl138_3,w1,w2,takK,Proofs.Tryz.underlying3,cn3,Nat.reduceAdd,Nat.reduceLeDiff,Pos.inHp,dropLks,w_seq,constDV]
   exact fin H3 id' cap' f3 hr3 hid
 ·have c1 : ¬ (i : Int) < es.length:=by omega
  simp only [BZ1,BZ2,q_load,Nat.reduceLT,Nat.reduceBEq,if_true,BQ,la138,Nat.reduceAdd,Nat.reduceLeDiff,List.map_cons,List.map_nil,dropLk,Nat.reduceEqDiff,if_false]
  refine appIe ?_
  simp only [he',BZ1,BZ2,Pos.isHp,BQ,BP,dropLk,dropLks,Nat.reduceLT,gs2_ff,Nat.reduceBEq,BZ3,dnil,fp189_0,g1,la125,dlh125,c1,gs2_ft,constDV,List.map_nil,if_false,cd_f,w_seq]
  refine w_draw [7,8,11] (.quiet 0 (.quiet 1 (.quiet 2 (.quiet 3 (.quiet 4 (.quiet 5 (.quiet 6 (.acts [(7,[5,4,3,2,1,0],.acts [(8,[0],.quiet 9 (.quiet 10 (.acts [(11,[],.done)])))])])))))))) (by decide) (by kernel_rfl) ?_
  simp only [BZ1,BZ2,Nat.reduceLT,Nat.reduceBEq,dropLk,BZ3,dnil,fp189_0,BQ,g1,la125,if_true,la138,Nat.reduceAdd,Nat.reduceLeDiff,List.map_cons,List.map_nil,bs125_1,isI_eq,g2,dropLks,Nat.reduceEqDiff,if_false]
  refine ⟨id,cap,H1.length,i,es,e,rfl,hfi,hr1,by simp [Ent.cells],hnv,by omega,fun H3 id' cap' f3 hr3 hid => ?_⟩
  obtain ⟨g3,hx1,hx2⟩:=after H3 id' cap' f3 hr3 hid
  simp only [BZ1,BZ2,Pos.isHp,BQ,BP,dropLk,BZ3,Nat.reduceLT,Nat.reduceBEq,dropLks,dnil,fp189_0,takK,g3,Proofs.Tryz.underlying125,cn125,Nat.reduceAdd,Nat.reduceLeDiff,Pos.inHp,w_seq]
  have hh3 : hp < H3.length:=(List.getElem?_eq_some_iff.1 g3).1
  have g4 : ∀ X,(H3.set hp X)[hp]? = some X:=fun X => List.getElem?_set_self hh3
  refine w_draw [14] (.quiet 0 (.quiet 1 (.quiet 2 (.quiet 3 (.quiet 4 (.quiet 5 (.quiet 6 (.quiet 7 (.quiet 8 (.quiet 9 (.quiet 10 (.quiet 11 (.quiet 12 (.quiet 13 (.acts [(14,[],.done)]))))))))))))))) (by decide) (by kernel_rfl) ?_
  simp only [BZ1,BZ2,Nat.reduceLT,Nat.reduceBEq,dropLk,BZ3,dnil,fp189_1,BQ,g4,la3,fl138_0,if_true,la9,BP,dl9,fl138_3,w1,w2,takK,Proofs.Tryz.underlying3,cn3,Nat.reduceAdd,Nat.reduceLeDiff,Pos.inHp,dropLks,w_seq,constDV]
  exact fin H3 id' cap' f3 hr3 hid
end Go.Ab.En
