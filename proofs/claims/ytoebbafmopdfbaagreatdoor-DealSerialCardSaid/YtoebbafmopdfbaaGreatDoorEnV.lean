/- A part of the proof; no condition of its own. -/
import Derived.Test.YtoebbafmopdfbaaGreatDoorEnR
set_option linter.unusedSimpArgs false
set_option linter.unusedVariables false
/- EnU: The engine's laws: an engine on a new shelf. -/
namespace Go.Ab.En
open Go Go.Conc Go.RowKit Go.Ab
set_option maxRecDepth 10000
noncomputable def b16 : Code:=(Go.Proofs.Tryz.f16.body).getD .skip
theorem hb16 : Go.Proofs.Tryz.f16.body = some b16:=by kernel_rfl
theorem rcOpen0 {I : Jd pp} (hI : ∀ w e,I.Ok w e) (hM : RC I 62 SMade) : RC I 16 SMade:=by
 refine rc_of_code (isObj:=noO) (Γ:=envOf [(61,S61),(62,SMade)]) (rs:=[2,3]) mixed hI (envOf_rc (by simpa using ⟨rc61 hI,hM⟩)) Go.Proofs.Tryz.func16 (by kernel_rfl) hb16 Go.Proofs.Tryz.results16 Go.Proofs.Tryz.ntmps16 (by decide) ?_
 rintro H args K ⟨sid,k,n,kept,room,rfl,h1,r1,r2,hK⟩
 refine ⟨by simp,rfl,?_⟩
 unfold b16 Go.Proofs.Tryz.f16
 simp only [Option.getD_some,argSlots,BZ2,w_seq,BZ1,constDV,dropLk,Nat.reduceLT,movK,Nat.reduceBEq,Nat.reduceEqDiff,if_false,if_true,BQ,List.map_cons,List.map_nil]
 refine capp61v [] 14 h1 (by simp [getF]) (by simp [getF]) ?_
 simp only [BZ1,BZ2,Pos.isHp,BQ,BP,dropLk,Nat.reduceLT,movK,BZ3,List.map_cons,List.map_nil,extK,Nat.reduceBEq,takK,w_seq,constDV,ne_eq,Int.reduceEq,cd_t,Nat.reduceEqDiff,if_true,if_false]
 refine ⟨sid,k,n,kept,room,rfl,h1,r1,r2,fun H' E f e a => ?_⟩
 simp only [BZ1,BZ2,Pos.isHp,BQ,BP,dropLk,BZ3,Nat.reduceLT,extK,Nat.reduceBEq,takK]
 exact hK H' E f e a
noncomputable def b25 : Code:=(Go.Proofs.Tryz.f25.body).getD .skip
theorem hb25 : Go.Proofs.Tryz.f25.body = some b25:=by kernel_rfl
def SSeq : Spec:=fun H args K => ∃ (E : EngS),args = [.ptr E.x 0]∧E.At H∧K H (.int .i64 E.seq)
theorem appSeq {H : List HObj} {K : List HObj→DV→Prop} {E : EngS} (h1 : E.At H) (h : K H (.int .i64 E.seq)) : app SSeq H [.ptr E.x 0] K:=⟨E,rfl,h1,h⟩
theorem rcSeq {I : Jd pp} (hI : ∀ w e,I.Ok w e) : RC I 25 SSeq:=by
 refine rc_of_code (isObj:=noO) (Γ:=envOf []) (rs:=[2]) mixed hI (envOf_rc (by simp)) Go.Proofs.Tryz.func25 (by kernel_rfl) hb25 Go.Proofs.Tryz.results25 Go.Proofs.Tryz.ntmps25 (by decide) ?_
 rintro H args K ⟨E,rfl,h1,hK⟩
 refine ⟨by simp,rfl,?_⟩
 unfold b25 Go.Proofs.Tryz.f25
 simp only [Option.getD_some,argSlots,BZ2,w_seq,BZ1,constDV,dropLk,Nat.reduceLT,movK,Nat.reduceBEq,dnil,BP,fp114_4,BQ,h1.top,la3,takK]
 exact hK
noncomputable def b83 : Code:=(Go.Proofs.Tryz.f83.body).getD .skip
theorem hb83 : Go.Proofs.Tryz.f83.body = some b83:=by kernel_rfl
def SNwst : Spec:=fun H args K => ∃ (E : EngS) (k : Str) (n : Int),args = [.ptr E.x 0,.str k,.int .i64 n]∧E.At H∧E.es.length < 100000000∧∀ H',Fr [] H H'→K H' (.tup [optD (getE E.es k n),.bool (getE E.es k n).isSome,.int .i64 0])
set_option maxHeartbeats 1000000 in
theorem rcNwst {I : Jd pp} (hI : ∀ w e,I.Ok w e) (hC : RC I 135 SCs) : RC I 83 SNwst:=by
 refine rc_of_mix (isObj:=noO) (Γ:=envOf [(147,SHGet),(148,SCov0)]) (r:=6) (t:=138) (rs:=[7,8]) mixed hI (envOf_rc (by simpa using ⟨rcHGet hI hC,rcCov0 hI⟩)) Go.Proofs.Tryz.func83 (by kernel_rfl) hb83 (mix2 Go.Proofs.Tryz.results83) Go.Proofs.Tryz.ntmps83 ?_
 rintro H args K ⟨E,k,n,rfl,h1,hl,hK⟩
 refine ⟨by simp,rfl,?_⟩
 unfold b83 Go.Proofs.Tryz.f83
 simp only [Option.getD_some,argSlots,BZ2,BQ,Nat.reduceAdd,w_seq,BZ1,al138,isO_eq,dropLk,bgen_eq,if_false,constDV,BZ3,Nat.reduceLT,movK,Nat.reduceBEq,dnil,BP,fp114_3,h1.top,la110,Nat.reduceEqDiff,if_true,List.map_cons,List.map_nil]
 refine appHGet h1.heap hl fun H1 f1 => ?_
 have hk:=hK H1 f1
 have t1:=f1.get h1.top (by simp)
 have sh1 : Sheet0 H1 E.sp E.slog E.sseq E.snext:=f1.get h1.sheet (by simp)
 cases hg : getE E.es k n with
 | none =>
  rw [hg] at hk
  simp only [optD,Option.isSome_none,BZ1,BZ2,Pos.isHp,BQ,BP,dropLk,Nat.reduceLT,movK,BZ3,List.map_cons,List.map_nil,extK,Nat.reduceBEq,al138,isO_eq,bgen_eq,Nat.reduceEqDiff,if_false,takK,if_true,Proofs.Tryz.underlying138,Nat.reduceAdd,cn138,Nat.reduceLeDiff,Pos.inBox,w_seq,cd_f,dnil,fp114_1,t1,la106]
  refine appCov0 sh1 ?_
  simp only [hold_app2,mk_called,Pos.isHp,BQ,BP,dropLk,hold_app,tS_cons,g_none,o_len,Nat.reduceLT,rho_tmp,look_hit,dl131,nc0,o_move,move_const,constDV,vroA_int,tS_nil,w_block]
  refine w_unroll 1 ?_
  simp only [lw_succ,w_seq,BZ1,BZ2,BQ,Nat.reduceLT,Nat.reduceBEq,Int.reduceLT,BP,dropLk,cd_f,bd138,bd_nil,takK,List.map_cons,List.map_nil,Nat.reduceEqDiff,if_false,if_true,Proofs.Tryz.underlying138,Nat.reduceAdd,cn138,Nat.reduceLeDiff,Pos.inBox,constDV,ret_mix2,la138]
  exact hk
 | some e =>
  rw [hg] at hk
  simp only [optD,Ent.cells,Option.isSome_some] at hk
  simp only [optD,Ent.cells,BQ,BZ1,BZ2,Pos.isHp,BP,dropLk,Nat.reduceLT,movK,BZ3,List.map_cons,List.map_nil,extK,Nat.reduceBEq,al138,isO_eq,bgen_eq,Nat.reduceEqDiff,if_false,takK,if_true,Proofs.Tryz.underlying138,Nat.reduceAdd,cn138,Nat.reduceLeDiff,Pos.inBox,w_seq,cd_t,la138,constDV,ret_mix2]
  exact hk
noncomputable def b26 : Code:=(Go.Proofs.Tryz.f26.body).getD .skip
theorem hb26 : Go.Proofs.Tryz.f26.body = some b26:=by kernel_rfl
def seenE (es : List Ent) (k : Str) (n : Int) : Option Str:=match getE es k n with
 | some e => if e.del then none else some e.val
 | none => none
def SGet : Spec:=fun H args K => ∃ (E : EngS) (k : Str) (n : Int),args = [.ptr E.x 0,.str k,.int .i64 n]∧E.At H∧E.es.length < 100000000∧∀ H' v,Fr [] H H'→((seenE E.es k (min n E.seq)).isSome = true→seenE E.es k (min n E.seq) = some v)→K H' (.tup [.str v,.bool (seenE E.es k (min n E.seq)).isSome,.int .i64 0])
set_option maxHeartbeats 1000000 in
theorem rcGet {I : Jd pp} (hI : ∀ w e,I.Ok w e) (hC : RC I 135 SCs) : RC I 26 SGet:=by
 refine rc_of_code (isObj:=noO) (Γ:=envOf [(83,SNwst)]) (rs:=[6,7,8]) mixed hI (envOf_rc (by simpa using rcNwst hI hC)) Go.Proofs.Tryz.func26 (by kernel_rfl) hb26 Go.Proofs.Tryz.results26 Go.Proofs.Tryz.ntmps26 (by decide) ?_
 rintro H args K ⟨E,k,n,rfl,h1,hl,hK⟩
 refine ⟨by simp,rfl,?_⟩
 unfold b26 Go.Proofs.Tryz.f26
 have hm : (if (E.seq : Int) < n then (E.seq : Int) else n) = min n E.seq:=by split <;> omega
 simp only [Option.getD_some,argSlots,BZ2,BQ,Nat.reduceAdd,w_seq,BZ1,constDV,dropLk,Nat.reduceLT,movK,Nat.reduceBEq,dnil,BP,fp114_4,h1.top,la3,BZ3,hm,if_true,List.map_cons,List.map_nil]
 refine ⟨E,k,min n E.seq,rfl,h1,hl,fun H1 f1 => ?_⟩
 cases hg : getE E.es k (min n E.seq) with
 | none =>
  have hs : seenE E.es k (min n E.seq) = none:=by simp [seenE,hg]
  have hk:=hK H1 [] f1 (by rw [hs]; simp)
  rw [hs] at hk
  simp only [optD,Option.isSome_none,BZ1,BZ2,Pos.isHp,BQ,BP,dropLk,Nat.reduceLT,movK,BZ3,List.map_cons,List.map_nil,extK,Nat.reduceBEq,al138,isO_eq,bgen_eq,if_false,takK,if_true,Proofs.Tryz.underlying138,Nat.reduceAdd,cn138,Nat.reduceLeDiff,Pos.inBox,w_seq]
  refine w_draw [9,10,11] (.quiet 0 (.quiet 1 (.quiet 2 (.quiet 3 (.quiet 4 (.quiet 5 (.quiet 6 (.quiet 7 (.quiet 8 (.acts [(9,[8,7,6,5,4],.acts [(10,[8],.acts [(11,[],.done)])])])))))))))) (by decide) (by kernel_rfl) ?_
  simp only [BZ1,BZ2,BZ3,Nat.reduceLT,Nat.reduceBEq,fl138_3,BQ,dropLk,if_true,la9,gs2_ft,BP,constDV,List.map_nil,if_false,takK,dropLks,ret_three]
  exact hk
 | some e =>
  have hs : seenE E.es k (min n E.seq) = if e.del then none else some e.val:=by simp [seenE,hg]
  have hk:=hK H1 e.val f1 (by rw [hs]; split <;> simp)
  rw [hs] at hk
  cases hd : e.del
  ·rw [hd] at hk
   simp only [optD,Ent.cells,hd,BQ,BZ1,BZ2,Pos.isHp,BP,dropLk,Nat.reduceLT,movK,BZ3,List.map_cons,List.map_nil,extK,Nat.reduceBEq,al138,isO_eq,bgen_eq,if_false,takK,if_true,Proofs.Tryz.underlying138,Nat.reduceAdd,cn138,Nat.reduceLeDiff,Pos.inBox,w_seq]
   refine w_draw [9,10,11] (.quiet 0 (.quiet 1 (.quiet 2 (.quiet 3 (.quiet 4 (.quiet 5 (.quiet 6 (.quiet 7 (.quiet 8 (.acts [(9,[8,7,6,5,4],.acts [(10,[8],.acts [(11,[],.done)])])])))))))))) (by decide) (by kernel_rfl) ?_
   simp only [BZ1,BZ2,BZ3,Nat.reduceLT,Nat.reduceBEq,fl138_3,BQ,dropLk,if_true,la9,gs2_tt,fl138_2,la4,BP,constDV,takK,dropLks,ret_three]
   exact hk
  ·rw [hd] at hk
   simp only [optD,Ent.cells,hd,BQ,BZ1,BZ2,Pos.isHp,BP,dropLk,Nat.reduceLT,movK,BZ3,List.map_cons,List.map_nil,extK,Nat.reduceBEq,al138,isO_eq,bgen_eq,if_false,takK,if_true,Proofs.Tryz.underlying138,Nat.reduceAdd,cn138,Nat.reduceLeDiff,Pos.inBox,w_seq]
   refine w_draw [9,10,11] (.quiet 0 (.quiet 1 (.quiet 2 (.quiet 3 (.quiet 4 (.quiet 5 (.quiet 6 (.quiet 7 (.quiet 8 (.acts [(9,[8,7,6,5,4],.acts [(10,[8],.acts [(11,[],.done)])])])))))))))) (by decide) (by kernel_rfl) ?_
   simp only [BZ1,BZ2,BZ3,Nat.reduceLT,Nat.reduceBEq,fl138_3,BQ,dropLk,if_true,la9,gs2_tt,fl138_2,la4,BP,constDV,takK,dropLks,ret_three]
   exact hk
end Go.Ab.En
/- EnV: The engine's laws: entries put into memory. -/
namespace Go.Ab.En
open Go Go.Conc Go.RowKit Go.Ab
set_option maxRecDepth 10000
theorem putE_mem {es : List Ent} {e x : Ent} : x∈putE es e ↔ x = e∨x∈es:=by
 have h:=List.take_append_drop (firstE es e.key e.seq) es
 constructor
 ·intro hx
  rcases List.mem_append.1 hx with hx | hx
  ·exact .inr (List.mem_of_mem_take hx)
  ·rcases List.mem_cons.1 hx with hx | hx
   ·exact .inl hx
   ·exact .inr (List.mem_of_mem_drop hx)
 ·rintro (rfl | hx)
  ·simp [putE]
  ·rw [← h] at hx
   simp only [putE,List.mem_append,List.mem_cons]
   rcases List.mem_append.1 hx with hx | hx
   ·exact .inl hx
   ·exact .inr (.inr hx)
theorem putE_len (es : List Ent) (e : Ent) : (putE es e).length = es.length + 1:=by
 have:=firstE_le es e.key e.seq
 simp [putE]; omega
def same (a b : Ent) : Prop:=a.key = b.key∧a.seq = b.seq
theorem EngS.At.lt {E : EngS} {H : List HObj} (h : E.At H) : ∀ y∈E.parts,y < H.length:=by
 obtain ⟨q1,q2,q3,_,_⟩:=h.shelf.lt
 intro y hy
 simp only [EngS.parts,List.mem_cons,List.not_mem_nil,or_false] at hy
 rcases hy with rfl | rfl | rfl | rfl | rfl | rfl | rfl
 ·exact (List.getElem?_eq_some_iff.1 h.top).1
 ·exact q1
 ·exact q2
 ·exact q3
 ·exact (List.getElem?_eq_some_iff.1 h.sheet).1
 ·exact (List.getElem?_eq_some_iff.1 h.tabs).1
 ·exact (List.getElem?_eq_some_iff.1 h.held).1
theorem EngS.At.heapUp {E : EngS} {H H' : List HObj} {S' : List Nat} {es' : List Ent} (h : E.At H) (f : Fr E.S H H') (hh : HeapAt H' E.hp S' es') (hS : ∀ x∈S',x∈E.S∨H.length≤x) : EngS.At { E with S:=S',es:=es' } H':=by
 have hp : ∀ y∈E.parts,y ∉ E.S:=fun y hy hs => h.apart y hs hy
 refine ⟨f.get h.top (hp _ (by simp [EngS.parts])),h.shelf.fr f (hp _ (by simp [EngS.parts])) (hp _ (by simp [EngS.parts])) (hp _ (by simp [EngS.parts])),hh,f.get h.sheet (hp _ (by simp [EngS.parts])),f.get h.tabs (hp _ (by simp [EngS.parts])),f.get h.held (hp _ (by simp [EngS.parts])),h.nodup,fun y hy hm => ?_⟩
 rcases hS y hy with h1 | h1
 ·exact h.apart y h1 hm
 ·have:=h.lt y hm; omega
noncomputable def b76 : Code:=(Go.Proofs.Tryz.f76.body).getD .skip
theorem hb76 : Go.Proofs.Tryz.f76.body = some b76:=by kernel_rfl
def SPuts : Spec:=fun H args K => ∃ (own : Bool) (E : EngS) (l : List Ent),args = [.ptr E.x 0,.sl own 4 (rowD l)]∧E.At H∧E.es.length + l.length < 100000000∧(∀ e∈l,isEnt e = true)∧l.Pairwise (fun a b => ¬ same a b)∧(∀ e∈l,∀ x∈E.es,¬ same x e) ∧
 ∀ H' S',Fr E.S H H'→EngS.At { E with S:=S',es:=l.foldl putE E.es } H'→(∀ x∈S',x∈E.S∨H.length≤x)→K H' (.tup [])
def MPs (H : List HObj) (E : EngS) (l : List Ent) (m : Nat) (st : St) : Prop:=∃ (i : Nat) (H' : List HObj) (S' : List Nat) (B : List (Nat × Nat × List DV)),i≤l.length∧m = l.length - i∧Fr E.S H H'∧EngS.At { E with S:=S',es:=(l.take i).foldl putE E.es } H'∧(∀ x∈S',x∈E.S∨H.length≤x)∧(B = []∨∃ g c,B = [(5,g,c)]) ∧
 st = mk 19 [(0,.ptr E.x 0),(6,.sl false 4 (rowD l)),(7,.int .i64 l.length),(8,.int .i64 i)] B H' []
theorem fold_mem {l : List Ent} : ∀ {es : List Ent} {x : Ent},x∈l.foldl putE es ↔ x∈l∨x∈es:=by
 induction l with
 | nil => simp
 | cons a r ih =>
  intro es x
  rw [List.foldl_cons,ih,putE_mem,List.mem_cons]
  constructor
  ·rintro (h | h | h) <;> simp [h]
  ·rintro ((h | h) | h) <;> simp [h]
theorem fold_len {l : List Ent} : ∀ {es : List Ent},(l.foldl putE es).length = es.length + l.length:=by
 induction l with
 | nil => simp
 | cons a r ih =>
  intro es
  rw [List.foldl_cons,ih,putE_len,List.length_cons]; omega
set_option maxHeartbeats 2000000 in
theorem rcPuts {I : Jd pp} (hI : ∀ w e,I.Ok w e) (hC : RC I 135 SCs) : RC I 76 SPuts:=by
 refine rc_of_code (isObj:=noO) (Γ:=envOf [(144,SHPut)]) (rs:=[]) mixed hI (envOf_rc (by simpa using rcHPut hI hC)) Go.Proofs.Tryz.func76 (by kernel_rfl) hb76 Go.Proofs.Tryz.results76 Go.Proofs.Tryz.ntmps76 (by decide) ?_
 rintro H args K ⟨own,E,l,rfl,h1,hl,hie,hpw,hfr,hK⟩
 refine ⟨by simp,rfl,?_⟩
 unfold b76 Go.Proofs.Tryz.f76
 have rl : (rowD l).length = l.length:=by simp [rowD]
 simp only [Option.getD_some,argSlots,BZ2,BQ,w_seq,BZ1,Nat.reduceLT,movK,Nat.reduceBEq,lkGet,dropLk,dl125,rl,BP,constDV]
 refine w_loop [0,6,7,8] (MPs H E l) l.length ?_ ?_
 ·exact ⟨0,H,E.S,[],by omega,by omega,Fr.refl _ _,h1,fun x hx => .inl hx,.inl rfl,by simp only [BZ3,BZ1,BZ2,mk_put?_some,mk_put?_none,List.map_cons,Nat.reduceBEq,List.map_nil]; try rfl⟩
 ·rintro m st ⟨i,H',S',B,hi,rfl,f1,a1,hS,hB,rfl⟩
  obtain ⟨g,hb2,hb1⟩:=box1 hB
  by_cases e : i < l.length
  ·have e1 : (i : Int) < l.length:=by omega
   have e2 : (0 : Int)≤i:=by omega
   have wi : IntKind.i64.wrap ((i : Int) + 1) = ((i + 1 : Nat) : Int):=by rw [wrap_i64 (by omega) (by omega)]; omega
   have hx:=rowD_get e
   have hin : l[i]∈l:=List.getElem_mem e
   have hle : (l.take i).length = i:=by rw [List.length_take]; omega
   have hnew : ∀ x∈(l.take i).foldl putE E.es,¬ same x l[i]:=by
    intro x hx
    rcases fold_mem.1 hx with hx | hx
    ·obtain ⟨j,hj,rfl⟩:=List.mem_take_iff_getElem.1 hx
     exact List.pairwise_iff_getElem.1 hpw j i (by omega) e (by omega)
    ·exact hfr _ hin _ hx
   have htop:=a1.top
   simp only at htop
   have hst : (l.take (i + 1)).foldl putE E.es = putE ((l.take i).foldl putE E.es) l[i]:=by
    rw [List.take_succ_eq_append_getElem e,List.foldl_append]; rfl
   simp only [w_seq,BZ1,BZ2,BQ,Nat.reduceLT,Nat.reduceBEq,e1,BP,dropLk,cd_t,ix125,e2,rl,hx,la138,Nat.reduceAdd,Nat.reduceLeDiff,List.map_cons,List.map_nil,al138,isO_eq,hb2,hb1,if_false,takK,if_true,Proofs.Tryz.underlying138,cn138,Pos.inBox]
   refine w_draw [5] (.quiet 0 (.quiet 1 (.quiet 2 (.quiet 3 (.quiet 4 (.acts [(5,[],.done)])))))) (by decide) (by kernel_rfl) ?_
   simp only [BZ1,BZ2,Nat.reduceLT,Nat.reduceBEq,dropLk,BZ3,dnil,fp114_3,BQ,htop,la110,if_true,la138,Nat.reduceAdd,Nat.reduceLeDiff,List.map_cons,List.map_nil]
   refine ⟨E.hp,S',_,l[i],rfl,a1.heap,by rw [fold_len,hle]; omega,hie _ hin,hnew,fun H2 S2 f2 hh2 hS2 => ?_⟩
   have a2:=a1.heapUp f2 hh2 hS2
   have htop2:=a2.top
   simp only at htop2
   simp only [BZ1,BZ2,Pos.isHp,BQ,BP,dropLk,dropLks,rp_done,Nat.reduceLT,Nat.reduceBEq,constDV,wi,movK,List.map_cons,List.map_nil,if_false]
   refine ⟨_,?_,i + 1,H2,S2,_,by omega,rfl,(f1.trans f2).mono fun j hj hm => ?_,by rw [hst]; exact a2,fun x hx => ?_,.inr ⟨_,_,rfl⟩,rfl⟩
   ·omega
   ·rcases List.mem_append.1 hm with hm | hm
    ·exact hm
    ·rcases hS j hm with h | h
     ·exact h
     ·omega
   ·rcases hS2 x hx with h | h
    ·exact hS x h
    ·have:=f1.1
     right; omega
  ·obtain rfl : i = l.length:=by omega
   have e1 : ¬ (l.length : Int) < l.length:=by omega
   simp only [w_seq,BZ1,BZ2,BQ,Nat.reduceLT,Nat.reduceBEq,e1,BP,dropLk,cd_f,if_true,if_false]
   rw [List.take_length] at a1
   exact hK _ _ f1 a1 hS
end Go.Ab.En
