/- A part of the proof; no condition of its own. -/
import Derived.Test.YtoebbafmopdfbaaGreatDoorEnO
set_option linter.unusedSimpArgs false
set_option linter.unusedVariables false
/- EnC: The engine's laws: rows of entries searched. -/
namespace Go.Ab.En
open Go Go.Conc Go.RowKit Go.Ab
set_option maxRecDepth 10000
def isF : ObjT:=fun t => t == 125 || t == 9 || t == 3
theorem isF_eq {t : TypeId} : isF t = (t == 125 || t == 9 || t == 3):=_root_.id rfl
noncomputable def b224 : Code:=(Go.Proofs.Tryz.f224.body).getD .skip
theorem hb224 : Go.Proofs.Tryz.f224.body = some b224:=by kernel_rfl
def SF1 : Spec:=fun H args K => ∃ (a b c : Nat) (v : DV) (es : List Ent) (key : Str) (n : Int) (i : Nat) (h : i < es.length),args = [.int .i64 i,.ptr a 0,.ptr b 0,.ptr c 0]∧H[a]? = some (.cells [v])∧RowV H v es∧H[b]? = some (.cells [.str key])∧H[c]? = some (.cells [.int .i64 n])∧es.length < 4611686018427387904∧K H (.bool (!ltE es[i] ⟨key,n,false,[]⟩))
theorem hrow_get {cs : List DV} {off i : Nat} {es : List Ent} (h : (cs.drop off).take (es.length * 4) = flatE es) (hi : i < es.length) : 4≤(cs.drop (off + i * 4)).length∧(cs.drop (off + i * 4)).take 4 = (es[i]).cells:=by
 have h1 : (((cs.drop off).take (es.length * 4)).drop (i * 4)).take 4 = (es[i]).cells:=by rw [h,flatE_get hi]
 rw [List.drop_take,List.take_take,List.drop_drop,Nat.min_eq_left (by omega)] at h1
 refine ⟨?_,h1⟩
 have:=congrArg List.length h1
 simp only [List.length_take,Ent.cells,List.length_cons,List.length_nil] at this
 omega
theorem cells_ro1 (e : Ent) : e.cells.map DV.ro1 = e.cells:=by simp [Ent.cells,DV.ro1]
theorem rcF1 {I : Jd pp} (hI : ∀ w e,I.Ok w e) (hC : RC I 135 SCs) : RC I 224 SF1:=by
 refine rc_of_code (isObj:=noO) (Γ:=envOf [(164,SLe)]) (rs:=[5]) mixed hI (envOf_rc (by simpa using rcLe hI hC)) Go.Proofs.Tryz.func224 (by kernel_rfl) hb224 Go.Proofs.Tryz.results224 Go.Proofs.Tryz.ntmps224 (by decide) ?_
 rintro H args K ⟨a,b,c,v,es,key,n,i,h,rfl,ha,hv,hb,hc,hl,hK⟩
 refine ⟨by simp,rfl,?_⟩
 unfold b224 Go.Proofs.Tryz.f224
 have e1 : (i : Int) < es.length:=by omega
 have e2 : (0 : Int)≤i:=by omega
 rcases hv with ⟨own,rfl⟩ | ⟨id,off,cap,rfl,hr⟩
 ·have e3 : (rowD es).getD i .undef = .agg (es[i]).cells:=by simp [rowD,List.getD,h]
  have e4 : (rowD es).length = es.length:=by simp [rowD]
  simp only [Option.getD_some,argSlots,BZ3,BZ1,BZ2,BP,BQ,vro1_tup,vro_tup,vcl_tup,vsca_tup,vfla_tup,vro1_nilp,vro_nilp,vroA_nilp,vcl_nilp,vsca_nilp,vfla_nilp,vro1_ptr,vro1_lptr,vro_lptr,vroA_lptr,vcl_lptr,vsca_lptr,vfla_lptr,vro1_lsl,vro_lsl,vroA_lsl,vcl_lsl,vsca_lsl,vfla_lsl,vro1_vptr,vro_vptr,vroA_vptr,vcl_vptr,vsca_vptr,vfla_vptr,vro1_map,vro1_nilmap,vro_nilmap,vroA_nilmap,vcl_nilmap,vsca_nilmap,vfla_nilmap,Nat.reduceAdd,w_seq,constDV,dropLk]
  refine w_draw [6,7,9] (.quiet 0 (.quiet 1 (.quiet 2 (.quiet 3 (.quiet 4 (.quiet 5 (.acts [(6,[3,2,1,0],.acts [(7,[],.quiet 8 (.acts [(9,[],.done)]))])]))))))) (by decide) (by kernel_rfl) ?_
  simp only [BZ1,BZ2,BZ3,Nat.reduceLT,Nat.reduceBEq,ha,BQ,la125,dropLk,BP,ix125,e2,e4,e1,e3,Ent.cells,la138,Nat.reduceAdd,Nat.reduceLeDiff,List.map_cons,List.map_nil,hb,la9,hc,la3,bd138,bd138_0,takK,bd138_1,dropLks,if_true]
  refine appLe ?_
  simp only [BZ1,BZ2,Pos.isHp,BQ,BP,dropLk,dropLks,Nat.reduceLT,takK,rp_done]
  exact hK
 ·obtain ⟨cs,h1,h2⟩:=hr.2 (by rintro rfl; simp at h)
  obtain ⟨d1,d2⟩:=hrow_get h2 h
  simp only [Option.getD_some,argSlots,BZ3,BZ1,BZ2,BP,BQ,vro1_tup,vro_tup,vcl_tup,vsca_tup,vfla_tup,vro1_nilp,vro_nilp,vroA_nilp,vcl_nilp,vsca_nilp,vfla_nilp,vro1_ptr,vro1_lptr,vro_lptr,vroA_lptr,vcl_lptr,vsca_lptr,vfla_lptr,vro1_lsl,vro_lsl,vroA_lsl,vcl_lsl,vsca_lsl,vfla_lsl,vro1_vptr,vro_vptr,vroA_vptr,vcl_vptr,vsca_vptr,vfla_vptr,vro1_map,vro1_nilmap,vro_nilmap,vroA_nilmap,vcl_nilmap,vsca_nilmap,vfla_nilmap,Nat.reduceAdd,w_seq,constDV,dropLk]
  refine w_draw [6,7,9] (.quiet 0 (.quiet 1 (.quiet 2 (.quiet 3 (.quiet 4 (.quiet 5 (.acts [(6,[3,2,1,0],.acts [(7,[],.quiet 8 (.acts [(9,[],.done)]))])]))))))) (by decide) (by kernel_rfl) ?_
  simp only [BZ1,BZ2,BZ3,Nat.reduceLT,Nat.reduceBEq,ha,BQ,la125,dropLk,BP,ixh125,e2,e1,h1,la138,d1,d2,Ent.cells,List.map_cons,List.map_nil,hb,la9,hc,la3,bd138,bd138_0,takK,Nat.reduceAdd,Nat.reduceLeDiff,bd138_1,dropLks,if_true]
  refine appLe ?_
  simp only [BZ1,BZ2,Pos.isHp,BQ,BP,dropLk,dropLks,Nat.reduceLT,takK,rp_done]
  exact hK
noncomputable def b223 : Code:=(Go.Proofs.Tryz.f223.body).getD .skip
theorem hb223 : Go.Proofs.Tryz.f223.body = some b223:=by kernel_rfl
def SSearch (f : Nat) (SF : Spec) : Spec:=fun H args K => ∃ (caps : List DV) (p : Nat→Bool) (n : Nat),args = [.int .i64 n,.fn f caps]∧n < 4611686018427387904∧caps.map DV.ro = caps∧(∀ i,i < n→∀ K' : List HObj→DV→Prop,K' H (.bool (p i))→SF H (.int .i64 i :: caps) K') ∧
 (∀ i j,i≤j→j < n→p i = true→p j = true)∧∀ i : Nat,i≤n→(∀ j,j < i→p j = false)→(∀ j,i≤j→j < n→p j = true)→K H (.int .i64 i)
def MSr (H : List HObj) (f : Nat) (caps : List DV) (p : Nat→Bool) (n : Nat) (m : Nat) (st : St) : Prop:=∃ i j : Nat,i≤j∧j≤n∧m = j - i∧(∀ k,k < i→p k = false)∧(∀ k,j≤k→k < n→p k = true)∧st = mk 26 [(1,.fn f caps),(5,.int .i64 i),(6,.int .i64 j)] [] H []
theorem rcSearch {I : Jd pp} (hI : ∀ w e,I.Ok w e) {SF : Spec} {f : Nat} (hF : RC I f SF) : RC I 223 (SSearch f SF):=by
 refine rc_of_code (isObj:=noO) (Γ:=envOf [(f,SF)]) (rs:=[4]) mixed hI (envOf_rc (by simpa using hF)) Go.Proofs.Tryz.func223 (by kernel_rfl) hb223 Go.Proofs.Tryz.results223 Go.Proofs.Tryz.ntmps223 (by decide) ?_
 rintro H args K ⟨caps,p,n,rfl,hn,hcap,hp,hm,hK⟩
 refine ⟨by simp,rfl,?_⟩
 unfold b223 Go.Proofs.Tryz.f223
 simp only [Option.getD_some,argSlots,BZ3,BZ1,BZ2,BP,BQ,w_seq,constDV,dropLk,Nat.reduceLT,movK,Nat.reduceBEq,takK]
 refine w_loop [1,5,6] (MSr H f caps p n) n ?_ ?_
 ·exact ⟨0,n,by omega,by omega,by omega,by intro k hk; omega,by intro k h1 h2; omega,by simp only [BZ3,BZ1,BZ2,mk_put?_some,mk_put?_none,List.map_cons,Nat.reduceBEq,List.map_nil]; try rfl⟩
 ·rintro m st ⟨i,j,hij,hjn,rfl,hlo,hhi,rfl⟩
  by_cases e : i < j
  ·have e1 : (i : Int) < j:=by omega
   have w1 : IntKind.i64.wrap ((i : Int) + (j : Int)) = ((i + j : Nat) : Int):=by rw [wrap_i64 (by omega) (by omega)]; omega
   have w2 : IntKind.u64.wrap ((i + j : Nat) : Int) = ((i + j : Nat) : Int):=by simp [IntKind.wrap,IntKind.bits,IntKind.signed]; omega
   have w3 : Int.fdiv ((i + j : Nat) : Int) 2 = (((i + j) / 2 : Nat) : Int):=by rw [Int.fdiv_eq_ediv_of_nonneg _ (by omega)]; omega
   have w4 : IntKind.i64.wrap (((i + j) / 2 : Nat) : Int) = (((i + j) / 2 : Nat) : Int):=by rw [wrap_i64 (by omega) (by omega)]
   have w5 : IntKind.i64.wrap ((((i + j) / 2 : Nat) : Int) + 1) = (((i + j) / 2 + 1 : Nat) : Int):=by rw [wrap_i64 (by omega) (by omega)]; omega
   simp only [w_seq,BZ1,Nat.reduceLT,movK,Nat.reduceBEq,dropLk,BZ2,BQ,e1,BP,cd,w1,BZ3,cv3_267,w2,constDV,b_shr1,w3,cv267_3,w4,takK,if_true,List.map_cons,List.map_nil,hcap,if_false]
   refine hp ((i + j) / 2) (by omega) _ ?_
   cases hpm : p ((i + j) / 2)
   ·simp only [BZ1,BZ2,Pos.isHp,BQ,BP,dropLk,Nat.reduceLT,cd,movK,Nat.reduceBEq,constDV,w5,takK,List.map_cons,List.map_nil,if_false]
    refine ⟨_,?_,(i + j) / 2 + 1,j,by omega,hjn,rfl,fun k hk => ?_,hhi,rfl⟩
    ·omega
    ·cases hpk : p k
     ·rfl
     ·have:=hm k ((i + j) / 2) (by omega) (by omega) hpk
      rw [hpm] at this; cases this
   ·simp only [BZ1,BZ2,Pos.isHp,BQ,BP,dropLk,Nat.reduceLT,cd,movK,Nat.reduceBEq,constDV,w5,takK,List.map_cons,List.map_nil,if_false]
    refine ⟨_,?_,i,(i + j) / 2,by omega,by omega,rfl,hlo,fun k h1 h2 => hm _ k h1 h2 hpm,rfl⟩
    omega
  ·obtain rfl : i = j:=by omega
   have e1 : ¬ (i : Int) < i:=by omega
   simp only [w_seq,BZ1,Nat.reduceLT,movK,Nat.reduceBEq,dropLk,BZ2,BQ,e1,BP,cd,BZ3,cv3_267,constDV,b_shr1,cv267_3,takK,if_true,List.map_cons,List.map_nil,if_false]
   exact hK i hjn hlo hhi
noncomputable def b166 : Code:=(Go.Proofs.Tryz.f166.body).getD .skip
theorem hb166 : Go.Proofs.Tryz.f166.body = some b166:=by kernel_rfl
def SFirst : Spec:=fun H args K => ∃ (v : DV) (es : List Ent) (key : Str) (n : Int),args = [v,.str key,.int .i64 n]∧RowV H v es∧Sorted es∧es.length < 4611686018427387904∧∀ H',Fr [] H H'→K H' (.int .i64 (firstE es key n))
theorem appFirst {H : List HObj} {K : List HObj→DV→Prop} {v : DV} {key : Str} {n : Int} (es : List Ent) (h1 : RowV H v es) (h2 : Sorted es) (h3 : es.length < 4611686018427387904) (h : ∀ H',Fr [] H H'→K H' (.int .i64 (firstE es key n))) : app SFirst H [v,.str key,.int .i64 n] K:=⟨v,es,key,n,rfl,h1,h2,h3,h⟩
theorem sorted_mono {es : List Ent} (hs : Sorted es) (t : Ent) : ∀ (i j : Nat) (hij : i≤j) (hj : j < es.length),(!ltE (es[i]'(by omega)) t) = true→(!ltE es[j] t) = true:=by
 intro i j hij hj hp
 by_cases e : i = j
 ·subst e; exact hp
 ·rw [Bool.not_eq_true',Bool.eq_false_iff] at hp ⊢
  intro h
  have:=List.pairwise_iff_getElem.1 hs i j (by omega) hj (by omega)
  exact hp (ltE_trans this h)
theorem rcFirst {I : Jd pp} (hI : ∀ w e,I.Ok w e) (hC : RC I 135 SCs) : RC I 166 SFirst:=by
 refine rc_of_code (isObj:=isF) (Γ:=envOf [(224,SF1),(223,SSearch 224 SF1)]) (rs:=[6]) mixed hI (envOf_rc (by simpa using ⟨rcF1 hI hC,rcSearch hI (rcF1 hI hC)⟩)) Go.Proofs.Tryz.func166 (by kernel_rfl) hb166 Go.Proofs.Tryz.results166 Go.Proofs.Tryz.ntmps166 (by decide) ?_
 rintro H args K ⟨v,es,key,n,rfl,hv,hs,hl,hK⟩
 have fin : ∀ (v' : DV) (H' : List HObj),RowV H v' es→H' = H ++ [HObj.cells [v']] ++ [HObj.cells [DV.str key]] ++ [HObj.cells [DV.int .i64 n]]→∀ K' : List HObj→DV→Prop,(∀ i : Nat,i = firstE es key n→K' H' (.int .i64 i)) →
   app (SSearch 224 SF1) H' [.int .i64 es.length,.fn 224 [.ptr H.length 0,.ptr (H.length + 1) 0,.ptr (H.length + 2) 0]] K':=by
  intro v' H' hv' e K' hK'
  have hf : Fr [] H H':=by rw [e,List.append_assoc,List.append_assoc]; exact Fr.app _ _ _
  have g1 : H'[H.length]? = some (.cells [v']):=by rw [e]; simp
  have g2 : H'[H.length + 1]? = some (.cells [.str key]):=by rw [e]; simp
  have g3 : H'[H.length + 2]? = some (.cells [.int .i64 n]):=by rw [e]; simp
  refine ⟨_,fun i => if h : i < es.length then !ltE es[i] ⟨key,n,false,[]⟩ else true,es.length,rfl,hl,rfl,?_,?_,?_⟩
  ·intro i hi K2 h2
   simp only [hi,dif_pos] at h2
   exact ⟨_,_,_,v',es,key,n,i,hi,rfl,g1,hv'.fr0 hf,g2,g3,hl,h2⟩
  ·intro i j hij hj hp
   have hi : i < es.length:=by omega
   simp only [hi,hj,dif_pos] at hp ⊢
   exact sorted_mono hs _ i j hij hj hp
  ·intro i hi h1 h2
   refine hK' i (firstE_of hi (fun j hj hji => ?_) fun hi' => ?_).symm
   ·have:=h1 j hji
    simpa [hj] using this
   ·have:=h2 i (Nat.le_refl _) hi'
    simpa [hi'] using this
 rcases hv with ⟨own,rfl⟩ | ⟨id,off,cap,rfl,hr⟩
 ·have e4 : (rowD es).length = es.length:=by simp [rowD]
  refine ⟨by simp,rfl,?_⟩
  unfold b166 Go.Proofs.Tryz.f166
  simp only [Option.getD_some,argSlots,BZ2,BQ,Nat.reduceAdd,w_seq,BZ1,BZ3,Nat.reduceLT,takK,lkGet,isF_eq,Nat.reduceBEq,dropLk,bgen_eq,if_true,BP,constDV,la125,addrPos,ia125,if_false,dl125,e4,Pos.atSlot,DV.plain,List.forall_mem_cons,forall_eq,List.map_cons,List.map_nil,Nat.reduceEqDiff]
  refine fin (.sl false 4 (rowD es)) _ (.inl ⟨_,rfl⟩) (by simp) _ fun i hi => ?_
  simp only [BZ1,BZ2,Pos.isHp,BQ,if_false,BP,dropLk,Nat.reduceLT,takK]
  rw [hi]
  exact hK _ (Fr.app _ _ _)
 ·have hv' : RowV H (.hsl id 4 off es.length cap) es:=.inr ⟨id,off,cap,rfl,hr⟩
  refine ⟨by simp,rfl,?_⟩
  unfold b166 Go.Proofs.Tryz.f166
  simp only [Option.getD_some,argSlots,BZ2,BQ,Nat.reduceAdd,w_seq,BZ1,BZ3,Nat.reduceLT,takK,isF_eq,Nat.reduceBEq,dropLk,bgen_eq,if_true,BP,constDV,la125,dlh125,DV.plain,List.forall_mem_cons,forall_eq,List.map_cons,List.map_nil,Nat.reduceEqDiff,if_false]
  refine fin (.hsl id 4 off es.length cap) _ hv' (by simp) _ fun i hi => ?_
  simp only [hold_app2,mk_called,Pos.isHp,BQ,BP,dropLk,hold_app,tS_cons,g_none,o_assign,Nat.reduceLT,take_tmp,takK,look_hit,vroA_int,mk_put,tS_nil,w_ret,ret_one,vfla_int]
  rw [hi]
  exact hK _ (Fr.app _ _ _)
theorem sorted_step {es : List Ent} {i : Nat} (h : i < es.length) (hs : Sorted (es.take i)) (hz : i ≠ 0) : Sorted (es.take (i + 1)) ↔ ltE (es[i - 1]'(by omega)) es[i] = true:=by
 rw [List.take_succ_eq_append_getElem h,Sorted,List.pairwise_append]
 constructor
 ·rintro ⟨_,_,h3⟩
  exact h3 _ (List.mem_take_iff_getElem.2 ⟨i - 1,by omega,rfl⟩) _ (by simp)
 ·intro h3
  refine ⟨hs,by simp,fun a ha b hb => ?_⟩
  obtain rfl : b = es[i]:=by simpa using hb
  obtain ⟨j,hj,rfl⟩:=List.mem_take_iff_getElem.1 ha
  by_cases e : j = i - 1
  ·subst e; exact h3
  ·have:=List.pairwise_iff_getElem.1 hs j (i - 1) (by simp; omega) (by simp; omega) (by omega)
   simp at this
   exact ltE_trans this h3
noncomputable def b163 : Code:=(Go.Proofs.Tryz.f163.body).getD .skip
theorem hb163 : Go.Proofs.Tryz.f163.body = some b163:=by kernel_rfl
def SSorted : Spec:=fun H args K => ∃ (v : DV) (es : List Ent),args = [v]∧RowV H v es∧es.length < 4611686018427387904∧(Sorted es→K H (.bool true))∧(¬ Sorted es→K H (.bool false))
theorem appSorted {H : List HObj} {K : List HObj→DV→Prop} {v : DV} (es : List Ent) (h1 : RowV H v es) (h2 : Sorted es) (h3 : es.length < 4611686018427387904) (h : K H (.bool true)) : app SSorted H [v] K:=⟨v,es,rfl,h1,h3,fun _ => h,fun q => absurd h2 q⟩
def MSd (H : List HObj) (v : DV) (es : List Ent) (m : Nat) (st : St) : Prop:=∃ i : Nat,i≤es.length∧m = es.length - i∧Sorted (es.take i)∧st = mk 23 [(0,v),(5,.int .i64 es.length),(6,.int .i64 i)] [] H []
theorem rcSorted {I : Jd pp} (hI : ∀ w e,I.Ok w e) (hC : RC I 135 SCs) : RC I 163 SSorted:=by
 refine rc_of_code (isObj:=noO) (Γ:=envOf [(164,SLe)]) (rs:=[2]) mixed hI (envOf_rc (by simpa using rcLe hI hC)) Go.Proofs.Tryz.func163 (by kernel_rfl) hb163 Go.Proofs.Tryz.results163 Go.Proofs.Tryz.ntmps163 (by decide) ?_
 rintro H args K ⟨v,es,rfl,hv,hl,hK1,hK2⟩
 rcases hv with ⟨own,rfl⟩ | ⟨id,off,cap,rfl,hr⟩
 ·have e4 : (rowD es).length = es.length:=by simp [rowD]
  refine ⟨by simp,rfl,?_⟩
  unfold b163 Go.Proofs.Tryz.f163
  simp only [Option.getD_some,argSlots,BZ3,BZ1,BZ2,BP,w_seq,constDV,dropLk,Nat.reduceLT,movK,Nat.reduceBEq,lkGet,dl125,e4]
  refine w_loop [0,5,6] (MSd H (.sl false 4 (rowD es)) es) es.length ?_ ?_
  ·exact ⟨0,by omega,by omega,by simp [Sorted],by simp only [BZ3,BZ1,BZ2,mk_put?_some,mk_put?_none,List.map_cons,Nat.reduceBEq,List.map_nil]; try rfl⟩
  ·rintro m st ⟨i,hi,rfl,hs,rfl⟩
   by_cases e : i < es.length
   ·have e1 : (i : Int) < es.length:=by omega
    have wi : IntKind.i64.wrap ((i : Int) + 1) = ((i + 1 : Nat) : Int):=by rw [wrap_i64 (by omega) (by omega)]; omega
    by_cases hz : i = 0
    ·subst hz
     have q : (0 : Int) < es.length:=by omega
     have w0 : IntKind.i64.wrap 1 = 1:=by decide
     simp only [BZ3,w_seq,BZ1,BZ2,BQ,Nat.reduceLT,Nat.reduceBEq,q,BP,dropLk,cd,movK,takK,constDV,Int.reduceAdd,w0,List.map_cons,List.map_nil,if_false,reduceCtorEq,if_true]
     refine ⟨_,?_,1,by omega,rfl,?_,rfl⟩
     ·omega
     ·cases es with
      | nil => simp [Sorted]
      | cons a r => simp [Sorted]
    ·have q : ¬ (i : Int) = 0:=by omega
     have w2 : IntKind.i64.wrap ((i : Int) - 1) = ((i - 1 : Nat) : Int):=by rw [wrap_i64 (by omega) (by omega)]; omega
     have q1 : (0 : Int)≤i:=by omega
     have q2 : (0 : Int)≤((i - 1 : Nat) : Int):=by omega
     have q3 : ((i - 1 : Nat) : Int) < es.length:=by omega
     have hi1 : i - 1 < es.length:=by omega
     have e3 : (rowD es).getD i .undef = .agg (es[i]).cells:=by simp [rowD,List.getD,e]
     have e5 : (rowD es).getD (i - 1) .undef = .agg (es[i - 1]).cells:=by simp [rowD,List.getD,hi1]
     simp only [w_seq,BZ1,BZ2,BQ,Nat.reduceLT,Nat.reduceBEq,e1,BP,dropLk,cd,movK,takK,constDV,b_eql,q,List.map_cons,List.map_nil,if_false,reduceCtorEq,if_true]
     refine w_draw [9] (.quiet 0 (.quiet 1 (.quiet 2 (.quiet 3 (.quiet 4 (.quiet 5 (.quiet 6 (.quiet 7 (.quiet 8 (.acts [(9,[],.quiet 10 (.done))])))))))))) (by decide) (by kernel_rfl) ?_
     simp only [BZ1,BZ2,Nat.reduceLT,Nat.reduceBEq,dropLk,BZ3,constDV,w2,BP,ix125,q2,e4,q3,BQ,e5,Ent.cells,la138,Nat.reduceAdd,Nat.reduceLeDiff,List.map_cons,List.map_nil,q1,e1,e3,if_true]
     refine appLe ?_
     simp only [BZ1,BZ2,Pos.isHp,BQ,BP,dropLk,dropLks,Nat.reduceLT,rp_done,cd,w_seq,constDV,Nat.reduceBEq,movK,List.map_cons,List.map_nil,if_false]
     have hs2 : Sorted (es.take (i + 1)) ↔ ltE es[i - 1] es[i] = true:=sorted_step e hs hz
     refine ⟨fun h => ?_,fun h => ?_⟩
     ·exact hK2 fun hs3 => by
       have:=hs2.1 (hs3.sublist (List.take_sublist _ _))
       rw [show ltE es[i - 1] es[i] = ltE ⟨es[i - 1].key,es[i - 1].seq,es[i - 1].del,es[i - 1].val⟩ ⟨es[i].key,es[i].seq,es[i].del,es[i].val⟩ from rfl] at this
       rw [this] at h; cases h
     ·simp only [wi]
      refine ⟨_,?_,i + 1,by omega,rfl,hs2.2 (by simpa using h),rfl⟩
      omega
   ·obtain rfl : i = es.length:=by omega
    have e1 : ¬ (es.length : Int) < es.length:=by omega
    simp only [w_seq,BZ1,BZ2,BQ,Nat.reduceLT,Nat.reduceBEq,e1,BP,dropLk,cd,movK,takK,constDV,b_eql,List.map_cons,List.map_nil,if_false,reduceCtorEq,if_true]
    rw [List.take_length] at hs
    exact hK1 hs
 ·skip
  refine ⟨by simp,rfl,?_⟩
  unfold b163 Go.Proofs.Tryz.f163
  simp only [Option.getD_some,argSlots,BZ3,BZ2,BZ1,w_seq,BP,constDV,dropLk,Nat.reduceLT,movK,Nat.reduceBEq,dlh125]
  refine w_loop [0,5,6] (MSd H (.hsl id 4 off es.length cap) es) es.length ?_ ?_
  ·exact ⟨0,by omega,by omega,by simp [Sorted],by simp only [BZ3,BZ1,BZ2,mk_put?_some,mk_put?_none,List.map_cons,Nat.reduceBEq,List.map_nil]; try rfl⟩
  ·rintro m st ⟨i,hi,rfl,hs,rfl⟩
   by_cases e : i < es.length
   ·have e1 : (i : Int) < es.length:=by omega
    have wi : IntKind.i64.wrap ((i : Int) + 1) = ((i + 1 : Nat) : Int):=by rw [wrap_i64 (by omega) (by omega)]; omega
    by_cases hz : i = 0
    ·subst hz
     have q : (0 : Int) < es.length:=by omega
     have w0 : IntKind.i64.wrap 1 = 1:=by decide
     simp only [BZ3,w_seq,BZ1,BZ2,BQ,Nat.reduceLT,Nat.reduceBEq,q,BP,dropLk,cd,movK,takK,constDV,Int.reduceAdd,w0,List.map_cons,List.map_nil,if_false,reduceCtorEq,if_true]
     refine ⟨_,?_,1,by omega,rfl,?_,rfl⟩
     ·omega
     ·cases es with
      | nil => simp [Sorted]
      | cons a r => simp [Sorted]
    ·have q : ¬ (i : Int) = 0:=by omega
     have w2 : IntKind.i64.wrap ((i : Int) - 1) = ((i - 1 : Nat) : Int):=by rw [wrap_i64 (by omega) (by omega)]; omega
     have q1 : (0 : Int)≤i:=by omega
     have q2 : (0 : Int)≤((i - 1 : Nat) : Int):=by omega
     have q3 : ((i - 1 : Nat) : Int) < es.length:=by omega
     have hi1 : i - 1 < es.length:=by omega
     obtain ⟨cs,h1,h2⟩:=hr.2 (by rintro rfl; simp at e)
     obtain ⟨d1,d2⟩:=hrow_get h2 e
     obtain ⟨d3,d4⟩:=hrow_get h2 hi1
     simp only [w_seq,BZ1,BZ2,BQ,Nat.reduceLT,Nat.reduceBEq,e1,BP,dropLk,cd,movK,takK,constDV,b_eql,q,List.map_cons,List.map_nil,if_false,reduceCtorEq,if_true]
     refine w_draw [9] (.quiet 0 (.quiet 1 (.quiet 2 (.quiet 3 (.quiet 4 (.quiet 5 (.quiet 6 (.quiet 7 (.quiet 8 (.acts [(9,[],.quiet 10 (.done))])))))))))) (by decide) (by kernel_rfl) ?_
     simp only [BZ1,BZ2,Nat.reduceLT,Nat.reduceBEq,dropLk,BZ3,constDV,w2,BP,ixh125,q2,q3,BQ,h1,la138,d3,d4,Ent.cells,List.map_cons,List.map_nil,q1,e1,d1,d2,if_true]
     refine appLe ?_
     simp only [BZ1,BZ2,Pos.isHp,BQ,BP,dropLk,dropLks,Nat.reduceLT,rp_done,cd,w_seq,constDV,Nat.reduceBEq,movK,List.map_cons,List.map_nil,if_false]
     have hs2 : Sorted (es.take (i + 1)) ↔ ltE es[i - 1] es[i] = true:=sorted_step e hs hz
     refine ⟨fun h => ?_,fun h => ?_⟩
     ·exact hK2 fun hs3 => by
       have:=hs2.1 (hs3.sublist (List.take_sublist _ _))
       rw [show ltE es[i - 1] es[i] = ltE ⟨es[i - 1].key,es[i - 1].seq,es[i - 1].del,es[i - 1].val⟩ ⟨es[i].key,es[i].seq,es[i].del,es[i].val⟩ from rfl] at this
       rw [this] at h; cases h
     ·simp only [wi]
      refine ⟨_,?_,i + 1,by omega,rfl,hs2.2 (by simpa using h),rfl⟩
      omega
   ·obtain rfl : i = es.length:=by omega
    have e1 : ¬ (es.length : Int) < es.length:=by omega
    simp only [w_seq,BZ1,BZ2,BQ,Nat.reduceLT,Nat.reduceBEq,e1,BP,dropLk,cd,movK,takK,constDV,b_eql,List.map_cons,List.map_nil,if_false,reduceCtorEq,if_true]
    rw [List.take_length] at hs
    exact hK1 hs
end Go.Ab.En
