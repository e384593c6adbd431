/- A part of the proof; no condition of its own. -/
import Derived.Test.YtoebbafmopdfbaaGreatDoorEnAB
set_option linter.unusedSimpArgs false
set_option linter.unusedVariables false
/- EnBD: The engine's laws: what a snap tells. -/
namespace Go.Ab.En
open Go Go.Conc Go.RowKit Go.Ab
set_option maxRecDepth 10000
theorem SnapAt.fr {H H' : List HObj} {S : List Nat} {s x : Nat} {n : Int} {o : Bool} (h : SnapAt H s x n o) (f : Fr S H H') (hs : s ∉ S) : SnapAt H' s x n o:=f.get h hs
noncomputable def b57 : Code:=(Go.Proofs.Tryz.f57.body).getD .skip
theorem hb57 : Go.Proofs.Tryz.f57.body = some b57:=by kernel_rfl
def SSnGet : Spec:=fun H args K => ∃ (E : EngS) (s : Nat) (n : Int) (o : Bool) (k : Str),args = [.ptr s 0,.str k]∧SnapAt H s E.x n o∧E.At H∧E.es.length < 100000000 ∧
 (o = true→K H (.tup [.str [],.bool false,.int .i64 18])) ∧
 (o = false→∀ H' v,Fr [] H H'→((seenE E.es k (min n E.seq)).isSome = true→seenE E.es k (min n E.seq) = some v)→K H' (.tup [.str v,.bool (seenE E.es k (min n E.seq)).isSome,.int .i64 0]))
theorem rcSnGet {I : Jd pp} (hI : ∀ w e,I.Ok w e) (hC : RC I 135 SCs) : RC I 57 SSnGet:=by
 refine rc_of_code (isObj:=noO) (Γ:=envOf [(26,SGet)]) (rs:=[4,5,6]) mixed hI (envOf_rc (by simpa using rcGet hI hC)) Go.Proofs.Tryz.func57 (by kernel_rfl) hb57 Go.Proofs.Tryz.results57 Go.Proofs.Tryz.ntmps57 (by decide) ?_
 rintro H args K ⟨E,s,n,o,k,rfl,h1,h2,hl,hK1,hK2⟩
 refine ⟨by simp,rfl,?_⟩
 unfold b57 Go.Proofs.Tryz.f57
 cases o
 ·simp only [Option.getD_some,argSlots,BZ2,BQ,w_seq,BZ1,constDV,dropLk,Nat.reduceLT,movK,Nat.reduceBEq,dnil,BP,fp128_2,show H[s]? = _ from h1,dlh_some,List.drop_succ_cons,List.drop_zero,la4,vro_bool,lo_bool,w_cond,cd_f,w_skip]
  refine w_draw [9,13,14,15] (.quiet 0 (.quiet 1 (.quiet 2 (.quiet 3 (.quiet 4 (.quiet 5 (.quiet 6 (.quiet 7 (.quiet 8 (.acts [(9,[],.quiet 10 (.quiet 11 (.quiet 12 (.acts [(13,[],.acts [(14,[],.acts [(15,[],.done)])])]))))])))))))))) (by decide) (by kernel_rfl) ?_
  simp only [mk_clean,rp_quiet,rpQ_zero,g_none,hold_app,q_move,Nat.reduceLT,rho_tmp,Nat.reduceBEq,look_miss,look_hit,vroA_ptr,ex_eq,mk_put,dropLk,rpQ_succ,q_nilCheck,dnil,q_fieldAddr,fp128_0,BQ,q_load,ld_h,show H[s]? = _ from h1,dlh_some,List.drop_zero,la23,vro_ptr,vroA_str,fp128_1,Nat.zero_add,List.drop_succ_cons,la3,vro_int,rp_acts,ra_cons,rpA_succ,rpA_zero,o_fn,args_cons,args_nil,mk_H,env_cons,if_true,dcl_some,List.all_cons,vfla_ptr,vfla_str,vfla_int,List.all_nil,Bool.and_self,List.map_cons,vro_str,List.map_nil,true_and,ra_nil,and_true]
  refine ⟨E,k,n,rfl,h2,hl,fun H' v f hv => ?_⟩
  simp only [BZ1,BZ2,Pos.isHp,BQ,BP,dropLk,dropLks,q_extract,Nat.reduceLT,Nat.reduceBEq,BZ3,takK,ret_three]
  exact hK2 rfl H' v f hv
 ·simp only [Option.getD_some,argSlots,BZ2,BQ,w_seq,BZ1,constDV,dropLk,Nat.reduceLT,movK,Nat.reduceBEq,dnil,BP,fp128_2,show H[s]? = _ from h1,dlh_some,List.drop_succ_cons,List.drop_zero,la4,vro_bool,lo_bool,w_cond,cd_t,w_ret,ret_three,vfla_str,vfla_bool,vfla_int,and_true,true_and]
  exact hK1 rfl
theorem appSnGet0 {H : List HObj} {K : List HObj→DV→Prop} {E : EngS} {s : Nat} {n : Int} {k : Str} (h1 : SnapAt H s E.x n false) (h2 : E.At H) (hl : E.es.length < 100000000) (h : ∀ H' v,Fr [] H H'→((seenE E.es k (min n E.seq)).isSome = true→seenE E.es k (min n E.seq) = some v)→K H' (.tup [.str v,.bool (seenE E.es k (min n E.seq)).isSome,.int .i64 0])) : app SSnGet H [.ptr s 0,.str k] K :=
 ⟨E,s,n,false,k,rfl,h1,h2,hl,(by intro h; cases h),fun _ => h⟩
theorem appSnGet1 {H : List HObj} {K : List HObj→DV→Prop} {E : EngS} {s : Nat} {n : Int} {k : Str} (h1 : SnapAt H s E.x n true) (h2 : E.At H) (hl : E.es.length < 100000000) (h : K H (.tup [.str [],.bool false,.int .i64 18])) : app SSnGet H [.ptr s 0,.str k] K :=
 ⟨E,s,n,true,k,rfl,h1,h2,hl,fun _ => h,(by intro h; cases h)⟩
noncomputable def b58 : Code:=(Go.Proofs.Tryz.f58.body).getD .skip
theorem hb58 : Go.Proofs.Tryz.f58.body = some b58:=by kernel_rfl
def SSnScan : Spec:=fun H args K => ∃ (E : EngS) (s : Nat) (n : Int) (o : Bool) (a b : Str),args = [.ptr s 0,.str a,.str b]∧SnapAt H s E.x n o∧E.At H∧E.es.length < 100000000∧Sorted E.es ∧
 (o = true→K H (.tup [.sl true 2 [],.int .i64 18])) ∧
 (o = false→∀ H',Fr [] H H'→K H' (.tup [.sl false 2 ((scanE E.es a b (min n E.seq)).map prD),.int .i64 0]))
theorem rcSnScan {I : Jd pp} (hI : ∀ w e,I.Ok w e) (hS : RC I 42 SScan) : RC I 58 SSnScan:=by
 refine rc_of_code (isObj:=noO) (Γ:=envOf [(42,SScan)]) (rs:=[6,7]) mixed hI (envOf_rc (by simpa using hS)) Go.Proofs.Tryz.func58 (by kernel_rfl) hb58 Go.Proofs.Tryz.results58 Go.Proofs.Tryz.ntmps58 (by decide) ?_
 rintro H args K ⟨E,s,n,o,a,b,rfl,h1,h2,hl,hs,hK1,hK2⟩
 refine ⟨by simp,rfl,?_⟩
 unfold b58 Go.Proofs.Tryz.f58
 cases o
 ·simp only [Option.getD_some,argSlots,BZ2,BQ,Nat.reduceAdd,w_seq,BZ1,constDV,Proofs.Tryz.underlying64,cn96,dropLk,Nat.reduceLT,movK,Nat.reduceBEq,dnil,BP,fp128_2,show H[s]? = _ from h1,dlh_some,List.drop_succ_cons,List.drop_zero,la4,vro_bool,lo_bool,w_cond,cd_f,w_skip]
  refine w_draw [10,13,14] (.quiet 0 (.quiet 1 (.quiet 2 (.quiet 3 (.quiet 4 (.quiet 5 (.quiet 6 (.quiet 7 (.quiet 8 (.quiet 9 (.acts [(10,[],.quiet 11 (.quiet 12 (.acts [(13,[],.acts [(14,[],.done)])])))]))))))))))) (by decide) (by kernel_rfl) ?_
  simp only [mk_clean,rp_quiet,rpQ_zero,g_none,hold_app,q_move,Nat.reduceLT,rho_tmp,Nat.reduceBEq,look_miss,look_hit,vroA_ptr,ex_eq,mk_put,dropLk,rpQ_succ,q_nilCheck,dnil,q_fieldAddr,fp128_0,BQ,q_load,ld_h,show H[s]? = _ from h1,dlh_some,List.drop_zero,la23,vro_ptr,vroA_str,fp128_1,Nat.zero_add,List.drop_succ_cons,la3,vro_int,rp_acts,ra_cons,rpA_succ,rpA_zero,o_fn,args_cons,args_nil,mk_H,env_cons,if_true,dcl_some,List.all_cons,vfla_ptr,vfla_str,vfla_int,List.all_nil,Bool.and_self,List.map_cons,vro_str,List.map_nil,true_and,ra_nil,and_true]
  refine ⟨E,a,b,n,rfl,h2,hl,hs,fun H' f => ?_⟩
  simp only [BZ1,BZ2,Pos.isHp,BQ,BP,dropLk,dropLks,q_extract,Nat.reduceLT,Nat.reduceBEq,takK,lkGet,BZ3]
  exact hK2 rfl H' f
 ·simp only [Option.getD_some,argSlots,BZ2,BQ,Nat.reduceAdd,w_seq,BZ1,constDV,Proofs.Tryz.underlying64,cn96,dropLk,Nat.reduceLT,movK,Nat.reduceBEq,dnil,BP,fp128_2,show H[s]? = _ from h1,dlh_some,List.drop_succ_cons,List.drop_zero,la4,vro_bool,lo_bool,w_cond,cd_t,w_ret,ret_two,vfla_sl,vfla_int,and_true,true_and]
  exact hK1 rfl
theorem appSnScan0 {H : List HObj} {K : List HObj→DV→Prop} {E : EngS} {s : Nat} {n : Int} {a b : Str} (h1 : SnapAt H s E.x n false) (h2 : E.At H) (hl : E.es.length < 100000000) (hs : Sorted E.es) (h : ∀ H',Fr [] H H'→K H' (.tup [.sl false 2 ((scanE E.es a b (min n E.seq)).map prD),.int .i64 0])) : app SSnScan H [.ptr s 0,.str a,.str b] K :=
 ⟨E,s,n,false,a,b,rfl,h1,h2,hl,hs,(by intro h; cases h),fun _ => h⟩
theorem appSnScan1 {H : List HObj} {K : List HObj→DV→Prop} {E : EngS} {s : Nat} {n : Int} {a b : Str} (h1 : SnapAt H s E.x n true) (h2 : E.At H) (hl : E.es.length < 100000000) (hs : Sorted E.es) (h : K H (.tup [.sl true 2 [],.int .i64 18])) : app SSnScan H [.ptr s 0,.str a,.str b] K :=
 ⟨E,s,n,true,a,b,rfl,h1,h2,hl,hs,fun _ => h,(by intro h; cases h)⟩
noncomputable def b59 : Code:=(Go.Proofs.Tryz.f59.body).getD .skip
theorem hb59 : Go.Proofs.Tryz.f59.body = some b59:=by kernel_rfl
def SSnClose : Spec:=fun H args K => ∃ (E : EngS) (hd : Hd) (s : Nat) (n : Int) (o : Bool),args = [.ptr s 0]∧SnapAt H s E.x n o∧E.At H∧s ∉ E.all∧E.held = encI hd∧0≤cntI hd n∧cntI hd n < 1000000000 ∧
 (o = true→K H (.tup [])) ∧
 (o = false→∀ H',Fr [E.hm,s] H H'→EngS.At { E with held:=encI (freeH hd n) } H'→SnapAt H' s E.x n true→K H' (.tup []))
theorem rcSnClose {I : Jd pp} (hI : ∀ w e,I.Ok w e) : RC I 59 SSnClose:=by
 refine rc_of_code (isObj:=noO) (Γ:=envOf [(55,SFree)]) (rs:=[]) mixed hI (envOf_rc (by simpa using rcFree hI)) Go.Proofs.Tryz.func59 (by kernel_rfl) hb59 Go.Proofs.Tryz.results59 Go.Proofs.Tryz.ntmps59 (by decide) ?_
 rintro H args K ⟨E,hd,s,n,o,rfl,h1,h2,hs,hh,c0,c1,hK1,hK2⟩
 refine ⟨by simp,rfl,?_⟩
 unfold b59 Go.Proofs.Tryz.f59
 cases o
 ·simp only [Option.getD_some,argSlots,BZ2,w_seq,BZ1,Nat.reduceLT,movK,dropLk,dnil,BP,fp128_2,BQ,show H[s]? = _ from h1,dlh_some,List.drop_succ_cons,List.drop_zero,la4,vro_bool,lo_bool,o_un,u_not,Bool.not_false,tS_nil,hold_app2,w_cond,cd_t]
  refine w_draw [8] (.quiet 0 (.quiet 1 (.quiet 2 (.quiet 3 (.quiet 4 (.quiet 5 (.quiet 6 (.quiet 7 (.acts [(8,[],.done)]))))))))) (by decide) (by kernel_rfl) ?_
  simp only [mk_clean,rp_quiet,rpQ_zero,g_none,hold_app,q_move,Nat.reduceLT,rho_tmp,Nat.reduceBEq,look_miss,look_hit,vroA_ptr,ex_eq,mk_put,dropLk,rpQ_succ,q_nilCheck,dnil,q_fieldAddr,fp128_0,BQ,q_load,ld_h,show H[s]? = _ from h1,dlh_some,List.drop_zero,la23,vro_ptr,fp128_1,Nat.zero_add,List.drop_succ_cons,la3,vro_int,rp_acts,ra_cons,rpA_succ,rpA_zero,o_fn,args_cons,args_nil,mk_H,env_cons,if_true,dcl_some,List.all_cons,vfla_ptr,vfla_int,List.all_nil,Bool.and_self,List.map_cons,List.map_nil,true_and,ra_nil,and_true]
  refine ⟨E,hd,n,rfl,h2,hh,c0,c1,fun H1 f1 l1 a1 => ?_⟩
  have hsm : s ∉ [E.hm]:=fun h => hs (by simp [EngS.all,EngS.parts] at h ⊢; simp [h])
  have g1 : SnapAt H1 s E.x n false:=h1.fr f1 hsm
  simp only [BZ1,BZ2,Pos.isHp,BQ,BP,dropLk,dropLks,rp_done,Nat.reduceLT,movK,Nat.reduceBEq,dnil,fp128_2,constDV,show H1[s]? = _ from g1,sth_some,Proofs.Tryz.underlying4,Option.isSome_some,vcl_bool,List.length_cons,List.length_nil,cn4,List.all_cons,vsca_bool,List.all_nil,Bool.and_self,Nat.reduceAdd,Nat.reduceLeDiff,putAt_eq,List.take_succ_cons,List.take_zero,List.cons_append,List.nil_append,List.drop_succ_cons,List.drop_nil,List.append_nil,mk_setH,Pos.inHp,tS_nil,ret_none',true_and]
  refine hK2 rfl _ ((f1.trans (Fr.set _ s _)).mono (by simp)) (a1.frs (Fr.set _ _ _) ?_) (List.getElem?_set_self (List.getElem?_eq_some_iff.1 g1).1)
  intro y hy
  rw [List.mem_singleton.1 hy]
  exact hs
 ·simp only [Option.getD_some,argSlots,BZ2,w_seq,BZ1,Nat.reduceLT,movK,dropLk,dnil,BP,fp128_2,BQ,show H[s]? = _ from h1,dlh_some,List.drop_succ_cons,List.drop_zero,la4,vro_bool,lo_bool,o_un,u_not,Bool.not_true,tS_nil,hold_app2,w_cond,cd_f,w_skip,ret_none']
  exact hK1 rfl
noncomputable def b21 : Code:=(Go.Proofs.Tryz.f21.body).getD .skip
theorem hb21 : Go.Proofs.Tryz.f21.body = some b21:=by kernel_rfl
def SSnChg : Spec:=fun H args K => ∃ (E : EngS) (s : Nat) (n : Int) (o : Bool) (k : Str),args = [.ptr s 0,.str k]∧SnapAt H s E.x n o∧E.At H∧E.es.length < 100000000 ∧
 (o = true→∀ H',Fr [] H H'→K H' (.tup [.bool false,.int .i64 18])) ∧
 (o = false→∀ H',Fr [] H H'→K H' (.tup [.bool (!decide (seenE E.es k (min n E.seq) = seenE E.es k E.seq)),.int .i64 0]))
theorem pairsL_eq {k : Str} {a b : Option Str} {v w : Str} (h1 : a.isSome = true→a = some v) (h2 : b.isSome = true→b = some w) : decide (pairsL k v a.isSome = pairsL k w b.isSome) = decide (a = b):=by
 cases a <;> cases b <;> simp [pairsL] at h1 h2 ⊢
 subst h1 h2; rfl
theorem pairsL_len (k v : Str) (b : Bool) : (pairsL k v b).length < 100000000:=by cases b <;> simp [pairsL]
set_option maxHeartbeats 4000000 in
theorem rcSnChg {I : Jd pp} (hI : ∀ w e,I.Ok w e) (hC : RC I 135 SCs) : RC I 21 SSnChg:=by
 refine rc_of_code (isObj:=noO) (Γ:=envOf [(57,SSnGet),(25,SSeq),(26,SGet),(79,SPairs),(78,SChg)]) (rs:=[4,5]) mixed hI (envOf_rc (by simpa using ⟨rcSnGet hI hC,rcSeq hI,rcGet hI hC,rcPairs hI,rcChg hI⟩)) Go.Proofs.Tryz.func21 (by kernel_rfl) hb21 Go.Proofs.Tryz.results21 Go.Proofs.Tryz.ntmps21 (by decide) ?_
 rintro H args K ⟨E,s,n,o,k,rfl,h1,h2,hl,hK1,hK2⟩
 refine ⟨by simp,rfl,?_⟩
 unfold b21 Go.Proofs.Tryz.f21
 cases o
 ·simp only [Option.getD_some,argSlots,BZ2,BQ,w_seq,BZ1,constDV,dropLk,Nat.reduceLT,movK,Nat.reduceBEq,Nat.reduceEqDiff,if_false,if_true,List.map_cons,List.map_nil]
  refine appSnGet0 h1 h2 hl fun H1 v f1 hv => ?_
  have a1:=h2.fr0 f1
  have g1 : SnapAt H1 s E.x n false:=h1.fr f1 (by simp)
  simp only [BZ1,BZ2,Pos.isHp,BQ,BP,dropLk,Nat.reduceLT,movK,BZ3,List.map_cons,List.map_nil,extK,Nat.reduceBEq,takK,w_seq,constDV,ne_eq,cd_f,if_false]
  refine w_draw [9,10,15,16,17] (.quiet 0 (.quiet 1 (.quiet 2 (.quiet 3 (.quiet 4 (.quiet 5 (.quiet 6 (.quiet 7 (.quiet 8 (.acts [(9,[4,3,2,1,0],.acts [(10,[],.quiet 11 (.quiet 12 (.quiet 13 (.quiet 14 (.acts [(15,[14,13],.acts [(16,[14],.acts [(17,[],.done)])])])))))])])))))))))) (by decide) (by kernel_rfl) ?_
  simp only [mk_clean,rp_quiet,rpQ_zero,g_none,hold_app,q_move,Nat.reduceLT,rho_tmp,Nat.reduceBEq,look_miss,look_hit,vroA_ptr,ex_eq,mk_put,dropLk,rpQ_succ,q_nilCheck,dnil,q_fieldAddr,fp128_0,BQ,q_load,ld_h,show H1[s]? = _ from g1,dlh_some,List.drop_zero,la23,vro_ptr,vroA_str,rp_acts,ra_cons,rpA_succ,rpA_zero,o_fn,args_cons,args_nil,mk_H,env_cons,Nat.reduceEqDiff,if_false,if_true,dcl_some,List.all_cons,vfla_ptr,List.all_nil,Bool.and_self,List.map_cons,List.map_nil,true_and,ra_nil,and_true]
  refine appSeq a1 ?_
  simp only [hold_app2,mk_called,Pos.isHp,BQ,BP,dropLk,hold_app,rcA_cons,rcW_succ,rcW_zero,g_none,Nat.reduceLT,mk_t,Nat.reduceBEq,look_miss,look_hit,q_move,rho_tmp,vroA_str,q_load,ld_h,show H1[s]? = _ from g1,dlh_some,List.drop_zero,la23,vro_ptr,q_fieldAddr,fp128_0,Nat.add_zero,q_nilCheck,dnil,vroA_ptr,rcA_nil,and_true,slL_cons,slW_succ,slW_zero,slL_nil,mk_unlink,dropLks,rp_acts,ra_cons,rpA_succ,rpA_zero,o_fn,args_cons,args_nil,mk_H,env_cons,Nat.reduceEqDiff,if_false,if_true,dcl_some,List.all_cons,vfla_ptr,vfla_str,vfla_int,List.all_nil,Bool.and_self,List.map_cons,vro_str,vro_int,List.map_nil,true_and,ra_nil]
  refine ⟨E,k,E.seq,rfl,a1,hl,fun H2 w f2 hw => ?_⟩
  rw [Int.min_self] at hw
  have hmm : min (E.seq : Int) (E.seq : Int) = E.seq:=Int.min_self _
  simp only [hmm,BZ1,BZ2,Pos.isHp,BQ,BP,dropLk,dropLks,Nat.reduceLT,BZ3,List.map_cons,List.map_nil,q_extract,Nat.reduceBEq,takK,w_seq,movK,Nat.reduceEqDiff,if_false,if_true]
  refine appPairs ?_
  simp only [BZ1,BZ2,Pos.isHp,BQ,BP,dropLk,Nat.reduceLT,movK,Nat.reduceBEq,Nat.reduceEqDiff,if_false,if_true,List.map_cons,List.map_nil]
  refine appPairs ?_
  simp only [BZ1,BZ2,Pos.isHp,BQ,BP,dropLk,Nat.reduceLT,movK,Nat.reduceBEq,bs202_1,isO_eq,bsl_f,Nat.reduceEqDiff,if_true,if_false,List.map_cons,List.map_nil]
  refine ⟨_,_,_,_,_,rfl,pairsL_len _ _ _,pairsL_len _ _ _,?_⟩
  simp only [pairsL_eq hv hw,BZ1,BZ2,Pos.isHp,BQ,BP,dropLk,BZ3,Nat.reduceLT,extK,Nat.reduceBEq,takK]
  exact hK2 rfl H2 (f1.trans f2 |>.mono (by simp))
 ·simp only [Option.getD_some,argSlots,BZ2,BQ,w_seq,BZ1,constDV,dropLk,Nat.reduceLT,movK,Nat.reduceBEq,Nat.reduceEqDiff,if_false,if_true,List.map_cons,List.map_nil]
  refine appSnGet1 h1 h2 hl ?_
  simp only [BZ1,BZ2,Pos.isHp,BQ,BP,dropLk,Nat.reduceLT,movK,BZ3,List.map_cons,List.map_nil,extK,Nat.reduceBEq,takK,w_seq,constDV,ne_eq,Int.reduceEq,cd_t,if_false]
  exact hK1 rfl H (Fr.refl _ _)
noncomputable def b20 : Code:=(Go.Proofs.Tryz.f20.body).getD .skip
theorem hb20 : Go.Proofs.Tryz.f20.body = some b20:=by kernel_rfl
def SSnMov : Spec:=fun H args K => ∃ (E : EngS) (s : Nat) (n : Int) (o : Bool) (a b : Str),args = [.ptr s 0,.str a,.str b]∧SnapAt H s E.x n o∧E.At H∧E.es.length < 100000000∧Sorted E.es ∧
 (o = true→∀ H',Fr [] H H'→K H' (.tup [.bool false,.int .i64 18])) ∧
 (o = false→∀ H',Fr [] H H'→K H' (.tup [.bool (!decide (scanE E.es a b (min n E.seq) = scanE E.es a b E.seq)),.int .i64 0]))
theorem scanE_len (es : List Ent) (a b : Str) (n : Int) : (scanE es a b n).length < 100000000:=by simp [scanE]; omega
set_option maxHeartbeats 4000000 in
theorem rcSnMov {I : Jd pp} (hI : ∀ w e,I.Ok w e) (hS : RC I 42 SScan) : RC I 20 SSnMov:=by
 refine rc_of_code (isObj:=noO) (Γ:=envOf [(58,SSnScan),(25,SSeq),(42,SScan),(78,SChg)]) (rs:=[6,7]) mixed hI (envOf_rc (by simpa using ⟨rcSnScan hI hS,rcSeq hI,hS,rcChg hI⟩)) Go.Proofs.Tryz.func20 (by kernel_rfl) hb20 Go.Proofs.Tryz.results20 Go.Proofs.Tryz.ntmps20 (by decide) ?_
 rintro H args K ⟨E,s,n,o,a,b,rfl,h1,h2,hl,hs,hK1,hK2⟩
 refine ⟨by simp,rfl,?_⟩
 unfold b20 Go.Proofs.Tryz.f20
 cases o
 ·simp only [Option.getD_some,argSlots,BZ2,BQ,Nat.reduceAdd,w_seq,BZ1,constDV,dropLk,Nat.reduceLT,movK,Nat.reduceBEq,Nat.reduceEqDiff,if_false,if_true,List.map_cons,List.map_nil]
  refine appSnScan0 h1 h2 hl hs fun H1 f1 => ?_
  have a1:=h2.fr0 f1
  have g1 : SnapAt H1 s E.x n false:=h1.fr f1 (by simp)
  simp only [BZ1,BZ2,Pos.isHp,BQ,BP,dropLk,Nat.reduceLT,movK,BZ3,List.map_cons,List.map_nil,extK,Nat.reduceEqDiff,if_false,Nat.reduceBEq,Pos.atSlot,takK,lkGet,if_true,pt1,reduceCtorEq,w_seq,constDV,ne_eq,cd_f]
  refine w_draw [10,11,15,16] (.quiet 0 (.quiet 1 (.quiet 2 (.quiet 3 (.quiet 4 (.quiet 5 (.quiet 6 (.quiet 7 (.quiet 8 (.quiet 9 (.acts [(10,[5,4,3,2,1,0],.acts [(11,[],.quiet 12 (.quiet 13 (.quiet 14 (.acts [(15,[14],.acts [(16,[],.done)])]))))])]))))))))))) (by decide) (by kernel_rfl) ?_
  simp only [mk_clean,rp_quiet,rpQ_zero,g_none,hold_app,q_move,Nat.reduceLT,rho_tmp,Nat.reduceBEq,look_miss,look_hit,vroA_ptr,ex_eq,mk_put,dropLk,rpQ_succ,q_nilCheck,dnil,q_fieldAddr,fp128_0,BQ,q_load,ld_h,show H1[s]? = _ from g1,dlh_some,List.drop_zero,la23,vro_ptr,vroA_str,rp_acts,ra_cons,rpA_succ,rpA_zero,o_fn,args_cons,args_nil,mk_H,env_cons,Nat.reduceEqDiff,if_false,if_true,dcl_some,List.all_cons,vfla_ptr,List.all_nil,Bool.and_self,List.map_cons,List.map_nil,true_and,ra_nil,and_true]
  refine appSeq a1 ?_
  simp only [hold_app2,mk_called,Pos.isHp,BQ,BP,dropLk,hold_app,rcA_cons,rcW_succ,rcW_zero,g_none,Nat.reduceLT,mk_t,Nat.reduceBEq,look_miss,look_hit,q_move,rho_tmp,vroA_str,q_load,ld_h,show H1[s]? = _ from g1,dlh_some,List.drop_zero,la23,vro_ptr,q_fieldAddr,fp128_0,Nat.add_zero,q_nilCheck,dnil,vroA_ptr,rcA_nil,and_true,slL_cons,slW_succ,slW_zero,slL_nil,mk_unlink,dropLks,rp_acts,ra_cons,rpA_succ,rpA_zero,o_fn,args_cons,args_nil,mk_H,env_cons,Nat.reduceEqDiff,if_false,if_true,dcl_some,List.all_cons,vfla_ptr,vfla_str,vfla_int,List.all_nil,Bool.and_self,List.map_cons,vro_str,vro_int,List.map_nil,true_and,ra_nil]
  refine ⟨E,a,b,E.seq,rfl,a1,hl,hs,fun H2 f2 => ?_⟩
  have hmm : min (E.seq : Int) (E.seq : Int) = E.seq:=Int.min_self _
  simp only [hmm,BZ1,BZ2,Pos.isHp,BQ,BP,dropLk,dropLks,Nat.reduceLT,BZ3,List.map_cons,List.map_nil,q_extract,Nat.reduceBEq,takK,lkGet,w_seq,movK,bs202_1,isO_eq,Nat.reduceEqDiff,if_true,if_false]
  refine ⟨_,_,_,_,_,rfl,scanE_len _ _ _ _,scanE_len _ _ _ _,?_⟩
  simp only [BZ1,BZ2,Pos.isHp,BQ,BP,dropLk,BZ3,Nat.reduceLT,extK,Nat.reduceBEq,takK]
  exact hK2 rfl H2 (f1.trans f2 |>.mono (by simp))
 ·simp only [Option.getD_some,argSlots,BZ2,BQ,Nat.reduceAdd,w_seq,BZ1,constDV,dropLk,Nat.reduceLT,movK,Nat.reduceBEq,Nat.reduceEqDiff,if_false,if_true,List.map_cons,List.map_nil]
  refine appSnScan1 h1 h2 hl hs ?_
  simp only [BZ1,BZ2,Pos.isHp,BQ,BP,dropLk,Nat.reduceLT,movK,BZ3,List.map_cons,List.map_nil,extK,Nat.reduceEqDiff,if_false,Nat.reduceBEq,Pos.atSlot,takK,lkGet,if_true,pt1,reduceCtorEq,w_seq,constDV,ne_eq,Int.reduceEq,cd_t]
  exact hK1 rfl H (Fr.refl _ _)
end Go.Ab.En
