/- A part of the proof; no condition of its own. -/
import Derived.Test.YtoebbafmopdfbaaGreatDoorEnSK
set_option linter.unusedSimpArgs false
set_option linter.unusedVariables false
/- EnP: The engine's laws: a sheet without tables. -/
namespace Go.Ab.En
open Go Go.Conc Go.RowKit Go.Ab
set_option maxRecDepth 10000
def isT : ObjT:=fun t => t == 191
theorem isT_eq {t : TypeId} : isT t = (t == 191):=_root_.id rfl
def Sheet0 (H : List HObj) (sp : Nat) (log seq next : Int) : Prop:=H[sp]? = some (.cells [.sl true 5 [],.int .i64 log,.int .i64 seq,.int .i64 next])
noncomputable def b123 : Code:=(Go.Proofs.Tryz.f123.body).getD .skip
theorem hb123 : Go.Proofs.Tryz.f123.body = some b123:=by kernel_rfl
def SShNew : Spec:=fun H args K => args = []∧∀ H',Fr [] H H'→Sheet0 H' H.length 1 0 1→K H' (.ptr H.length 0)
theorem appShNew {H : List HObj} {K : List HObj→DV→Prop} (h : ∀ H',Fr [] H H'→Sheet0 H' H.length 1 0 1→K H' (.ptr H.length 0)) : app SShNew H [] K:=⟨rfl,h⟩
theorem rcShNew {I : Jd pp} (hI : ∀ w e,I.Ok w e) : RC I 123 SShNew:=by
 refine rc_of_code (isObj:=isT) (Γ:=envOf []) (rs:=[0]) mixed hI (envOf_rc (by simp)) Go.Proofs.Tryz.func123 (by kernel_rfl) hb123 Go.Proofs.Tryz.results123 Go.Proofs.Tryz.ntmps123 (by decide) ?_
 rintro H args K ⟨rfl,hK⟩
 refine ⟨by simp,rfl,?_⟩
 unfold b123 Go.Proofs.Tryz.f123
 simp only [Option.getD_some,argSlots,w_seq,BZ1,constDV,dropLk,bd191,isT_eq,Nat.reduceBEq,nz_f,bd191_1,BZ3,BZ2,BQ,Nat.reduceAdd,Nat.reduceLeDiff,bd191_3,Nat.reduceLT,takK,List.map_cons,List.map_nil,bgen_eq,if_true]
 exact hK _ (Fr.app _ _ _) (by simp [Sheet0])
noncomputable def b234 : Code:=(Go.Proofs.Tryz.f234.body).getD .skip
theorem hb234 : Go.Proofs.Tryz.f234.body = some b234:=by kernel_rfl
def SBtw : Spec:=fun H args K => ∃ n : Int,args = [.int .i64 n]∧0≤n∧n≤1000000∧K H (.bool true)
theorem appBtw {H : List HObj} {K : List HObj→DV→Prop} {n : Int} (h1 : 0≤n) (h2 : n≤1000000) (h : K H (.bool true)) : app SBtw H [.int .i64 n] K:=⟨n,rfl,h1,h2,h⟩
theorem rcBtw {I : Jd pp} (hI : ∀ w e,I.Ok w e) : RC I 234 SBtw:=by
 refine rc_of_code (isObj:=noO) (Γ:=envOf []) (rs:=[2]) mixed hI (envOf_rc (by simp)) Go.Proofs.Tryz.func234 (by kernel_rfl) hb234 Go.Proofs.Tryz.results234 Go.Proofs.Tryz.ntmps234 (by decide) ?_
 rintro H args K ⟨n,rfl,h1,h2,hK⟩
 refine ⟨by simp,rfl,?_⟩
 unfold b234 Go.Proofs.Tryz.f234
 simp only [Option.getD_some,argSlots,BZ2,w_seq,BZ1,constDV,dropLk,Nat.reduceLT,movK,Nat.reduceBEq,BQ,BZ3,h1,BP,gs2_tt,h2,if_true,takK,if_false]
 exact hK
noncomputable def b182 : Code:=(Go.Proofs.Tryz.f182.body).getD .skip
theorem hb182 : Go.Proofs.Tryz.f182.body = some b182:=by kernel_rfl
def SForm0 : Spec:=fun H args K => ∃ (o1 o2 : Bool) (log seq : Int),args = [.agg [.sl o1 1 [],.sl o2 5 [],.int .i64 log,.int .i64 seq]]∧0≤log∧log≤1000000∧0≤seq∧seq≤1000000∧K H (.bool true)
theorem rcForm0 {I : Jd pp} (hI : ∀ w e,I.Ok w e) : RC I 182 SForm0:=by
 refine rc_of_code (isObj:=noO) (Γ:=envOf [(234,SBtw)]) (rs:=[2]) mixed hI (envOf_rc (by simpa using rcBtw hI)) Go.Proofs.Tryz.func182 (by kernel_rfl) hb182 Go.Proofs.Tryz.results182 Go.Proofs.Tryz.ntmps182 (by decide) ?_
 rintro H args K ⟨o1,o2,log,seq,rfl,h1,h2,h3,h4,hK⟩
 refine ⟨by simp,rfl,?_⟩
 unfold b182 Go.Proofs.Tryz.f182
 simp only [Option.getD_some,argSlots,BZ2,List.map_cons,List.map_nil,w_seq,BZ1,BZ3,Nat.reduceLT,takK,BQ,isO_eq,dropLk,bgen_eq,if_false,constDV,Nat.reduceBEq,fl167_1,BP,if_true,la131,addrPos,ia131,dl131,Pos.atSlot]
 refine w_unroll 1 ?_
 simp only [lw_succ,w_seq,BZ1,BZ2,BQ,Nat.reduceLT,Nat.reduceBEq,Int.reduceLT,BP,dropLk,cd_f,fl167_0,if_true,la99,addrPos,ia99,if_false,dl99,BZ3,Pos.atSlot,constDV,Int.reduceLE,movK,gs2_tt,fl167_1,la131,ia131,dl131,fl167_2,la3,List.map_cons,List.map_nil]
 refine appBtw h1 h2 ?_
 simp only [BZ1,BZ2,Pos.isHp,BQ,if_true,BP,dropLk,Nat.reduceBEq,Pos.atSlot,if_false,o_pick,Nat.reduceLT,constDV,movK,gs2_tt,fl167_3,la3,List.map_cons,List.map_nil]
 refine appBtw h3 h4 ?_
 simp only [BZ1,BZ2,Pos.isHp,BQ,if_true,BP,dropLk,Nat.reduceBEq,Pos.atSlot,if_false,o_pick,Nat.reduceLT,constDV,takK]
 exact hK
noncomputable def b121 : Code:=(Go.Proofs.Tryz.f121.body).getD .skip
theorem hb121 : Go.Proofs.Tryz.f121.body = some b121:=by kernel_rfl
def editB (log seq : Nat) : Str:=sealB (numB 0 ++ numB 0 ++ numB log ++ numB seq)
def SShB0 : Spec:=fun H args K => ∃ (o1 o2 : Bool) (log seq : Nat),args = [.agg [.sl o1 1 [],.sl o2 5 [],.int .i64 log,.int .i64 seq]]∧log≤1000000∧seq≤1000000∧∀ H',Fr [] H H'→K H' (.tup [.str (editB log seq),.int .i64 0])
theorem appShB0 {H : List HObj} {K : List HObj→DV→Prop} {o1 o2 : Bool} {log seq : Nat} (h1 : log≤1000000) (h2 : seq≤1000000) (h : ∀ H',Fr [] H H'→K H' (.tup [.str (editB log seq),.int .i64 0])) : app SShB0 H [.agg [.sl o1 1 [],.sl o2 5 [],.int .i64 log,.int .i64 seq]] K:=⟨o1,o2,log,seq,rfl,h1,h2,h⟩
set_option maxHeartbeats 2000000 in
theorem rcShB0 {I : Jd pp} (hI : ∀ w e,I.Ok w e) : RC I 121 SShB0:=by
 refine rc_of_code (isObj:=noO) (Γ:=envOf [(182,SForm0),(137,SNum),(139,SSeal)]) (rs:=[2,3]) mixed hI (envOf_rc (by simpa using ⟨rcForm0 hI,rcNum hI,rcSeal hI⟩)) Go.Proofs.Tryz.func121 (by kernel_rfl) hb121 Go.Proofs.Tryz.results121 Go.Proofs.Tryz.ntmps121 (by decide) ?_
 rintro H args K ⟨o1,o2,log,seq,rfl,h1,h2,hK⟩
 refine ⟨by simp,rfl,?_⟩
 unfold b121 Go.Proofs.Tryz.f121
 have l0:=numB_len 0
 have l1:=numB_len log
 have l2:=numB_len seq
 simp only [BQ,Option.getD_some,argSlots,BZ2,List.map_cons,List.map_nil,w_seq,BZ1,o_box,Nat.reduceLT,takK,isO_eq,dropLk,bgen_eq,if_false,constDV,Nat.reduceBEq,if_true,la167,Nat.reduceAdd,Nat.reduceLeDiff,Nat.reduceEqDiff]
 refine ⟨_,_,(log : Int),(seq : Int),rfl,by omega,by omega,by omega,by omega,?_⟩
 simp only [BZ1,BZ2,Pos.isHp,BQ,BP,dropLk,Nat.reduceLT,cd_f,w_seq,Nat.reduceBEq,fl167_0,if_true,la99,addrPos,ia99,if_false,dl99,nc0,Pos.atSlot,Nat.reduceEqDiff,List.map_cons,List.map_nil]
 refine appNum (n:=0) (by omega) ?_
 simp only [BZ1,BZ2,Pos.isHp,BQ,if_true,BP,dropLk,Nat.reduceBEq,Pos.atSlot,if_false,Nat.reduceLT,takK,w_seq,fl167_0,la99,addrPos,ia99,dl99,nc0,constDV]
 refine w_unroll 1 ?_
 simp only [lw_succ,w_seq,BZ1,BZ2,BQ,Nat.reduceLT,Nat.reduceBEq,Int.reduceLT,BP,dropLk,cd_f,movK,fl167_1,if_true,la131,addrPos,ia131,if_false,dl131,nc0,Pos.atSlot,Nat.reduceEqDiff,List.map_cons,List.map_nil]
 refine appNum (n:=0) (by omega) ?_
 simp only [BZ1,BZ2,Pos.isHp,BQ,if_true,BP,dropLk,Nat.reduceBEq,Pos.atSlot,if_false,Nat.reduceLT,BZ3,takK,w_seq,fl167_1,la131,addrPos,ia131,dl131,constDV]
 refine ⟨by omega,?_⟩
 refine w_unroll 1 ?_
 simp only [lw_succ,w_seq,BZ1,BZ2,BQ,Nat.reduceLT,Nat.reduceBEq,Int.reduceLT,BP,dropLk,cd_f,if_true,if_false]
 refine w_draw [3,7,9,10,11] (.quiet 0 (.quiet 1 (.quiet 2 (.quiet 5 (.quiet 6 (.acts [(3,[6,5,0],.quiet 4 (.acts [(7,[4,0],.quiet 8 (.acts [(9,[],.acts [(10,[],.acts [(11,[],.done)])])]))]))])))))) (by decide) (by kernel_rfl) ?_
 simp only [BZ1,BZ2,Nat.reduceLT,Nat.reduceBEq,dropLk,BZ3,fl167_2,BQ,if_true,la3,fl167_3,Nat.reduceEqDiff,if_false,List.map_cons,List.map_nil]
 refine appNum (n:=log) (by omega) ?_
 simp only [BZ1,BZ2,Pos.isHp,BQ,BP,dropLk,BZ3,Nat.reduceLT,Nat.reduceBEq,if_true,la3,fl167_3,dropLks,ex_and,Nat.reduceEqDiff,if_false,List.map_cons,List.map_nil]
 refine ⟨by simp only [List.length_append]; omega,?_⟩
 refine appNum (n:=seq) (by omega) ?_
 simp only [BZ1,BZ2,Pos.isHp,BQ,BP,dropLk,BZ3,Nat.reduceLT,Nat.reduceBEq,dropLks,ex_and,Nat.reduceEqDiff,if_true,if_false,List.map_cons,List.map_nil]
 refine ⟨by simp only [List.length_append]; omega,by simp only [List.length_append]; omega,?_⟩
 refine appSeal (by simp only [List.length_append]; omega) fun H' f => ?_
 simp only [BZ1,BZ2,Pos.isHp,BQ,BP,dropLk,dropLks,Nat.reduceLT,takK,constDV,BZ3,Nat.reduceBEq]
 have:=hK H' f
 simpa only [editB,List.append_assoc] using this
noncomputable def b193 : Code:=(Go.Proofs.Tryz.f193.body).getD .skip
theorem hb193 : Go.Proofs.Tryz.f193.body = some b193:=by kernel_rfl
def SClT0 : Spec:=fun H args K => ∃ own,args = [.sl own 5 []]∧K H (.sl true 5 [])
theorem rcClT0 {I : Jd pp} (hI : ∀ w e,I.Ok w e) : RC I 193 SClT0:=by
 refine rc_of_code (isObj:=noO) (Γ:=envOf []) (rs:=[2]) mixed hI (envOf_rc (by simp)) Go.Proofs.Tryz.func193 (by kernel_rfl) hb193 Go.Proofs.Tryz.results193 Go.Proofs.Tryz.ntmps193 (by decide) ?_
 rintro H args K ⟨own,rfl,hK⟩
 refine ⟨by simp,rfl,?_⟩
 unfold b193 Go.Proofs.Tryz.f193
 cases own <;> simp only [Option.getD_some,argSlots,BZ2,w_seq,BZ1,constDV,Proofs.Tryz.underlying131,cn172,dropLk,Nat.reduceLT,movK,Nat.reduceBEq,lkGet,BZ3,n_eql Go.Proofs.Tryz.underlying131,BP,cd,BQ,bs131_0,isO_eq,apo131_131,takK,apdO_new,ne_eq,srcC_sl Go.Proofs.Tryz.underlying131,Nat.reduceLeDiff,List.map_nil,Nat.sub_zero,ap131_131,if_false,if_true]
 all_goals exact ⟨hK,hK⟩
noncomputable def b127 : Code:=(Go.Proofs.Tryz.f127.body).getD .skip
theorem hb127 : Go.Proofs.Tryz.f127.body = some b127:=by kernel_rfl
def STb0 : Spec:=fun H args K => ∃ (sp : Nat) (log seq next : Int),args = [.ptr sp 0]∧Sheet0 H sp log seq next∧K H (.sl true 5 [])
theorem rcTb0 {I : Jd pp} (hI : ∀ w e,I.Ok w e) : RC I 127 STb0:=by
 refine rc_of_code (isObj:=noO) (Γ:=envOf [(193,SClT0)]) (rs:=[2]) mixed hI (envOf_rc (by simpa using rcClT0 hI)) Go.Proofs.Tryz.func127 (by kernel_rfl) hb127 Go.Proofs.Tryz.results127 Go.Proofs.Tryz.ntmps127 (by decide) ?_
 rintro H args K ⟨sp,log,seq,next,rfl,h1,hK⟩
 refine ⟨by simp,rfl,?_⟩
 unfold b127 Go.Proofs.Tryz.f127
 simp only [Option.getD_some,argSlots,BZ2,w_seq,BZ1,constDV,Proofs.Tryz.underlying131,cn172,dropLk,Nat.reduceLT,movK,Nat.reduceBEq,dnil,BP,fp191_0,BQ,show H[sp]? = _ from h1,dlh_some,List.drop_zero,la131,vro_sl,lo_sl,addrPos,ia131,Bool.false_eq_true,if_false,o_fn,args_cons,args_nil,mk_H,env_cons,if_true,dcl_some,List.all_cons,vfla_sl,List.all_nil,Bool.and_self,List.map_cons,List.map_nil,true_and]
 refine ⟨_,rfl,?_⟩
 simp only [BZ1,BZ2,Pos.isHp,BQ,if_false,BP,dropLk,Nat.reduceLT,takK]
 exact hK
noncomputable def b148 : Code:=(Go.Proofs.Tryz.f148.body).getD .skip
theorem hb148 : Go.Proofs.Tryz.f148.body = some b148:=by kernel_rfl
def SCov0 : Spec:=fun H args K => ∃ (sp : Nat) (log seq next : Int) (k : Str),args = [.ptr sp 0,.str k]∧Sheet0 H sp log seq next∧K H (.sl true 5 [])
theorem appCov0 {H : List HObj} {K : List HObj→DV→Prop} {sp : Nat} {log seq next : Int} {k : Str} (h1 : Sheet0 H sp log seq next) (h : K H (.sl true 5 [])) : app SCov0 H [.ptr sp 0,.str k] K:=⟨sp,log,seq,next,k,rfl,h1,h⟩
theorem rcCov0 {I : Jd pp} (hI : ∀ w e,I.Ok w e) : RC I 148 SCov0:=by
 refine rc_of_code (isObj:=noO) (Γ:=envOf [(127,STb0)]) (rs:=[4]) mixed hI (envOf_rc (by simpa using rcTb0 hI)) Go.Proofs.Tryz.func148 (by kernel_rfl) hb148 Go.Proofs.Tryz.results148 Go.Proofs.Tryz.ntmps148 (by decide) ?_
 rintro H args K ⟨sp,log,seq,next,k,rfl,h1,hK⟩
 refine ⟨by simp,rfl,?_⟩
 unfold b148 Go.Proofs.Tryz.f148
 simp only [Option.getD_some,argSlots,BZ2,BQ,w_seq,BZ1,constDV,Proofs.Tryz.underlying131,cn172,dropLk,Nat.reduceLT,movK,Nat.reduceBEq,if_true,List.map_cons,List.map_nil]
 refine ⟨sp,log,seq,next,rfl,h1,?_⟩
 simp only [hold_app2,mk_called,Pos.isHp,BQ,BP,dropLk,hold_app,tS_cons,g_none,o_len,Nat.reduceLT,rho_tmp,look_hit,dl131,nc0,o_move,move_const,constDV,vroA_int,tS_nil,w_block]
 refine w_unroll 1 ?_
 simp only [lw_succ,w_seq,BZ1,BZ2,BQ,Nat.reduceLT,Nat.reduceBEq,Int.reduceLT,BP,dropLk,cd_f,movK,Nat.reduceEqDiff,if_false,takK,lkGet,if_true,BZ3,Pos.atSlot]
 exact hK
noncomputable def b100 : Code:=(Go.Proofs.Tryz.f100.body).getD .skip
theorem hb100 : Go.Proofs.Tryz.f100.body = some b100:=by kernel_rfl
def SBet0 : Spec:=fun H args K => ∃ (sp : Nat) (log seq next : Int) (a b : Str),args = [.ptr sp 0,.str a,.str b]∧Sheet0 H sp log seq next∧K H (.sl true 5 [])
theorem appBet0 {H : List HObj} {K : List HObj→DV→Prop} {sp : Nat} {log seq next : Int} {a b : Str} (h1 : Sheet0 H sp log seq next) (h : K H (.sl true 5 [])) : app SBet0 H [.ptr sp 0,.str a,.str b] K:=⟨sp,log,seq,next,a,b,rfl,h1,h⟩
theorem rcBet0 {I : Jd pp} (hI : ∀ w e,I.Ok w e) : RC I 100 SBet0:=by
 refine rc_of_code (isObj:=noO) (Γ:=envOf [(127,STb0)]) (rs:=[6]) mixed hI (envOf_rc (by simpa using rcTb0 hI)) Go.Proofs.Tryz.func100 (by kernel_rfl) hb100 Go.Proofs.Tryz.results100 Go.Proofs.Tryz.ntmps100 (by decide) ?_
 rintro H args K ⟨sp,log,seq,next,a,b,rfl,h1,hK⟩
 refine ⟨by simp,rfl,?_⟩
 unfold b100 Go.Proofs.Tryz.f100
 simp only [Option.getD_some,argSlots,BZ2,BQ,Nat.reduceAdd,w_seq,BZ1,constDV,Proofs.Tryz.underlying131,cn172,dropLk,BZ3,Nat.reduceLT,movK,Nat.reduceBEq,if_true,List.map_cons,List.map_nil]
 refine ⟨sp,log,seq,next,rfl,h1,?_⟩
 simp only [hold_app2,mk_called,Pos.isHp,BQ,BP,dropLk,hold_app,tS_cons,g_none,o_len,Nat.reduceLT,rho_tmp,look_hit,dl131,nc0,o_move,move_const,constDV,vroA_int,tS_nil,w_block]
 refine w_unroll 1 ?_
 simp only [lw_succ,w_seq,BZ1,BZ2,BQ,Nat.reduceLT,Nat.reduceBEq,Int.reduceLT,BP,dropLk,cd_f,movK,Nat.reduceEqDiff,if_false,takK,lkGet,if_true,BZ3,Pos.atSlot]
 exact hK
end Go.Ab.En
