/- A part of the proof; no condition of its own. -/
import Derived.Test.YtoebbafmopdfbaaGreatDoorEnK
set_option linter.unusedSimpArgs false
set_option linter.unusedVariables false
/- EnQ: The engine's laws: a file put in place of another one. -/
namespace Go.Ab.En
open Go Go.Conc Go.RowKit Go.Ab
set_option maxRecDepth 10000
def freshN : Str:=[110,101,119]
def afterD (now : Files) (acts : List Act) : Files × List Act:=(if dropC now freshN = 0 then doesF ⟨4,freshN,[]⟩ now else now,if dropC now freshN = 0 then acts ++ [⟨4,freshN,[]⟩] else acts)
def afterP (p : Files × List Act) (room : Int) (b : Str) : Files × List Act:=(if putC p.1 room freshN b = 0 then doesF ⟨1,freshN,b⟩ p.1 else p.1,if putC p.1 room freshN b = 0 then p.2 ++ [⟨1,freshN,b⟩] else p.2)
def afterS (p : Files × List Act) (nm : Str) : Files × List Act:=(if swapC p.1 freshN nm = 0 then doesF ⟨3,freshN,nm⟩ p.1 else p.1,if swapC p.1 freshN nm = 0 then p.2 ++ [⟨3,freshN,nm⟩] else p.2)
def replF (now : Files) (acts : List Act) (room : Int) (nm b : Str) : Int × (Files × List Act) :=
 if putC (afterD now acts).1 room freshN b = 0 then (swapC (afterP (afterD now acts) room b).1 freshN nm,afterS (afterP (afterD now acts) room b) nm)
 else (putC (afterD now acts).1 room freshN b,afterP (afterD now acts) room b)
noncomputable def b68 : Code:=(Go.Proofs.Tryz.f68.body).getD .skip
theorem hb68 : Go.Proofs.Tryz.f68.body = some b68:=by kernel_rfl
def SRepl : Spec:=fun H args K => ∃ (id k n : Nat) (kept now : Files) (acts : List Act) (room : Int) (nm b : Str),args = [.ptr id 0,.str nm,.str b]∧ShelfAt H id k n kept now acts room∧usedF now < 4611686018427387904∧usedF (afterD now acts).1 < 4611686018427387904∧usedF (afterP (afterD now acts) room b).1 < 4611686018427387904 ∧
 0≤room∧room < 4611686018427387904∧acts.length < 99990∧nm.length < 4611686018427387904∧b.length < 4611686018427387904 ∧
 ∀ H',Fr [id,n] H H'→ShelfAt H' id k n kept (replF now acts room nm b).2.1 (replF now acts room nm b).2.2 room→K H' (.int .i64 (replF now acts room nm b).1)
theorem rcRepl {I : Jd pp} (hI : ∀ w e,I.Ok w e) (hL : RC I 140 S140) : RC I 68 SRepl:=by
 refine rc_of_code (isObj:=noO) (Γ:=envOf [(129,S129),(122,S122),(130,S130)]) (rs:=[6]) mixed hI (envOf_rc (by simpa using ⟨rc129 hI,rc122 hI hL,rc130 hI⟩)) Go.Proofs.Tryz.func68 (by kernel_rfl) hb68 Go.Proofs.Tryz.results68 Go.Proofs.Tryz.ntmps68 (by decide) ?_
 rintro H args K ⟨id,k,n,kept,now,acts,room,nm,b,rfl,h1,u1,u2,u3,r1,r2,ha,hn,hb,hK⟩
 refine ⟨by simp,rfl,?_⟩
 unfold b68 Go.Proofs.Tryz.f68
 have la : (afterD now acts).2.length < 99995:=by simp only [afterD]; split <;> (try simp) <;> omega
 have lb : (afterP (afterD now acts) room b).2.length < 99999:=by simp only [afterP]; split <;> (try simp) <;> omega
 simp only [Option.getD_some,argSlots,BZ2,BQ,Nat.reduceAdd,w_seq,BZ1,constDV,dropLk,Nat.reduceLT,movK,Nat.reduceBEq,Nat.reduceEqDiff,if_false,if_true,List.map_cons,List.map_nil]
 refine capp129 (dropC now freshN) h1 u1 (by omega) rfl fun H1 f1 s1 => ?_
 have s1 : ShelfAt H1 id k n kept (afterD now acts).1 (afterD now acts).2 room:=s1
 simp only [BZ1,BZ2,Pos.isHp,BQ,BP,dropLk,w_seq,Nat.reduceLT,movK,Nat.reduceBEq,constDV,Nat.reduceEqDiff,if_false,if_true,List.map_cons,List.map_nil]
 refine capp122 (nm:=freshN) (putC (afterD now acts).1 room freshN b) s1 u2 r1 r2 (by omega) (by decide) hb rfl fun H2 f2 s2 => ?_
 have s2 : ShelfAt H2 id k n kept (afterP (afterD now acts) room b).1 (afterP (afterD now acts) room b).2 room:=s2
 have f12 : Fr [id,n] H H2:=(f1.trans f2).mono (by simp; omega)
 by_cases hc : putC (afterD now acts).1 room freshN b = 0
 ·simp only [hc,BZ1,BZ2,Pos.isHp,BQ,BP,dropLk,Nat.reduceLT,takK,w_seq,movK,constDV,b_neq,ne_eq,cd_f,Nat.reduceBEq,Nat.reduceEqDiff,if_true,if_false,List.map_cons,List.map_nil]
  refine capp130 (old:=freshN) (swapC (afterP (afterD now acts) room b).1 freshN nm) s2 u3 (by omega) hn rfl fun H3 f3 s3 => ?_
  simp only [hold_app2,mk_called,Pos.isHp,BQ,BP,dropLk,hold_app,tS_cons,g_none,o_assign,Nat.reduceLT,take_tmp,takK,look_hit,vroA_int,mk_put,tS_nil,w_ret,ret_one,vfla_int]
  have:=hK H3 ((f12.trans f3).mono (by simp; omega))
  simp only [replF,if_pos hc] at this
  exact this s3
 ·simp only [BZ1,BZ2,Pos.isHp,BQ,BP,dropLk,Nat.reduceLT,takK,w_seq,movK,constDV,b_neq,ne_eq,hc,cd_t,Nat.reduceBEq,if_false]
  have:=hK H2 f12
  simp only [replF,if_neg hc] at this
  exact this s2
end Go.Ab.En
/- EnR: The engine's laws: a new engine. -/
namespace Go.Ab.En
open Go Go.Conc Go.RowKit Go.Ab
set_option maxRecDepth 10000
def isE : ObjT:=fun t => t == 114
theorem isE_eq {t : TypeId} : isE t = (t == 114):=_root_.id rfl
noncomputable def b120 : Code:=(Go.Proofs.Tryz.f120.body).getD .skip
theorem hb120 : Go.Proofs.Tryz.f120.body = some b120:=by kernel_rfl
def STidy0 : Spec:=fun H args K => ∃ (own : Bool) (id k n : Nat) (kept : Files) (acts : List Act) (room : Int),args = [.ptr id 0,.sl own 1 []]∧ShelfAt H id k n kept [] acts room∧∀ H',Fr [] H H'→K H' (.tup [])
theorem rcTidy0 {I : Jd pp} (hI : ∀ w e,I.Ok w e) (hN : RC I 179 SNames) : RC I 120 STidy0:=by
 refine rc_of_code (isObj:=noO) (Γ:=envOf [(179,SNames)]) (rs:=[]) mixed hI (envOf_rc (by simpa using hN)) Go.Proofs.Tryz.func120 (by kernel_rfl) hb120 Go.Proofs.Tryz.results120 Go.Proofs.Tryz.ntmps120 (by decide) ?_
 rintro H args K ⟨own,id,k,n,kept,acts,room,rfl,h1,hK⟩
 refine ⟨by simp,rfl,?_⟩
 unfold b120 Go.Proofs.Tryz.f120
 simp only [Option.getD_some,argSlots,BZ2,BQ,BZ3,w_seq,BZ1,Nat.reduceLT,movK,dropLk,if_true,List.map_cons,List.map_nil]
 refine ⟨id,k,n,kept,[],acts,room,rfl,h1,⟨by simp,by simp,by simp⟩,fun H1 f1 => ?_⟩
 have hn0 : (namesF []).map DV.str = []:=by simp [namesF]
 simp only [hn0,hold_app2,mk_called,Pos.isHp,BQ,BP,dropLk,hold_app,tS_cons,g_none,o_len,Nat.reduceLT,rho_tmp,look_hit,dl194,nc0,o_move,move_const,constDV,vroA_int,tS_nil,w_block]
 refine w_unroll 1 ?_
 simp only [lw_succ,w_seq,BZ1,BZ2,BQ,Nat.reduceLT,Nat.reduceBEq,Int.reduceLT,BP,dropLk,cd_f,if_true,if_false]
 exact hK _ f1
structure EngS where
 x : Nat
 sid : Nat
 k : Nat
 n : Nat
 hp : Nat
 sp : Nat
 tm : Nat
 hm : Nat
 S : List Nat
 kept : Files
 now : Files
 acts : List Act
 room : Int
 es : List Ent
 seq : Nat
 log : Nat
 slog : Int
 sseq : Int
 snext : Int
 held : List (DV × DV)
def EngS.parts (E : EngS) : List Nat:=[E.x,E.sid,E.k,E.n,E.sp,E.tm,E.hm]
structure EngS.At (E : EngS) (H : List HObj) : Prop where
 top : H[E.x]? = some (.cells [.ptr E.sid 0,.ptr E.sp 0,.map E.tm,.ptr E.hp 0,.int .i64 E.seq,.int .i64 E.log,.map E.hm])
 shelf : ShelfAt H E.sid E.k E.n E.kept E.now E.acts E.room
 heap : HeapAt H E.hp E.S E.es
 sheet : Sheet0 H E.sp E.slog E.sseq E.snext
 tabs : H[E.tm]? = some (.map [])
 held : H[E.hm]? = some (.map E.held)
 nodup : E.parts.Nodup
 apart : ∀ y∈E.S,y ∉ E.parts
def logN : Str:=[108,111,103,45]
def sheetN : Str:=[115,104,101,101,116]
theorem log1 : fileF logN 1 = [108,111,103,45,48,48,48,48,48,49]:=by decide +kernel
theorem editB_len (a b : Nat) : (editB a b).length≤60:=by
 have h:=sealB_len (numB 0 ++ numB 0 ++ numB a ++ numB b)
 have h0:=numB_len 0
 have h1:=numB_len a
 have h2:=numB_len b
 simp only [editB,List.length_append] at *
 omega
def newF : Files:=[([108,111,103,45,48,48,48,48,48,49],[]),(sheetN,editB 1 0)]
theorem put1 {room : Int} (h : 1000≤room) : putC [] room [108,111,103,45,48,48,48,48,48,49] [] = 0:=by
 have : namedF [108,111,103,45,48,48,48,48,48,49] = true:=by decide +kernel
 simp [putC,this,getF,usedF]
 omega
def actL : Act:=⟨1,[108,111,103,45,48,48,48,48,48,49],[]⟩
theorem repl1 {room : Int} (h : 1000≤room) : (replF [([108,111,103,45,48,48,48,48,48,49],[])] [actL] room sheetN (editB 1 0)).1 = 0∧(replF [([108,111,103,45,48,48,48,48,48,49],[])] [actL] room sheetN (editB 1 0)).2.1 = newF:=by
 have n1 : namedF freshN = true:=by decide +kernel
 have n2 : namedF sheetN = true:=by decide +kernel
 have hl:=editB_len 1 0
 have hd : dropC [(([108,111,103,45,48,48,48,48,48,49] : Str),([] : Str))] freshN = 14:=by decide +kernel
 have hp : putC [(([108,111,103,45,48,48,48,48,48,49] : Str),([] : Str))] room freshN (editB 1 0) = 0:=by
  rw [putC,if_neg (by rw [n1]; simp),if_neg (by simp [getF,freshN]),if_neg (by simp only [usedF,List.length_cons,List.length_nil]; omega)]
 unfold newF
 generalize editB 1 0 = b at *
 have hs : swapC [(([108,111,103,45,48,48,48,48,48,49] : Str),([] : Str)),(freshN,b)] freshN sheetN = 0:=by
  simp [swapC,n2,getF,freshN]
 have e1 : afterD [(([108,111,103,45,48,48,48,48,48,49] : Str),([] : Str))] [actL] = ([([108,111,103,45,48,48,48,48,48,49],[])],[actL]):=by simp [afterD,hd]
 have e2 : (afterP ([(([108,111,103,45,48,48,48,48,48,49] : Str),([] : Str))],[actL]) room b).1 = [([108,111,103,45,48,48,48,48,48,49],[]),(freshN,b)]:=by
  unfold afterP
  rw [if_pos hp]
  simp [doesF,setF,freshN]
 unfold replF
 rw [e1,if_pos hp]
 refine ⟨by rw [e2]; exact hs,?_⟩
 show (afterS _ sheetN).1 = _
 unfold afterS
 rw [e2,if_pos hs]
 simp [doesF,setF,delF,getF,freshN,sheetN]
theorem rep_used (room : Int) : usedF (afterD [(([108,111,103,45,48,48,48,48,48,49] : Str),([] : Str))] [actL]).1 < 4611686018427387904∧usedF (afterP (afterD [(([108,111,103,45,48,48,48,48,48,49] : Str),([] : Str))] [actL]) room (editB 1 0)).1 < 4611686018427387904:=by
 have hd : dropC [(([108,111,103,45,48,48,48,48,48,49] : Str),([] : Str))] freshN = 14:=by decide +kernel
 have e1 : afterD [(([108,111,103,45,48,48,48,48,48,49] : Str),([] : Str))] [actL] = ([([108,111,103,45,48,48,48,48,48,49],[])],[actL]):=by simp [afterD,hd]
 have hl:=editB_len 1 0
 rw [e1]
 refine ⟨by simp [usedF],?_⟩
 unfold afterP
 split
 ·simp [doesF,setF,freshN,usedF]; omega
 ·simp [usedF]
noncomputable def b62 : Code:=(Go.Proofs.Tryz.f62.body).getD .skip
theorem hb62 : Go.Proofs.Tryz.f62.body = some b62:=by kernel_rfl
structure NewE (E : EngS) (sid n : Nat) (room : Int) : Prop where
 e1 : E.sid = sid∧E.n = n
 e2 : E.now = newF∧E.kept = newF∧E.acts = []∧E.room = room
 e3 : E.es = []∧E.seq = 0∧E.log = 1
 e4 : E.slog = 1∧E.sseq = 0∧E.snext = 1∧E.held = []
def SMade : Spec:=fun H args K => ∃ (sid k n : Nat) (kept : Files) (room : Int),args = [.ptr sid 0]∧ShelfAt H sid k n kept [] [] room∧1000≤room∧room < 4611686018427387904∧∀ H' E,Fr [sid,n] H H'→NewE E sid n room→E.At H'→K H' (.tup [.ptr E.x 0,.int .i64 0])
set_option maxHeartbeats 4000000 in
theorem rcMade {I : Jd pp} (hI : ∀ w e,I.Ok w e) (hN : RC I 179 SNames) (hFi : RC I 75 SFile) (hL : RC I 140 S140) (hCl : RC I 82 S82) : RC I 62 SMade:=by
 refine rc_of_code (isObj:=isE) (Γ:=envOf [(120,STidy0),(121,SShB0),(75,SFile),(122,S122),(68,SRepl),(73,SFst),(118,S118),(123,SShNew),(64,SHNew)]) (rs:=[2,3]) mixed hI (envOf_rc (by simpa using ⟨rcTidy0 hI hN,rcShB0 hI,hFi,rc122 hI hL,rcRepl hI hL,rcFst hI,rc118 hI hCl,rcShNew hI,rcHNew hI⟩)) Go.Proofs.Tryz.func62 (by kernel_rfl) hb62 Go.Proofs.Tryz.results62 Go.Proofs.Tryz.ntmps62 (by decide) ?_
 rintro H args K ⟨sid,k,n,kept,room,rfl,h1,r1,r2,hK⟩
 refine ⟨by simp,rfl,?_⟩
 unfold b62 Go.Proofs.Tryz.f62
 obtain ⟨q1,q2,q3,q4,q5⟩:=h1.lt
 have hlb:=editB_len 1 0
 simp only [Option.getD_some,argSlots,BZ2,w_seq,BZ1,constDV,dropLk,Nat.reduceLT,movK,Nat.reduceBEq,Proofs.Tryz.underlying194,cn9,Nat.reduceEqDiff,if_false,if_true,BQ,List.map_cons,List.map_nil]
 refine ⟨_,sid,k,n,kept,[],room,rfl,h1,fun H1 f1 => ?_⟩
 have s1:=h1.fr f1 (by simp) (by simp) (by simp)
 simp only [BZ1,BZ2,Pos.isHp,BQ,BP,dropLk,w_seq,bd167,isE_eq,Nat.reduceBEq,nz_f,bd167_2,constDV,BZ3,Nat.reduceAdd,Nat.reduceLeDiff,Nat.reduceLT,Nat.reduceEqDiff,if_false,if_true,List.map_cons,List.map_nil]
 refine appShB0 (log:=1) (seq:=0) (by omega) (by omega) fun H2 f2 => ?_
 have s2:=s1.fr f2 (by simp) (by simp) (by simp)
 simp only [BZ1,BZ2,Pos.isHp,BQ,BP,dropLk,Nat.reduceLT,movK,BZ3,List.map_cons,List.map_nil,extK,Nat.reduceBEq,takK,w_seq,constDV,Nat.reduceEqDiff,if_false,if_true]
 refine appFile (kind:=logN) (n:=1) (by decide) (by omega) ?_
 rw [log1]
 simp only [BZ1,BZ2,Pos.isHp,BQ,BP,dropLk,Nat.reduceLT,Nat.reduceBEq,constDV,Nat.reduceEqDiff,if_false,if_true,List.map_cons,List.map_nil]
 refine capp122 (nm:=[108,111,103,45,48,48,48,48,48,49]) (b:=[]) 0 s2 (by simp [usedF]) (by omega) r2 (by simp) (by decide) (by decide) (put1 r1) fun H3 f3 s3 => ?_
 have s3 : ShelfAt H3 sid k n kept [([108,111,103,45,48,48,48,48,48,49],[])] [actL] room:=by simpa [doesF,setF,actL] using s3
 simp only [BZ1,BZ2,Pos.isHp,BQ,BP,dropLk,Nat.reduceLT,movK,Nat.reduceBEq,constDV,Nat.reduceEqDiff,if_false,if_true,List.map_cons,List.map_nil]
 refine ⟨sid,k,n,kept,_,[actL],room,sheetN,editB 1 0,rfl,s3,by simp [usedF],?_,?_,by omega,r2,by simp,by decide,by omega,fun H4 f4 s4 => ?_⟩
 ·exact (rep_used room).1
 ·exact (rep_used room).2
 rw [(repl1 r1).1]
 rw [(repl1 r1).2] at s4
 generalize (replF [(([108,111,103,45,48,48,48,48,48,49] : Str),([] : Str))] [actL] room sheetN (editB 1 0)).2.2 = acts4 at s4
 simp only [BZ1,BZ2,Pos.isHp,BQ,BP,dropLk,bs202_2,isE_eq,Nat.reduceBEq,Nat.reduceLT,bsl_f,Nat.reduceEqDiff,if_false,if_true,List.map_cons,List.map_nil]
 refine appFst ?_
 simp only [if_true,BZ1,BZ2,Pos.isHp,BQ,BP,dropLk,Nat.reduceLT,takK,w_seq,movK,constDV,b_neq,ne_eq,cd_f,Nat.reduceBEq,Nat.reduceEqDiff,if_false,List.map_cons,List.map_nil]
 refine capp118 s4 fun H5 f5 l5 s5 => ?_
 simp only [BZ1,BZ2,Pos.isHp,BQ,BP,dropLk,w_seq,Nat.reduceLT,movK,Nat.reduceBEq,Nat.reduceEqDiff,if_false,if_true,List.map_nil]
 refine appShNew fun H6 f6 t6 => ?_
 simp only [hold_app2,mk_called,Pos.isHp,BQ,BP,dropLk,hold_app,tS_cons,g_none,o_makeMap,mk_newMap,o_fn,args_nil,mk_H,env_cons,Nat.reduceEqDiff,if_true,if_false,dcl_some,List.map_nil]
 refine appHNew fun H8 f8 t8 => ?_
 simp only [BP,BQ,BZ1,BZ2,Pos.isHp,dropLk,BZ3,bd114,bd114_0,Nat.reduceLT,takK,Nat.reduceBEq,Nat.reduceAdd,Nat.reduceLeDiff,bd114_1,bd114_2,bd114_3,bd114_4,constDV,bd114_5,bd114_6,List.map_cons,vro1_ptr,vro1_map,List.map_nil,isE_eq,bgen_eq,if_true]
 have b3:=f3.1
 have b4:=f4.1
 have b1:=f1.1
 have b2:=f2.1
 have b6 : H5.length < H6.length:=(List.getElem?_eq_some_iff.1 t6).1
 have b8 : H6.length + 1≤H8.length:=by have:=f8.1; simpa using this
 have e7 : (H6 ++ [HObj.map []]).length = H6.length + 1:=by simp
 rw [e7] at t8
 have b9 : H6.length + 1 < H8.length:=t8.lt _ (by simp)
 have fE : Fr [] H8 (H8 ++ [HObj.map [],HObj.cells [DV.ptr sid 0,DV.ptr H5.length 0,DV.map H6.length,DV.ptr (H6.length + 1) 0,DV.int IntKind.i64 0,DV.int IntKind.i64 1,DV.map H8.length]]):=Fr.app [] _ _
 have f68 : Fr [] H6 H8:=((Fr.app [] H6 [HObj.map []]).trans f8).mono (by simp)
 refine hK _ ⟨H8.length + 1,sid,H4.length,n,H6.length + 1,H5.length,H6.length,H8.length,[H6.length + 1],newF,newF,[],room,[],0,1,1,0,1,[]⟩ ?_ ⟨⟨rfl,rfl⟩,⟨rfl,rfl,rfl,rfl⟩,⟨rfl,rfl,rfl⟩,⟨rfl,rfl,rfl,rfl⟩⟩ ⟨?_,?_,?_,?_,?_,?_,?_,?_⟩
 ·exact ((((((f1.trans f2).trans f3).trans f4).trans f5).trans f6).trans (f68.trans fE)).mono (by intro j _ hj; simp at hj ⊢; omega)
 ·simp [List.getElem?_append_right]
 ·exact s5.fr ((f6.trans f68).trans fE) (by simp) (by simp) (by simp)
 ·exact t8.fr fE (by simp)
 ·exact (f68.trans fE).get t6 (by simp)
 ·exact (f8.trans fE).get (x:=HObj.map []) (by simp) (by simp)
 ·simp
 ·simp [EngS.parts]; omega
 ·simp [EngS.parts]; omega
end Go.Ab.En
