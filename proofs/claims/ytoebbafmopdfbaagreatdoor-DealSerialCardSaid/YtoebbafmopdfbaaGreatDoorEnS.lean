/- A part of the proof; no condition of its own. -/
import Derived.Test.YtoebbafmopdfbaaGreatDoorEnBB
set_option linter.unusedSimpArgs false
set_option linter.unusedVariables false
/- EnS: The engine's laws: the shelf's contracts (ported by tools/portsh.py from wip/sh). -/
namespace Go.Ab.En
open Go Go.Conc Go.RowKit Go.Ab
set_option maxRecDepth 10000
def isS : ObjT:=fun t => t == 120
theorem isS_eq {t : TypeId} : isS t = (t == 120):=_root_.id rfl
abbrev Files:=List (Str × Str)
def enc (fs : Files) : List (DV × DV):=fs.map fun x => (.str x.1,.str x.2)
def getF (fs : Files) (k : Str) : Option Str:=match fs with
 | [] => none
 | (x,v) :: r => if k = x then some v else getF r k
def setF (k v : Str) : Files→Files
 | [] => [(k,v)]
 | (x,u) :: r => if k = x then (k,v) :: r else (x,u) :: setF k v r
def delF (k : Str) : Files→Files
 | [] => []
 | (x,u) :: r => if k = x then r else (x,u) :: delF k r
theorem find_enc (k : Str) : ∀ fs,findKeyD (.str k) (enc fs) = some ((getF fs k).map .str)
 | [] => rfl
 | (x,v) :: r => by
  have:=find_enc k r
  simp only [enc,List.map_cons,findKeyD,keyEq,getF] at this ⊢
  by_cases h : k = x
  ·simp [h]
  ·simp [h]; assumption
theorem set_enc (k v : Str) : ∀ fs,mapSet (.str k) (.str v) (enc fs) = enc (setF k v fs)
 | [] => rfl
 | (x,u) :: r => by
  have:=set_enc k v r
  simp only [enc,List.map_cons,mapSet,keyEq,setF] at this ⊢
  by_cases h : k = x
  ·simp [h]
  ·simp [h]; assumption
theorem del_enc (k : Str) : ∀ fs,mapDel (.str k) (enc fs) = enc (delF k fs)
 | [] => rfl
 | (x,u) :: r => by
  have:=del_enc k r
  simp only [enc,List.map_cons,mapDel,keyEq,delF] at this ⊢
  by_cases h : k = x
  ·simp [h]
  ·simp [h]; assumption
theorem all_enc (k : Str) (fs : Files) : ((enc fs).all fun e => (keyEq (.str k) e.1).isSome) = true:=by
 simp [enc,List.all_eq_true,keyEq]
theorem enc_length (fs : Files) : (enc fs).length = fs.length:=by simp [enc]
structure Act where
 kind : Int
 name : Str
 b : Str
def actD (a : Act) : DV:=.agg [.int .i64 a.kind,.str a.name,.str a.b]
def shelfC (k n : Nat) (acts : List Act) (room : Int) : List DV:=[.map k,.map n,.sl true 3 (acts.map actD),.int .i64 room]
def ShelfAt (H : List HObj) (id k n : Nat) (kept now : Files) (acts : List Act) (room : Int) : Prop :=
 H[id]? = some (.cells (shelfC k n acts room))∧H[k]? = some (.map (enc kept))∧H[n]? = some (.map (enc now))∧k ≠ n
theorem mro {o : Option Str} : (Option.map DV.ro (Option.map DV.str o)).getD (.str []) = .str (o.getD []):=by cases o <;> rfl
theorem mis {o : Option Str} : (Option.map DV.str o).isSome = o.isSome:=by cases o <;> rfl
noncomputable def b119 : Code:=(Go.Proofs.Tryz.f119.body).getD .skip
theorem hb119 : Go.Proofs.Tryz.f119.body = some b119:=by kernel_rfl
def S119 : Spec:=fun H args K => ∃ id k n kept now acts room nm,args = [.ptr id 0,.str nm]∧ShelfAt H id k n kept now acts room∧K H (.bool (getF now nm).isSome)
theorem rc119 {I : Jd pp} (hI : ∀ w e,I.Ok w e) : RC I 119 S119:=by
 refine rc_of_code (isObj:=isS) (Γ:=envOf []) (rs:=[4]) mixed hI (envOf_rc (by simp)) Go.Proofs.Tryz.func119 (by kernel_rfl) hb119 Go.Proofs.Tryz.results119 Go.Proofs.Tryz.ntmps119 (by decide) ?_
 rintro H args K ⟨id,k,n,kept,now,acts,room,nm,rfl,⟨h1,h2,h3,h4⟩,hK⟩
 refine ⟨by simp,rfl,?_⟩
 unfold b119 Go.Proofs.Tryz.f119
 simp only [Option.getD_some,argSlots,BZ2,BQ,w_seq,BZ1,constDV,dropLk,Nat.reduceLT,movK,Nat.reduceBEq,dnil,BP,fp120_1,h1,shelfC,la117,BZ3,DV.plain,lk_h Go.Proofs.Tryz.underlying117,h3,kt9,lt9,find_enc,mro,mis,List.map_cons,List.map_nil,extK,takK]
 exact hK
noncomputable def b184 : Code:=(Go.Proofs.Tryz.f184.body).getD .skip
theorem hb184 : Go.Proofs.Tryz.f184.body = some b184:=by kernel_rfl
def okC (c : UInt8) : Bool:=(97≤c.toNat && c.toNat≤122) || (48≤c.toNat && c.toNat≤57) || c.toNat == 45
def namedF (s : Str) : Bool:=s.all okC && decide (s ≠ []) && decide (s.length≤16)
def S184 : Spec:=fun H args K => ∃ s : Str,args = [.str s]∧s.length < 4611686018427387904∧K H (.bool (namedF s))
def M184 (s : Str) (H : List HObj) (m : Nat) (st : St) : Prop:=∃ i : Nat,i≤s.length∧m = s.length - i∧(∀ j,j < i→okC (s.getD j 0) = true)∧st = mk 39 [(0,.str s),(2,.bool false),(6,.int .i64 s.length),(7,.int .i64 i)] [] H []
theorem rc184 {I : Jd pp} (hI : ∀ w e,I.Ok w e) : RC I 184 S184:=by
 refine rc_of_code (isObj:=isS) (Γ:=envOf []) (rs:=[2]) mixed hI (envOf_rc (by simp)) Go.Proofs.Tryz.func184 (by kernel_rfl) hb184 Go.Proofs.Tryz.results184 Go.Proofs.Tryz.ntmps184 (by decide) ?_
 rintro H args K ⟨s,rfl,hlen,hK⟩
 refine ⟨by simp,rfl,?_⟩
 unfold b184 Go.Proofs.Tryz.f184
 simp only [Option.getD_some,argSlots,BZ3,BZ1,BZ2,BP,w_seq,constDV,dropLk,Nat.reduceLT,movK,Nat.reduceBEq,dl9]
 refine w_loop [0,2,6,7] (M184 s H) s.length ?_ ?_
 ·exact ⟨0,by omega,by omega,by intro j hj; omega,by simp only [BZ2,List.map_cons,Nat.reduceBEq,BZ3,BZ1,List.map_nil]; try rfl⟩
 ·rintro m st ⟨i,hi,rfl,hj,rfl⟩
  have hbad : i < s.length→okC (s.getD i 0) = false→K H (.bool false):=by
   intro h1 h2
   have : namedF s = false:=by
    simp only [namedF,Bool.and_eq_false_iff]
    refine .inl (.inl (List.all_eq_false.2 ⟨s[i],List.getElem_mem h1,?_⟩))
    simpa [List.getD,h1] using h2
   rwa [this] at hK
  have hgood : i < s.length→okC (s.getD i 0) = true→∃ m',m' < s.length - i∧M184 s H m' (mk 39 [(0,.str s),(2,.bool false),(6,.int .i64 s.length),(7,.int .i64 (IntKind.i64.wrap ((i : Int) + 1)))] [] H []):=by
   intro h1 h2
   refine ⟨s.length - (i + 1),by omega,i + 1,by omega,rfl,fun j hj' => ?_,?_⟩
   ·rcases Nat.lt_succ_iff_lt_or_eq.1 hj' with h | rfl
    ·exact hj j h
    ·exact h2
   ·rw [wrap_i64 (by omega) (by omega)]; rfl
  have hend : ¬ (i : Int) < s.length→K H (.bool (decide (s ≠ []) && decide (s.length≤16))):=by
   intro h1
   have e : i = s.length:=by omega
   have : s.all okC = true:=by
    rw [List.all_eq_true]
    intro x hx
    obtain ⟨k,hk,rfl⟩:=List.getElem_of_mem hx
    simpa [List.getD,hk] using hj k (by omega)
   simpa [namedF,this] using hK
  simp only [w_seq,BZ1,BZ2,BQ,Nat.reduceLT,Nat.reduceBEq,BP,dropLk,cd,decide_eq_true_eq,movK,takK,BZ3,ix9,constDV,gs2_bool,decide_eq_false_iff_not,if_false,if_true,ne_eq,decide_not,Bool.not_eq_true',Bool.not_eq_false',List.map_cons,List.map_nil,dl9]
  have hend2 : ¬ (i : Int) < s.length→(¬s = []→K H (.bool (decide ((s.length : Int)≤16))))∧(s = []→K H (.bool false)):=by
   intro h1
   have:=hend h1
   refine ⟨fun h2 => ?_,fun h2 => ?_⟩
   ·have e : decide ((s.length : Int)≤16) = decide (s.length≤16):=decide_eq_decide.2 (by omega)
    rw [e]; simpa [h2] using this
   ·simpa [h2] using this
  refine ⟨fun h1 => ⟨by omega,h1,?_⟩,hend2⟩
  generalize List.getD s i 0 = c at hbad hgood ⊢
  repeat' (first | apply And.intro | intro _)
  all_goals (first
   | exact hbad (by omega) (by simp [okC]; omega)
   | exact hgood (by omega) (by simp [okC]; omega))
noncomputable def b81 : Code:=(Go.Proofs.Tryz.f81.body).getD .skip
theorem hb81 : Go.Proofs.Tryz.f81.body = some b81:=by kernel_rfl
def doesF (a : Act) (fs : Files) : Files :=
 if a.kind = 1 then setF a.name a.b fs
 else if a.kind = 2 then setF a.name ((getF fs a.name).getD [] ++ a.b) fs
 else if a.kind = 3 then setF a.b ((getF fs a.name).getD []) (delF a.name fs)
 else if a.kind = 4 then delF a.name fs
 else fs
theorem hset {H : List HObj} {i j : Nat} {x : HObj} (h : i < H.length) : (H.set i x)[i]? = some x:=by simp [h]
theorem hset_ne {H : List HObj} {i j : Nat} {x : HObj} (h : i ≠ j) : (H.set i x)[j]? = H[j]?:=by simp [h]
def S81 : Spec:=fun H args K => ∃ m fs a,args = [.map m,actD a]∧H[m]? = some (.map (enc fs))∧((getF fs a.name).getD []).length + a.b.length≤9223372036854775807∧K (H.set m (.map (enc (doesF a fs)))) (.tup [])
theorem rc81 {I : Jd pp} (hI : ∀ w e,I.Ok w e) : RC I 81 S81:=by
 refine rc_of_code (isObj:=isS) (Γ:=envOf []) (rs:=[]) mixed hI (envOf_rc (by simp)) Go.Proofs.Tryz.func81 (by kernel_rfl) hb81 Go.Proofs.Tryz.results81 Go.Proofs.Tryz.ntmps81 (by decide) ?_
 rintro H args K ⟨m,fs,a,rfl,h1,h2,hK⟩
 have hm : m < H.length:=(List.getElem?_eq_some_iff.1 h1).1
 have hs : ∀ x,(H.set m x)[m]? = some x:=fun x => hset (j:=0) hm
 refine ⟨by simp,rfl,?_⟩
 unfold b81 Go.Proofs.Tryz.f81
 simp only [Option.getD_some,argSlots,BP,BQ,actD,BZ2,List.map_cons,List.map_nil,w_seq,BZ1,BZ3,Nat.reduceLT,takK,Nat.reduceBEq,isS_eq,dropLk,bgen_eq,if_false,fl134_0,if_true,la3,constDV,cd,movK,fl134_1,la9,fl134_2,DV.plain,mu_h Go.Proofs.Tryz.underlying117,h1,kt9,Pos.inHp,all_enc,set_enc,lk_h Go.Proofs.Tryz.underlying117,lf9,find_enc,mro,md_h Go.Proofs.Tryz.underlying117,del_enc,hs]
 simp only [decide_eq_true_eq,decide_eq_false_iff_not,List.set_set]
 refine ⟨fun e => by simpa [doesF,e] using hK,fun e1 => ⟨fun e => ⟨h2,by simpa [doesF,e1,e] using hK⟩,fun e2 => ⟨fun e => by simpa [doesF,e1,e2,e] using hK,fun e3 => ⟨fun e => by simpa [doesF,e1,e2,e3,e] using hK,fun e4 => ?_⟩⟩⟩⟩
 have : H.set m (.map (enc fs)) = H:=List.ext_getElem? fun k => by
  rw [List.getElem?_set]
  split
  ·rename_i e; subst e; rw [h1]
  ·rfl
 simpa [doesF,e1,e2,e3,e4,this] using hK
noncomputable def b141 : Code:=(Go.Proofs.Tryz.f141.body).getD .skip
theorem hb141 : Go.Proofs.Tryz.f141.body = some b141:=by kernel_rfl
theorem app81 {H : List HObj} {K : List HObj→DV→Prop} {m : Nat} (fs : Files) (a : Act) (h1 : H[m]? = some (.map (enc fs))) (h2 : ((getF fs a.name).getD []).length + a.b.length≤9223372036854775807) (h : K (H.set m (.map (enc (doesF a fs)))) (.tup [])) : app S81 H [.map m,.agg [.int .i64 a.kind,.str a.name,.str a.b]] K:=⟨m,fs,a,rfl,h1,h2,h⟩
def S141 : Spec:=fun H args K => ∃ id k n kept now acts room a,args = [.ptr id 0,actD a]∧ShelfAt H id k n kept now acts room∧((getF now a.name).getD []).length + a.b.length≤9223372036854775807∧acts.length < 100000 ∧
 K ((H.set n (.map (enc (doesF a now)))).set id (.cells (shelfC k n (acts ++ [a]) room))) (.int .i64 0)
theorem rc141 {I : Jd pp} (hI : ∀ w e,I.Ok w e) : RC I 141 S141:=by
 refine rc_of_code (isObj:=isS) (Γ:=envOf [(81,S81)]) (rs:=[4]) mixed hI (envOf_rc (by simpa using rc81 hI)) Go.Proofs.Tryz.func141 (by kernel_rfl) hb141 Go.Proofs.Tryz.results141 Go.Proofs.Tryz.ntmps141 (by decide) ?_
 rintro H args K ⟨id,k,n,kept,now,acts,room,a,rfl,⟨h1,h2,h3,h4⟩,h5,h6,hK⟩
 refine ⟨by simp,rfl,?_⟩
 unfold b141 Go.Proofs.Tryz.f141
 simp only [Option.getD_some,argSlots,BZ2,BQ,actD,List.map_cons,List.map_nil,w_seq,BZ1,o_box,Nat.reduceLT,takK,Nat.reduceBEq,isS_eq,dropLk,bgen_eq,if_false,constDV]
 refine w_draw [5] (.quiet 0 (.quiet 1 (.quiet 2 (.quiet 3 (.quiet 4 (.acts [(5,[],.done)])))))) (by decide) (by kernel_rfl) ?_
 simp only [BZ1,BZ2,Nat.reduceLT,Nat.reduceBEq,dropLk,BZ3,dnil,fp120_1,BQ,h1,shelfC,la117,BP,if_true,la134,Nat.reduceAdd,Nat.reduceLeDiff,List.map_cons,List.map_nil]
 refine app81 now a h3 h5 ?_
 have hn : n ≠ id:=fun e => by rw [e,h1] at h3; cases h3
 have hs : ∀ x,(H.set n x)[id]? = some (.cells (shelfC k n acts room)):=fun x => (hset_ne hn).trans h1
 simp only [BZ3,BZ1,BZ2,BP,filter_isHp_nil,ex_and,q_assign,q_conv,q_field,q_index,q_lookup,q_extract,q_max,q_min,ap_get,ap_set0,ap_set,Pos.isHp,BQ,dropLk,dropLks,w_seq]
 refine w_draw [4,6,7,10] (.quiet 0 (.quiet 1 (.quiet 2 (.quiet 3 (.quiet 5 (.acts [(4,[5,0],.acts [(6,[3,2,1,0],.acts [(7,[0],.quiet 8 (.quiet 9 (.acts [(10,[],.done)])))])]),(6,[3,2,1,0],.acts [(4,[5,0],.acts [(7,[0],.quiet 8 (.quiet 9 (.acts [(10,[],.done)])))])])])))))) (by decide) (by kernel_rfl) ?_
 simp only [BZ1,BZ2,Nat.reduceLT,Nat.reduceBEq,dropLk,BZ3,dnil,fp120_2,BQ,if_true,la134,Nat.reduceAdd,Nat.reduceLeDiff,List.map_cons,List.map_nil,hs,shelfC,la118,addrPos,ia118,if_false,dropLks,Pos.atSlot,bs118_1,isS_eq,apo118_118,takK,lkGet,BP,ap118_118,Function.const_apply,Proofs.Tryz.underlying118,cn118,Pos.inHp,w_seq,constDV]
 simp only [shelfC,List.map_append,List.map_cons,List.map_nil,actD] at hK
 simp only [List.length_map,actD]
 refine ⟨⟨by omega,by omega,?_⟩,⟨by omega,by omega,?_⟩⟩
 all_goals exact hK
def usedF : Files→Nat
 | [] => 0
 | (_,v) :: r => v.length + usedF r
def S105 : Spec:=fun H args K => ∃ m fs,args = [.map m]∧H[m]? = some (.map (enc fs))∧usedF fs < 4611686018427387904∧K H (.int .i64 (usedF fs))
theorem app105 {H : List HObj} {K : List HObj→DV→Prop} {m : Nat} (fs : Files) (h1 : H[m]? = some (.map (enc fs))) (h2 : usedF fs < 4611686018427387904) (h : K H (.int .i64 (usedF fs))) : app S105 H [.map m] K:=⟨m,fs,rfl,h1,h2,h⟩
noncomputable def b47 : Code:=(Go.Proofs.Tryz.f47.body).getD .skip
theorem hb47 : Go.Proofs.Tryz.f47.body = some b47:=by kernel_rfl
def S47 : Spec:=fun H args K => ∃ id k n kept now acts room,args = [.ptr id 0]∧ShelfAt H id k n kept now acts room∧usedF now < 4611686018427387904∧K H (.int .i64 (usedF now))
theorem app47 {H : List HObj} {K : List HObj→DV→Prop} {id k n : Nat} {kept now : Files} {acts : List Act} {room : Int} (h1 : ShelfAt H id k n kept now acts room) (h2 : usedF now < 4611686018427387904) (h : K H (.int .i64 (usedF now))) : app S47 H [.ptr id 0] K:=⟨id,k,n,kept,now,acts,room,rfl,h1,h2,h⟩
theorem rc47 {I : Jd pp} (hI : ∀ w e,I.Ok w e) (h105 : RC I 105 S105) : RC I 47 S47:=by
 refine rc_of_code (isObj:=isS) (Γ:=envOf [(105,S105)]) (rs:=[2]) mixed hI (envOf_rc (by simpa using h105)) Go.Proofs.Tryz.func47 (by kernel_rfl) hb47 Go.Proofs.Tryz.results47 Go.Proofs.Tryz.ntmps47 (by decide) ?_
 rintro H args K ⟨id,k,n,kept,now,acts,room,rfl,⟨h1,h2,h3,h4⟩,h5,hK⟩
 refine ⟨by simp,rfl,?_⟩
 unfold b47 Go.Proofs.Tryz.f47
 simp only [Option.getD_some,argSlots,BZ2,w_seq,BZ1,constDV,dropLk,Nat.reduceLT,movK,Nat.reduceBEq,dnil,BP,fp120_1,BQ,h1,shelfC,la117,lo_map,if_true,List.map_cons,List.map_nil]
 refine app105 now h3 h5 ?_
 simp only [hold_app2,mk_called,Pos.isHp,BQ,BP,dropLk,hold_app,tS_cons,g_none,o_assign,Nat.reduceLT,take_tmp,takK,look_hit,vroA_int,mk_put,tS_nil,w_ret,ret_one,vfla_int]
 exact hK
noncomputable def b140 : Code:=(Go.Proofs.Tryz.f140.body).getD .skip
theorem hb140 : Go.Proofs.Tryz.f140.body = some b140:=by kernel_rfl
def S140 : Spec:=fun H args K => ∃ id k n kept now acts room,args = [.ptr id 0]∧ShelfAt H id k n kept now acts room∧usedF now < 4611686018427387904∧0≤room∧room < 4611686018427387904∧K H (.int .i64 (max (room - usedF now) 0))
theorem app140 {H : List HObj} {K : List HObj→DV→Prop} {id k n : Nat} {kept now : Files} {acts : List Act} {room : Int} (h1 : ShelfAt H id k n kept now acts room) (h2 : usedF now < 4611686018427387904) (h3 : 0≤room) (h4 : room < 4611686018427387904) (h : K H (.int .i64 (max (room - usedF now) 0))) : app S140 H [.ptr id 0] K:=⟨id,k,n,kept,now,acts,room,rfl,h1,h2,h3,h4,h⟩
theorem rc140 {I : Jd pp} (hI : ∀ w e,I.Ok w e) (h47 : RC I 47 S47) : RC I 140 S140:=by
 refine rc_of_code (isObj:=isS) (Γ:=envOf [(47,S47)]) (rs:=[2]) mixed hI (envOf_rc (by simpa using h47)) Go.Proofs.Tryz.func140 (by kernel_rfl) hb140 Go.Proofs.Tryz.results140 Go.Proofs.Tryz.ntmps140 (by decide) ?_
 rintro H args K ⟨id,k,n,kept,now,acts,room,rfl,hs,h5,h6,h7,hK⟩
 have h1:=hs.1
 refine ⟨by simp,rfl,?_⟩
 unfold b140 Go.Proofs.Tryz.f140
 simp only [Option.getD_some,argSlots,vro1_tup,vro_tup,BZ3,vcl_tup,vsca_tup,vfla_tup,vro1_nilp,vro_nilp,vroA_nilp,vcl_nilp,vsca_nilp,vfla_nilp,vro1_ptr,BZ2,BP,vro1_lptr,vro_lptr,vroA_lptr,vcl_lptr,vsca_lptr,vfla_lptr,vro1_lsl,vro_lsl,vroA_lsl,vcl_lsl,vsca_lsl,vfla_lsl,vro1_vptr,vro_vptr,vroA_vptr,vcl_vptr,vsca_vptr,vfla_vptr,vro1_map,vro1_nilmap,vro_nilmap,vroA_nilmap,vcl_nilmap,vsca_nilmap,vfla_nilmap,w_seq,BZ1,constDV,dropLk]
 refine w_draw [5,8] (.quiet 0 (.quiet 1 (.quiet 2 (.quiet 3 (.quiet 4 (.acts [(5,[3,2,1,0],.quiet 6 (.quiet 7 (.acts [(8,[],.done)])))])))))) (by decide) (by kernel_rfl) ?_
 simp only [BZ1,BZ2,Nat.reduceLT,Nat.reduceBEq,dropLk,BZ3,dnil,fp120_3,BQ,h1,shelfC,la3,if_true,List.map_cons,List.map_nil]
 refine app47 hs h5 ?_
 simp only [BZ1,BZ2,Pos.isHp,BQ,BP,dropLk,BZ3,Nat.reduceLT,Nat.reduceBEq,h1,shelfC,la3,fp120_3,dnil,dropLks,q_max,constDV,takK]
 rw [wrap_i64 (by omega) (by omega)]
 have e : (if room - (usedF now : Int) < 0 then 0 else room - (usedF now : Int)) = max (room - usedF now) 0:=by split <;> omega
 rw [e]
 exact hK
def doneH (H : List HObj) (id k n : Nat) (now : Files) (acts : List Act) (room : Int) (a : Act) : List HObj:=(H.set n (.map (enc (doesF a now)))).set id (.cells (shelfC k n (acts ++ [a]) room))
def putC (now : Files) (room : Int) (nm b : Str) : Int :=
 if namedF nm = false then 10 else if (getF now nm).isSome then 14 else if 60≤now.length∨max (room - usedF now) 0 < b.length then 15 else 0
theorem app141 {H : List HObj} {K : List HObj→DV→Prop} {id k n : Nat} {kept now : Files} {acts : List Act} {room : Int} (a : Act) (h1 : ShelfAt H id k n kept now acts room) (h2 : ((getF now a.name).getD []).length + a.b.length≤9223372036854775807) (h3 : acts.length < 100000)
  (h : K (doneH H id k n now acts room a) (.int .i64 0)) : app S141 H [.ptr id 0,.agg [.int .i64 a.kind,.str a.name,.str a.b]] K:=⟨id,k,n,kept,now,acts,room,a,rfl,h1,h2,h3,h⟩
theorem app184 {H : List HObj} {K : List HObj→DV→Prop} {s : Str} (h1 : s.length < 4611686018427387904) (h : K H (.bool (namedF s))) : app S184 H [.str s] K:=⟨s,rfl,h1,h⟩
theorem app119 {H : List HObj} {K : List HObj→DV→Prop} {id k n : Nat} {kept now : Files} {acts : List Act} {room : Int} {nm : Str} (h1 : ShelfAt H id k n kept now acts room) (h : K H (.bool (getF now nm).isSome)) : app S119 H [.ptr id 0,.str nm] K:=⟨id,k,n,kept,now,acts,room,nm,rfl,h1,h⟩
noncomputable def b122 : Code:=(Go.Proofs.Tryz.f122.body).getD .skip
theorem hb122 : Go.Proofs.Tryz.f122.body = some b122:=by kernel_rfl
def S122 : Spec:=fun H args K => ∃ id k n kept now acts room nm b,args = [.ptr id 0,.str nm,.str b]∧ShelfAt H id k n kept now acts room∧usedF now < 4611686018427387904∧0≤room∧room < 4611686018427387904∧acts.length < 100000∧nm.length < 4611686018427387904∧b.length < 4611686018427387904 ∧
 K (if putC now room nm b = 0 then doneH H id k n now acts room ⟨1,nm,b⟩ else H) (.int .i64 (putC now room nm b))
theorem rc122 {I : Jd pp} (hI : ∀ w e,I.Ok w e) (h140 : RC I 140 S140) : RC I 122 S122:=by
 refine rc_of_code (isObj:=isS) (Γ:=envOf [(184,S184),(119,S119),(140,S140),(141,S141)]) (rs:=[6]) mixed hI (envOf_rc (by simpa using ⟨rc184 hI,rc119 hI,h140,rc141 hI⟩)) Go.Proofs.Tryz.func122 (by kernel_rfl) hb122 Go.Proofs.Tryz.results122 Go.Proofs.Tryz.ntmps122 (by decide) ?_
 rintro H args K ⟨id,k,n,kept,now,acts,room,nm,b,rfl,hs,h5,h6,h7,h8,h9,h17,hK⟩
 have h1:=hs.1
 have h3:=hs.2.2.1
 refine ⟨by simp,rfl,?_⟩
 unfold b122 Go.Proofs.Tryz.f122
 simp only [Option.getD_some,argSlots,BZ2,BQ,Nat.reduceAdd,w_seq,BZ1,constDV,dropLk,Nat.reduceLT,movK,Nat.reduceBEq,Nat.reduceEqDiff,if_false,if_true,List.map_cons,List.map_nil]
 refine app184 h9 ?_
 simp only [BZ1,BZ2,Pos.isHp,BQ,BP,dropLk,Nat.reduceLT,takK,cd,Bool.not_eq_true',w_seq,constDV,Bool.not_eq_false',movK,Nat.reduceBEq,Nat.reduceEqDiff,if_false,if_true,List.map_cons,List.map_nil]
 refine ⟨fun e => by simpa [putC,e] using hK,fun e1 => ?_⟩
 refine app119 hs ?_
 simp only [BZ1,BZ2,Pos.isHp,BQ,BP,dropLk,Nat.reduceLT,takK,cd,w_seq,constDV,movK,Nat.reduceBEq,dnil,fp120_1,h1,shelfC,la117,BZ3,dl117,h3,enc_length,gs2_bool,decide_eq_false_iff_not,dl9,Nat.reduceEqDiff,if_false,if_true,List.map_cons,List.map_nil,bd134,bd134_0,Nat.reduceAdd,Nat.reduceLeDiff,bd134_1,bd134_2,vfla_tup,vro_tup,decide_eq_true_eq]
 refine ⟨fun e2 => by simpa [putC,e1,e2] using hK,fun e2 => ⟨fun e3 => ?_,fun e3 => ?_⟩⟩
 ·refine app140 hs h5 h6 h7 ?_
  simp only [BZ1,BZ2,Pos.isHp,BQ,BP,dropLk,Nat.reduceLT,Nat.reduceBEq,gs2_bool,BZ3,constDV,if_false,takK,cd,decide_eq_true_eq,w_seq,decide_eq_false_iff_not,movK,bd134,bd134_0,Nat.reduceAdd,Nat.reduceLeDiff,bd134_1,bd134_2,Nat.reduceEqDiff,if_true,List.map_cons,List.map_nil]
  refine ⟨fun e4 => ?_,fun e4 => ?_⟩
  ·have e5 : putC now room nm b = 15:=by simp only [putC,e1,e2]; simp; intro h; omega
   simpa [e5] using hK
  ·have e5 : putC now room nm b = 0:=by simp only [putC,e1,e2]; simp; omega
   have hlen : ((getF now nm).getD []).length + b.length≤9223372036854775807:=by
    cases h : getF now nm with
    | none => simp; omega
    | some v => simp [h] at e2
   refine app141 ⟨1,nm,b⟩ hs hlen h8 ?_
   simp only [hold_app2,mk_called,Pos.isHp,BQ,BP,dropLk,hold_app,tS_cons,g_none,o_assign,Nat.reduceLT,take_tmp,takK,look_hit,vroA_int,mk_put,tS_nil,w_ret,ret_one,vfla_int]
   simpa [e5] using hK
 ·have e5 : putC now room nm b = 15:=by simp only [putC,e1,e2]; simp; omega
  simpa [e5] using hK
def addC (now : Files) (room : Int) (nm b : Str) : Int :=
 if (getF now nm).isSome = false then 14 else if max (room - usedF now) 0 < b.length then 15 else 0
theorem getF_used (nm : Str) : ∀ fs,((getF fs nm).getD []).length≤usedF fs
 | [] => by simp [getF]
 | (x,v) :: r => by
  have:=getF_used nm r
  simp only [getF,usedF]
  split
  ·simp
  ·omega
noncomputable def b74 : Code:=(Go.Proofs.Tryz.f74.body).getD .skip
theorem hb74 : Go.Proofs.Tryz.f74.body = some b74:=by kernel_rfl
def S74 : Spec:=fun H args K => ∃ id k n kept now acts room nm b,args = [.ptr id 0,.str nm,.str b]∧ShelfAt H id k n kept now acts room∧usedF now < 4611686018427387904∧0≤room∧room < 4611686018427387904∧acts.length < 100000∧b.length < 4611686018427387904 ∧
 K (if addC now room nm b = 0 then doneH H id k n now acts room ⟨2,nm,b⟩ else H) (.int .i64 (addC now room nm b))
theorem rc74 {I : Jd pp} (hI : ∀ w e,I.Ok w e) (h140 : RC I 140 S140) : RC I 74 S74:=by
 refine rc_of_code (isObj:=isS) (Γ:=envOf [(119,S119),(140,S140),(141,S141)]) (rs:=[6]) mixed hI (envOf_rc (by simpa using ⟨rc119 hI,h140,rc141 hI⟩)) Go.Proofs.Tryz.func74 (by kernel_rfl) hb74 Go.Proofs.Tryz.results74 Go.Proofs.Tryz.ntmps74 (by decide) ?_
 rintro H args K ⟨id,k,n,kept,now,acts,room,nm,b,rfl,hs,h5,h6,h7,h8,h17,hK⟩
 refine ⟨by simp,rfl,?_⟩
 unfold b74 Go.Proofs.Tryz.f74
 simp only [Option.getD_some,argSlots,BZ2,BQ,Nat.reduceAdd,w_seq,BZ1,constDV,dropLk,Nat.reduceLT,movK,Nat.reduceBEq,Nat.reduceEqDiff,if_false,if_true,List.map_cons,List.map_nil]
 refine app119 hs ?_
 simp only [BZ1,BZ2,Pos.isHp,BQ,BP,dropLk,Nat.reduceLT,takK,cd,Bool.not_eq_true',w_seq,constDV,Bool.not_eq_false',movK,Nat.reduceBEq,dl9,Nat.reduceEqDiff,if_false,if_true,List.map_cons,List.map_nil]
 refine ⟨fun e2 => by simpa [addC,e2] using hK,fun e2 => ?_⟩
 refine app140 hs h5 h6 h7 ?_
 simp only [BZ1,BZ2,Pos.isHp,BQ,BP,dropLk,Nat.reduceLT,Nat.reduceBEq,BZ3,takK,cd,decide_eq_true_eq,w_seq,constDV,decide_eq_false_iff_not,movK,bd134,bd134_0,Nat.reduceAdd,Nat.reduceLeDiff,bd134_1,bd134_2,Nat.reduceEqDiff,if_true,if_false,List.map_cons,List.map_nil]
 refine ⟨fun e4 => ?_,fun e4 => ?_⟩
 ·have e5 : addC now room nm b = 15:=by simp only [addC,e2]; simp; omega
  simpa [e5] using hK
 ·have e5 : addC now room nm b = 0:=by simp only [addC,e2]; simp; omega
  have hlen : ((getF now nm).getD []).length + b.length≤9223372036854775807:=by
   have:=getF_used nm now; omega
  refine app141 ⟨2,nm,b⟩ hs hlen h8 ?_
  simp only [hold_app2,mk_called,Pos.isHp,BQ,BP,dropLk,hold_app,tS_cons,g_none,o_assign,Nat.reduceLT,take_tmp,takK,look_hit,vroA_int,mk_put,tS_nil,w_ret,ret_one,vfla_int]
  simpa [e5] using hK
noncomputable def b130 : Code:=(Go.Proofs.Tryz.f130.body).getD .skip
theorem hb130 : Go.Proofs.Tryz.f130.body = some b130:=by kernel_rfl
def swapC (now : Files) (old nm : Str) : Int:=if namedF nm = false then 10 else if (getF now old).isSome = false then 14 else 0
def S130 : Spec:=fun H args K => ∃ id k n kept now acts room old nm,args = [.ptr id 0,.str old,.str nm]∧ShelfAt H id k n kept now acts room∧usedF now < 4611686018427387904∧acts.length < 100000∧nm.length < 4611686018427387904 ∧
 K (if swapC now old nm = 0 then doneH H id k n now acts room ⟨3,old,nm⟩ else H) (.int .i64 (swapC now old nm))
theorem rc130 {I : Jd pp} (hI : ∀ w e,I.Ok w e) : RC I 130 S130:=by
 refine rc_of_code (isObj:=isS) (Γ:=envOf [(184,S184),(119,S119),(141,S141)]) (rs:=[6]) mixed hI (envOf_rc (by simpa using ⟨rc184 hI,rc119 hI,rc141 hI⟩)) Go.Proofs.Tryz.func130 (by kernel_rfl) hb130 Go.Proofs.Tryz.results130 Go.Proofs.Tryz.ntmps130 (by decide) ?_
 rintro H args K ⟨id,k,n,kept,now,acts,room,old,nm,rfl,hs,h5,h8,h17,hK⟩
 refine ⟨by simp,rfl,?_⟩
 unfold b130 Go.Proofs.Tryz.f130
 simp only [Option.getD_some,argSlots,BZ2,BQ,Nat.reduceAdd,w_seq,BZ1,constDV,dropLk,Nat.reduceLT,movK,Nat.reduceBEq,Nat.reduceEqDiff,if_false,if_true,List.map_cons,List.map_nil]
 refine app184 h17 ?_
 simp only [BZ1,BZ2,Pos.isHp,BQ,BP,dropLk,Nat.reduceLT,takK,cd,Bool.not_eq_true',w_seq,constDV,Bool.not_eq_false',movK,Nat.reduceBEq,Nat.reduceEqDiff,if_false,if_true,List.map_cons,List.map_nil]
 refine ⟨fun e => by simpa [swapC,e] using hK,fun e1 => ?_⟩
 refine app119 hs ?_
 simp only [BZ1,BZ2,Pos.isHp,BQ,BP,dropLk,Nat.reduceLT,takK,cd,Bool.not_eq_true',w_seq,constDV,Bool.not_eq_false',movK,Nat.reduceBEq,bd134,bd134_0,BZ3,Nat.reduceAdd,Nat.reduceLeDiff,bd134_1,bd134_2,Nat.reduceEqDiff,if_true,if_false,List.map_cons,List.map_nil]
 refine ⟨fun e2 => by simpa [swapC,e1,e2] using hK,fun e2 => ?_⟩
 have hlen : ((getF now old).getD []).length + nm.length≤9223372036854775807:=by
  have:=getF_used old now; omega
 refine app141 ⟨3,old,nm⟩ hs hlen h8 ?_
 simp only [hold_app2,mk_called,Pos.isHp,BQ,BP,dropLk,hold_app,tS_cons,g_none,o_assign,Nat.reduceLT,take_tmp,takK,look_hit,vroA_int,mk_put,tS_nil,w_ret,ret_one,vfla_int]
 simpa [swapC,e1,e2] using hK
noncomputable def b129 : Code:=(Go.Proofs.Tryz.f129.body).getD .skip
theorem hb129 : Go.Proofs.Tryz.f129.body = some b129:=by kernel_rfl
def dropC (now : Files) (nm : Str) : Int:=if (getF now nm).isSome = false then 14 else 0
def S129 : Spec:=fun H args K => ∃ id k n kept now acts room nm,args = [.ptr id 0,.str nm]∧ShelfAt H id k n kept now acts room∧usedF now < 4611686018427387904∧acts.length < 100000 ∧
 K (if dropC now nm = 0 then doneH H id k n now acts room ⟨4,nm,[]⟩ else H) (.int .i64 (dropC now nm))
theorem rc129 {I : Jd pp} (hI : ∀ w e,I.Ok w e) : RC I 129 S129:=by
 refine rc_of_code (isObj:=isS) (Γ:=envOf [(119,S119),(141,S141)]) (rs:=[4]) mixed hI (envOf_rc (by simpa using ⟨rc119 hI,rc141 hI⟩)) Go.Proofs.Tryz.func129 (by kernel_rfl) hb129 Go.Proofs.Tryz.results129 Go.Proofs.Tryz.ntmps129 (by decide) ?_
 rintro H args K ⟨id,k,n,kept,now,acts,room,nm,rfl,hs,h5,h8,hK⟩
 refine ⟨by simp,rfl,?_⟩
 unfold b129 Go.Proofs.Tryz.f129
 simp only [Option.getD_some,argSlots,BZ2,BQ,w_seq,BZ1,constDV,dropLk,Nat.reduceLT,movK,Nat.reduceBEq,Nat.reduceEqDiff,if_false,if_true,List.map_cons,List.map_nil]
 refine app119 hs ?_
 simp only [BZ1,BZ2,Pos.isHp,BQ,BP,dropLk,Nat.reduceLT,cd,Bool.not_eq_true',w_seq,constDV,Bool.not_eq_false',movK,Nat.reduceBEq,bd134,bd134_0,BZ3,Nat.reduceAdd,Nat.reduceLeDiff,bd134_1,takK,Nat.reduceEqDiff,if_true,if_false,List.map_cons,List.map_nil]
 refine ⟨fun e2 => by simpa [dropC,e2] using hK,fun e2 => ?_⟩
 have hlen : ((getF now nm).getD []).length + ([] : Str).length≤9223372036854775807:=by
  have:=getF_used nm now; simp; omega
 refine app141 ⟨4,nm,[]⟩ hs hlen h8 ?_
 simp only [hold_app2,mk_called,Pos.isHp,BQ,BP,dropLk,hold_app,tS_cons,g_none,o_assign,Nat.reduceLT,take_tmp,takK,look_hit,vroA_int,mk_put,tS_nil,w_ret,ret_one,vfla_int]
 simpa [dropC,e2] using hK
noncomputable def b46 : Code:=(Go.Proofs.Tryz.f46.body).getD .skip
theorem hb46 : Go.Proofs.Tryz.f46.body = some b46:=by kernel_rfl
def S46 : Spec:=fun H args K => ∃ id k n kept now acts room v,args = [.ptr id 0,.int .i64 v]∧ShelfAt H id k n kept now acts room∧K (H.set id (.cells (shelfC k n acts (min (max v 0) 1000000)))) (.tup [])
theorem rc46 {I : Jd pp} (hI : ∀ w e,I.Ok w e) : RC I 46 S46:=by
 refine rc_of_code (isObj:=isS) (Γ:=envOf []) (rs:=[]) mixed hI (envOf_rc (by simp)) Go.Proofs.Tryz.func46 (by kernel_rfl) hb46 Go.Proofs.Tryz.results46 Go.Proofs.Tryz.ntmps46 (by decide) ?_
 rintro H args K ⟨id,k,n,kept,now,acts,room,v,rfl,hs,hK⟩
 have h1:=hs.1
 refine ⟨by simp,rfl,?_⟩
 unfold b46 Go.Proofs.Tryz.f46
 simp only [Option.getD_some,argSlots,BZ2,BQ,BZ1,Nat.reduceLT,movK,dropLk,Nat.reduceBEq,BZ3,constDV,BP,dnil,fp120_3,takK,h1,shelfC,Proofs.Tryz.underlying3,cn3,Nat.reduceAdd,Nat.reduceLeDiff,Pos.inHp]
 have e : (if 1000000 < if v < 0 then 0 else v then 1000000 else if v < 0 then 0 else v) = min (max v 0) 1000000:=by split <;> split <;> omega
 rw [e]
 exact hK
noncomputable def b61 : Code:=(Go.Proofs.Tryz.f61.body).getD .skip
theorem hb61 : Go.Proofs.Tryz.f61.body = some b61:=by kernel_rfl
def S61 : Spec:=fun H args K => ∃ id k n kept now acts room nm,args = [.ptr id 0,.str nm]∧ShelfAt H id k n kept now acts room∧K H (.tup [.str ((getF now nm).getD []),.int .i64 (if (getF now nm).isSome then 0 else 14)])
theorem rc61 {I : Jd pp} (hI : ∀ w e,I.Ok w e) : RC I 61 S61:=by
 refine rc_of_code (isObj:=isS) (Γ:=envOf [(119,S119)]) (rs:=[4,5]) mixed hI (envOf_rc (by simpa using rc119 hI)) Go.Proofs.Tryz.func61 (by kernel_rfl) hb61 Go.Proofs.Tryz.results61 Go.Proofs.Tryz.ntmps61 (by decide) ?_
 rintro H args K ⟨id,k,n,kept,now,acts,room,nm,rfl,hs,hK⟩
 have h1:=hs.1
 have h3:=hs.2.2.1
 refine ⟨by simp,rfl,?_⟩
 unfold b61 Go.Proofs.Tryz.f61
 simp only [Option.getD_some,argSlots,BZ2,BQ,w_seq,BZ1,constDV,dropLk,Nat.reduceLT,movK,Nat.reduceBEq,if_true,List.map_cons,List.map_nil]
 refine app119 hs ?_
 simp only [BZ1,BZ2,Pos.isHp,BQ,BP,dropLk,Nat.reduceLT,cd,Bool.not_eq_true',w_seq,constDV,BZ3,Nat.reduceBEq,Bool.not_eq_false',movK,dnil,fp120_1,h1,shelfC,la117,DV.plain,lk_h Go.Proofs.Tryz.underlying117,h3,kt9,lf9,find_enc,mro,takK]
 refine ⟨fun e => ?_,fun e => ?_⟩
 ·cases h : getF now nm with
  | none => simpa [h] using hK
  | some v => simp [h] at e
 ·simpa [e] using hK
def S82 : Spec:=fun H args K => ∃ m es,args = [.map m]∧H[m]? = some (.map es)∧K (H ++ [HObj.map es]) (.map H.length)
theorem app82 {H : List HObj} {K : List HObj→DV→Prop} {m : Nat} {es : List (DV × DV)} (h1 : H[m]? = some (.map es)) (h : K (H ++ [HObj.map es]) (.map H.length)) : app S82 H [.map m] K:=⟨m,es,rfl,h1,h⟩
noncomputable def b118 : Code:=(Go.Proofs.Tryz.f118.body).getD .skip
theorem hb118 : Go.Proofs.Tryz.f118.body = some b118:=by kernel_rfl
def S118 : Spec:=fun H args K => ∃ id k n kept now acts room,args = [.ptr id 0]∧ShelfAt H id k n kept now acts room∧K ((H ++ [HObj.map (enc now)]).set id (.cells (shelfC H.length n [] room))) (.tup [])
theorem rc118 {I : Jd pp} (hI : ∀ w e,I.Ok w e) (h82 : RC I 82 S82) : RC I 118 S118:=by
 refine rc_of_code (isObj:=isS) (Γ:=envOf [(82,S82)]) (rs:=[]) mixed hI (envOf_rc (by simpa using h82)) Go.Proofs.Tryz.func118 (by kernel_rfl) hb118 Go.Proofs.Tryz.results118 Go.Proofs.Tryz.ntmps118 (by decide) ?_
 rintro H args K ⟨id,k,n,kept,now,acts,room,rfl,hs,hK⟩
 have h1:=hs.1
 have h3:=hs.2.2.1
 have hid : id < H.length:=(List.getElem?_eq_some_iff.1 h1).1
 have h1' : (H ++ [HObj.map (enc now)])[id]? = some (.cells (shelfC k n acts room)):=by rw [List.getElem?_append_left hid]; exact h1
 refine ⟨by simp,rfl,?_⟩
 unfold b118 Go.Proofs.Tryz.f118
 simp only [Option.getD_some,argSlots,BZ2,BZ1,Nat.reduceLT,movK,dropLk,Nat.reduceBEq,dnil,BP,fp120_1,BQ,h1,shelfC,la117,lo_map,if_true,List.map_cons,List.map_nil]
 refine app82 h3 ?_
 simp only [BZ1,BZ2,Pos.isHp,BQ,BP,dropLk,dnil,Nat.reduceLT,Nat.reduceBEq,fp120_0,takK,h1',shelfC,Proofs.Tryz.underlying117,cn117,Nat.reduceAdd,Nat.reduceLeDiff,mk_setH,Pos.inHp,fp120_2,constDV,Proofs.Tryz.underlying118,cn134,Function.const_apply,cn118]
 simpa [shelfC] using hK
theorem app46 {H : List HObj} {K : List HObj→DV→Prop} {id k n : Nat} {kept now : Files} {acts : List Act} {room v : Int} (h1 : ShelfAt H id k n kept now acts room) (h : K (H.set id (.cells (shelfC k n acts (min (max v 0) 1000000)))) (.tup [])) : app S46 H [.ptr id 0,.int .i64 v] K:=⟨id,k,n,kept,now,acts,room,v,rfl,h1,h⟩
noncomputable def b17 : Code:=(Go.Proofs.Tryz.f17.body).getD .skip
theorem hb17 : Go.Proofs.Tryz.f17.body = some b17:=by kernel_rfl
def S17 : Spec:=fun H args K => ∃ v,args = [.int .i64 v]∧K (H ++ [HObj.map [],HObj.map [],HObj.cells (shelfC H.length (H.length + 1) [] (min (max v 0) 1000000))]) (.ptr (H.length + 2) 0)
theorem rc17 {I : Jd pp} (hI : ∀ w e,I.Ok w e) : RC I 17 S17:=by
 refine rc_of_code (isObj:=isS) (Γ:=envOf [(46,S46)]) (rs:=[2]) mixed hI (envOf_rc (by simpa using rc46 hI)) Go.Proofs.Tryz.func17 (by kernel_rfl) hb17 Go.Proofs.Tryz.results17 Go.Proofs.Tryz.ntmps17 (by decide) ?_
 rintro H args K ⟨v,rfl,hK⟩
 refine ⟨by simp,rfl,?_⟩
 unfold b17 Go.Proofs.Tryz.f17
 simp only [Option.getD_some,argSlots,BZ2,w_seq,BZ1,constDV,dropLk,BZ3,List.length_append,BQ,bd120,isS_eq,Nat.reduceBEq,nz_f,bd120_0,Nat.reduceLT,takK,BP,Nat.reduceAdd,Nat.reduceLeDiff,bd120_1,List.map_cons,vro1_map,List.map_nil,bgen_eq,if_true,movK]
 have hs : ShelfAt (H ++ [HObj.map [],HObj.map [],HObj.cells (shelfC H.length (H.length + 1) [] 0)]) (H.length + 2) H.length (H.length + 1) [] [] [] 0:=⟨by simp,by simp [enc],by simp [enc],by omega⟩
 refine app46 hs ?_
 simp only [ap_set,BQ,BZ1,BZ2,Pos.isHp,BP,dropLk,w_seq,Nat.reduceLT,movK,Nat.reduceBEq,takK]
 simpa [List.set_append] using hK
end Go.Ab.En
