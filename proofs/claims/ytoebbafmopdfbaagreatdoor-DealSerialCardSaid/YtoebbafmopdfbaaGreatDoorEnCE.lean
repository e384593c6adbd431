/- A part of the proof; no condition of its own. -/
import Derived.Test.YtoebbafmopdfbaaGreatDoorEnCB
set_option linter.unusedSimpArgs false
set_option linter.unusedVariables false
namespace Go.Ab.En
open Go Go.Conc Go.RowKit Go.Ab
set_option maxRecDepth 10000
noncomputable def b154 : Code:=(Go.Proofs.Tryz.f154.body).getD .skip
theorem hb154 : Go.Proofs.Tryz.f154.body = some b154:=by kernel_rfl
def lowE (c : Int) (a : Str) : Str:=keyS c (if a = [] then [0] else a)
def highE (c : Int) (b : Str) : Str:=if b = [] then (if c = 255 then [] else keyS (c + 1) []) else keyS c b
def SEnds : Spec:=fun H args K => ∃ (c : Int) (a b : Str),args = [.int .u8 c,.str a,.str b]∧0≤c∧c < 256∧a.length < 4000000000000000000∧b.length < 4000000000000000000∧K H (.tup [.str (lowE c a),.str (highE c b)])
theorem appEnds {H : List HObj} {K : List HObj→DV→Prop} {c : Int} {a b : Str} (h1 : 0≤c) (h2 : c < 256) (h3 : a.length < 4000000000000000000) (h4 : b.length < 4000000000000000000) (h : K H (.tup [.str (lowE c a),.str (highE c b)])) : app SEnds H [.int .u8 c,.str a,.str b] K:=⟨c,a,b,rfl,h1,h2,h3,h4,h⟩
set_option maxHeartbeats 4000000 in
theorem rcEnds {I : Jd pp} (hI : ∀ w e,I.Ok w e) : RC I 154 SEnds:=by
 refine rc_of_code (isObj:=noO) (Γ:=envOf [(84,SKey)]) (rs:=[6,7]) mixed hI (envOf_rc (by simpa using rcKey hI)) Go.Proofs.Tryz.func154 (by kernel_rfl) hb154 Go.Proofs.Tryz.results154 Go.Proofs.Tryz.ntmps154 (by decide) ?_
 rintro H args K ⟨c,a,b,rfl,h1,h2,h3,h4,hK⟩
 refine ⟨by simp,rfl,?_⟩
 unfold b154 Go.Proofs.Tryz.f154
 by_cases ha : a = []
 all_goals
  simp only [Option.getD_some,argSlots,BB1,BQ,ha,Nat.reduceAdd,BB0,constDV,dropLk,Nat.reduceLT,movK,Nat.reduceBEq,BB3,BB4,cd_t,BB5,if_true,List.map_cons,List.map_nil,if_false,cd_f]
  refine appKey (by first | exact h3 | simp) ?_
  by_cases hb : b = []
  ·by_cases hc : c = 255
   ·simp only [hc,BB1,hb,BB5,Pos.isHp,BQ,dropLk,BB0,Nat.reduceLT,takK,BB3,movK,Nat.reduceBEq,BB4,constDV,ne_eq,cd_f,cd_t,BB6,if_false]
    simpa [lowE,highE,ha,hb,hc] using hK
   ·have w1 : IntKind.u8.wrap (c + 1) = c + 1:=wrap_u8 (by omega) (by omega)
    simp only [BB1,hb,BB5,Pos.isHp,BQ,dropLk,BB0,Nat.reduceLT,takK,BB3,movK,Nat.reduceBEq,BB4,constDV,ne_eq,cd_f,hc,w1,if_true,List.map_cons,List.map_nil,if_false]
    refine appKey (by simp) ?_
    simp only [BB1,BB5,Pos.isHp,List.filter_nil,dropLk,BB0,Nat.reduceLT,takK,Nat.reduceBEq,BB3,BB6,and_true,true_and]
    simpa [lowE,highE,ha,hb,hc] using hK
  ·simp only [BB1,BB5,Pos.isHp,BQ,dropLk,BB0,Nat.reduceLT,takK,BB3,movK,Nat.reduceBEq,BB4,constDV,ne_eq,hb,cd_t,if_true,List.map_cons,List.map_nil,if_false]
   refine appKey h4 ?_
   simp only [BB1,BB5,Pos.isHp,List.filter_nil,dropLk,BB0,Nat.reduceLT,takK,Nat.reduceBEq,BB3,BB6,and_true,true_and]
   simpa [lowE,highE,ha,hb] using hK
def movedE (es : List Ent) (n m : Int) (r : Rd) : Bool :=
 if r.scan then !decide (scanE es (lowE r.level r.frm) (highE r.level r.til) (min n m) = scanE es (lowE r.level r.frm) (highE r.level r.til) m)
 else !decide (seenE es (keyS r.level r.frm) (min n m) = seenE es (keyS r.level r.frm) m)
def RdOk (r : Rd) : Prop:=0≤r.level∧r.level < 256∧r.frm.length < 4000000000000000000∧r.til.length < 4000000000000000000∧r.prs.length < 100000
noncomputable def b150 : Code:=(Go.Proofs.Tryz.f150.body).getD .skip
theorem hb150 : Go.Proofs.Tryz.f150.body = some b150:=by kernel_rfl
def SDMov : Spec:=fun H args K => ∃ (D : DealS) (E : EngS) (m : Nat) (r : Rd),args = [.ptr D.d 0,rdD r]∧D.At H∧E.x = D.x∧E.At H∧E.Good m∧m < 300∧D.over = false∧RdOk r∧∀ H',Fr [] H H'→K H' (.tup [.bool (movedE E.es D.n m r),.int .i64 0])
set_option maxHeartbeats 4000000 in
theorem rcDMov {I : Jd pp} (hI : ∀ w e,I.Ok w e) (hC : RC I 21 SSnChg) (hM : RC I 20 SSnMov) : RC I 150 SDMov:=by
 refine rc_of_code (isObj:=noO) (Γ:=envOf [(84,SKey),(154,SEnds),(21,SSnChg),(20,SSnMov)]) (rs:=[4,5]) mixed hI (envOf_rc (by simpa using ⟨rcKey hI,rcEnds hI,hC,hM⟩)) Go.Proofs.Tryz.func150 (by kernel_rfl) hb150 Go.Proofs.Tryz.results150 Go.Proofs.Tryz.ntmps150 (by decide) ?_
 rintro H args K ⟨D,E,m,⟨lv,sc,a,b,ps⟩,rfl,h1,hx,h2,hg,hm,ho,⟨r1,r2,r3,r4,r5⟩,hK⟩
 simp only at r1 r2 r3 r4 r5
 have t1:=h1.top
 have sn:=h1.snap
 rw [ho] at sn t1
 have w1 : IntKind.u8.wrap lv = lv:=wrap_u8 (by omega) (by omega)
 refine ⟨by simp,rfl,?_⟩
 unfold b150 Go.Proofs.Tryz.f150
 cases sc
 ·simp only [Option.getD_some,argSlots,BB2,BQ,rdD,BB1,List.map_cons,List.map_nil,BB0,Nat.reduceLT,takK,Nat.reduceBEq,BB3,BB4,isO_eq,dropLk,bgen_eq,if_false,constDV,fl148_1,if_true,la4,cd_t]
  refine w_draw [9,10,13,14] (.quiet 0 (.quiet 1 (.quiet 2 (.quiet 3 (.quiet 4 (.quiet 5 (.quiet 6 (.quiet 7 (.quiet 8 (.acts [(9,[3,2,1,0],.acts [(10,[],.quiet 11 (.quiet 12 (.acts [(13,[],.acts [(14,[],.done)])])))])])))))))))) (by decide) (by kernel_rfl) ?_
  simp only [BB0,BB5,BB1,Nat.reduceLT,Nat.reduceBEq,BB3,BB2,dropLk,dnil,fp143_1,BQ,t1,la34,fl148_0,if_true,la3,cv3_5,w1,fl148_2,la9,BB4,Nat.reduceEqDiff,if_false,List.map_cons,List.map_nil]
  refine appKey r3 ?_
  simp only [BB1,BB5,Pos.isHp,BQ,dropLk,BB0,Nat.reduceLT,Nat.reduceBEq,BB3,t1,la34,BB2,fp143_1,dnil,dropLks,BB4,Nat.reduceEqDiff,if_false,if_true,List.map_cons,List.map_nil]
  refine appSnChgX hx sn h2 hg hm fun H1 f1 => ?_
  simp only [BB1,BB5,Pos.isHp,BQ,dropLk,dropLks,BB0,Nat.reduceLT,BB3,Nat.reduceBEq,takK,BB6]
  simpa [movedE] using hK H1 f1
 ·simp only [Option.getD_some,argSlots,BB2,BQ,rdD,BB1,List.map_cons,List.map_nil,BB0,Nat.reduceLT,takK,Nat.reduceBEq,BB3,BB4,isO_eq,dropLk,bgen_eq,if_false,constDV,fl148_1,if_true,la4,cd_f]
  refine w_draw [11,14,17,18] (.quiet 0 (.quiet 1 (.quiet 2 (.quiet 3 (.quiet 4 (.quiet 5 (.quiet 6 (.quiet 7 (.quiet 8 (.quiet 9 (.quiet 10 (.acts [(11,[3,2,1,0],.quiet 12 (.quiet 13 (.acts [(14,[],.quiet 15 (.quiet 16 (.acts [(17,[],.acts [(18,[],.done)])])))])))])))))))))))) (by decide) (by kernel_rfl) ?_
  simp only [BB0,BB5,BB1,Nat.reduceLT,Nat.reduceBEq,BB3,BB2,dropLk,dnil,fp143_1,BQ,t1,la34,fl148_0,if_true,la3,cv3_5,w1,fl148_2,la9,fl148_3,BB4,Nat.reduceEqDiff,if_false,List.map_cons,List.map_nil]
  refine appEnds r1 r2 r3 r4 ?_
  simp only [BB1,BB5,Pos.isHp,BQ,dropLk,BB0,Nat.reduceLT,Nat.reduceBEq,BB3,t1,la34,BB2,fp143_1,dnil,dropLks,BB4,Nat.reduceEqDiff,if_true,if_false,List.map_cons,List.map_nil]
  refine appSnMovX hx sn h2 hg hm fun H1 f1 => ?_
  simp only [BB1,BB5,Pos.isHp,BQ,dropLk,dropLks,BB0,Nat.reduceLT,BB3,Nat.reduceBEq,takK,BB6]
  simpa [movedE] using hK H1 f1
noncomputable def b85 : Code:=(Go.Proofs.Tryz.f85.body).getD .skip
theorem hb85 : Go.Proofs.Tryz.f85.body = some b85:=by kernel_rfl
def readyC (over : Bool) (es : List Ent) (n m : Int) (rs : List Rd) : Int:=if over then 18 else if rs.any (movedE es n m) then 21 else 0
def SReady : Spec:=fun H args K => ∃ (D : DealS) (E : EngS) (m : Nat),args = [.ptr D.d 0]∧D.At H∧(D.over = false→E.x = D.x∧E.At H∧E.Good m∧m < 300)∧(∀ r∈D.reads,RdOk r)∧D.reads.length < 100000∧∀ H',Fr [] H H'→K H' (.int .i64 (readyC D.over E.es D.n m D.reads))
theorem rd_get {rs : List Rd} {i : Nat} (h : i < rs.length) : (rs.map rdD).getD i .undef = rdD rs[i]:=by simp [List.getD,h]
def MRy (H : List HObj) (D : DealS) (E : EngS) (m : Nat) (k : Nat) (st : St) : Prop:=∃ (i : Nat) (H' : List HObj) (B : List (Nat × Nat × List DV)),i≤D.reads.length∧k = D.reads.length - i∧Fr [] H H'∧(D.reads.take i).any (movedE E.es D.n m) = false∧(B = []∨∃ g c,B = [(4,g,c)]) ∧
 st = mk 32 [(0,.ptr D.d 0),(14,.sl false 5 (D.reads.map rdD)),(15,.int .i64 D.reads.length),(16,.int .i64 i)] B H' []
set_option maxHeartbeats 4000000 in
theorem rcReady {I : Jd pp} (hI : ∀ w e,I.Ok w e) (hC : RC I 21 SSnChg) (hM : RC I 20 SSnMov) : RC I 85 SReady:=by
 refine rc_of_code (isObj:=noO) (Γ:=envOf [(150,SDMov)]) (rs:=[2]) mixed hI (envOf_rc (by simpa using rcDMov hI hC hM)) Go.Proofs.Tryz.func85 (by kernel_rfl) hb85 Go.Proofs.Tryz.results85 Go.Proofs.Tryz.ntmps85 (by decide) ?_
 rintro H args K ⟨D,E,m,rfl,h1,h2,h3,h4,hK⟩
 have t1:=h1.top
 refine ⟨by simp,rfl,?_⟩
 unfold b85 Go.Proofs.Tryz.f85
 cases ho : D.over
 ·rw [ho] at t1
  obtain ⟨hx,a2,hg,hm⟩:=h2 ho
  simp only [Option.getD_some,argSlots,BB2,BB0,BB1,constDV,dropLk,Nat.reduceLT,movK,Nat.reduceBEq,BB3,dnil,fp143_5,BQ,t1,la4,cd_f,fp143_3,la67,addrPos,ia67,if_false,dl67,List.length_map,Pos.atSlot]
  refine w_loop [0,14,15,16] (MRy H D E m) D.reads.length ?_ ?_
  ·exact ⟨0,H,[],by omega,by omega,Fr.refl _ _,by simp,.inl rfl,by simp only [BB1,List.map_cons,Nat.reduceBEq,BB3,List.map_nil,BB4]; try rfl⟩
  ·rintro k st ⟨i,H',B,hi,rfl,f1,hany,hB,rfl⟩
   obtain ⟨g,hb1,hb2⟩:=box1 hB
   by_cases e : i < D.reads.length
   ·have e1 : (i : Int) < D.reads.length:=by omega
    have e2 : (0 : Int)≤i:=by omega
    have wi : IntKind.i64.wrap ((i : Int) + 1) = ((i + 1 : Nat) : Int):=by rw [wrap_i64 (by omega) (by omega)]; omega
    have hx2:=rd_get e
    have hok:=h3 _ (List.getElem_mem e)
    have htk : (D.reads.take (i + 1)).any (movedE E.es D.n m) = movedE E.es D.n m D.reads[i]:=by rw [List.take_succ_eq_append_getElem e,List.any_append,hany]; simp
    simp only [BB0,BB1,BB4,BQ,Nat.reduceLT,Nat.reduceBEq,BB3,e1,dropLk,cd_t,ix67,e2,List.length_map,hx2,rdD,la148,Nat.reduceAdd,Nat.reduceLeDiff,List.map_cons,List.map_nil,al148,isO_eq,BB7,hb1,hb2,if_false,takK,if_true,Proofs.Tryz.underlying148,cn148,Pos.inBox,movK,BB2,BB5]
    refine ⟨D,E,m,D.reads[i],rfl,h1.fr f1 (by simp),hx,a2.fr0 f1,hg,hm,ho,hok,fun H2 f2 => ?_⟩
    cases hmv : movedE E.es D.n m D.reads[i]
    ·simp only [BB1,BB5,Pos.isHp,BQ,dropLk,BB0,Nat.reduceLT,movK,BB3,BB2,List.map_cons,List.map_nil,extK,Nat.reduceBEq,takK,BB4,constDV,ne_eq,cd_f,wi,if_false,reduceCtorEq,BB6,if_true]
     refine ⟨_,?_,i + 1,H2,_,by omega,rfl,(f1.trans f2).mono (by simp),by rw [htk,hmv],.inr ⟨_,_,rfl⟩,rfl⟩
     omega
    ·simp only [BB1,BB5,Pos.isHp,BQ,dropLk,BB0,Nat.reduceLT,movK,BB3,BB2,List.map_cons,List.map_nil,extK,Nat.reduceBEq,takK,BB4,constDV,ne_eq,cd_f,cd_t,BB6,if_false]
     have hr : readyC D.over E.es D.n m D.reads = 21:=by
      unfold readyC
      rw [ho,if_neg (by decide),if_pos (List.any_eq_true.2 ⟨_,List.getElem_mem e,hmv⟩)]
     rw [← hr]
     exact hK H2 ((f1.trans f2).mono (by simp))
   ·obtain rfl : i = D.reads.length:=by omega
    have e1 : ¬ (D.reads.length : Int) < D.reads.length:=by omega
    simp only [BB0,BB1,BB4,BQ,Nat.reduceLT,Nat.reduceBEq,BB3,e1,dropLk,cd_f,constDV,BB6,if_true,if_false]
    have hr : readyC D.over E.es D.n m D.reads = 0:=by
     rw [List.take_length] at hany
     unfold readyC
     rw [ho,if_neg (by decide),hany,if_neg (by decide)]
    rw [← hr]
    exact hK H' f1
 ·rw [ho] at t1
  simp only [Option.getD_some,argSlots,BB2,BB0,BB1,constDV,dropLk,Nat.reduceLT,movK,Nat.reduceBEq,BB3,dnil,fp143_5,BQ,t1,la4,cd_t,BB6]
  have hr : readyC D.over E.es D.n m D.reads = 18:=by unfold readyC; rw [ho,if_pos rfl]
  rw [← hr]
  exact hK H (Fr.refl _ _)
end Go.Ab.En
namespace Go.Ab.En
open Go Go.Conc Go.RowKit Go.Ab
set_option maxRecDepth 10000
noncomputable def b30 : Code:=(Go.Proofs.Tryz.f30.body).getD .skip
theorem hb30 : Go.Proofs.Tryz.f30.body = some b30:=by kernel_rfl
def SPut : Spec:=fun H args K => ∃ (d : Nat) (k v : Str),args = [.ptr d 0,.str k,.str v]∧SWrite H [.ptr d 0,.agg [.str k,.bool false,.str v]] K
theorem rcPut {I : Jd pp} (hI : ∀ w e,I.Ok w e) (hW : RC I 86 SWrite) : RC I 30 SPut:=by
 refine rc_of_code (isObj:=noO) (Γ:=envOf [(86,SWrite)]) (rs:=[6]) mixed hI (envOf_rc (by simpa using hW)) Go.Proofs.Tryz.func30 (by kernel_rfl) hb30 Go.Proofs.Tryz.results30 Go.Proofs.Tryz.ntmps30 (by decide) ?_
 rintro H args K ⟨d,k,v,rfl,D1,w,e,h1,h2,h3,h4,h5⟩
 simp only [List.cons.injEq,DV.ptr.injEq,DV.agg.injEq,DV.str.injEq,DV.bool.injEq,and_true] at e
 obtain ⟨rfl,e1,e2,e3⟩:=e
 refine ⟨by simp,rfl,?_⟩
 unfold b30 Go.Proofs.Tryz.f30
 simp only [Option.getD_some,argSlots,BB2,BQ,BB1,Nat.reduceAdd,BB0,constDV,dropLk,Nat.reduceLT,movK,Nat.reduceBEq,BB3,bd32,bd32_0,takK,BB6,Nat.reduceLeDiff,BB4,bd32_2,BB5,if_true,List.map_cons,List.map_nil]
 refine ⟨D1,w,by rw [e1,e2,e3],h1,h2,h3,h4,fun H' wi' cap' f a hn => ?_⟩
 simp only [BB1,BB5,Pos.isHp,List.filter_nil,dropLk,BB0,Nat.reduceLT,takK,BB3,BB6,true_and]
 exact h5 H' wi' cap' f a hn
noncomputable def b31 : Code:=(Go.Proofs.Tryz.f31.body).getD .skip
theorem hb31 : Go.Proofs.Tryz.f31.body = some b31:=by kernel_rfl
def SDel : Spec:=fun H args K => ∃ (d : Nat) (k : Str),args = [.ptr d 0,.str k]∧SWrite H [.ptr d 0,.agg [.str k,.bool true,.str []]] K
theorem rcDel {I : Jd pp} (hI : ∀ w e,I.Ok w e) (hW : RC I 86 SWrite) : RC I 31 SDel:=by
 refine rc_of_code (isObj:=noO) (Γ:=envOf [(86,SWrite)]) (rs:=[4]) mixed hI (envOf_rc (by simpa using hW)) Go.Proofs.Tryz.func31 (by kernel_rfl) hb31 Go.Proofs.Tryz.results31 Go.Proofs.Tryz.ntmps31 (by decide) ?_
 rintro H args K ⟨d,k,rfl,D1,w,e,h1,h2,h3,h4,h5⟩
 simp only [List.cons.injEq,DV.ptr.injEq,DV.agg.injEq,DV.str.injEq,DV.bool.injEq,and_true] at e
 obtain ⟨rfl,e1,e2,e3⟩:=e
 refine ⟨by simp,rfl,?_⟩
 unfold b31 Go.Proofs.Tryz.f31
 simp only [Option.getD_some,argSlots,BB2,BQ,BB1,BB0,constDV,dropLk,Nat.reduceLT,movK,Nat.reduceBEq,BB3,bd32,bd32_0,takK,BB6,Nat.reduceAdd,Nat.reduceLeDiff,BB4,bd32_1,BB5,if_true,List.map_cons,List.map_nil]
 refine ⟨D1,w,by rw [e1,e2,e3],h1,h2,h3,h4,fun H' wi' cap' f a hn => ?_⟩
 simp only [BB1,BB5,Pos.isHp,List.filter_nil,dropLk,BB0,Nat.reduceLT,takK,BB3,BB6,true_and]
 exact h5 H' wi' cap' f a hn
noncomputable def b87 : Code:=(Go.Proofs.Tryz.f87.body).getD .skip
theorem hb87 : Go.Proofs.Tryz.f87.body = some b87:=by kernel_rfl
def OutR (H H' : List HObj) (v : DV) (ws : List Wr) : Prop:=(∃ own,v = .sl own 3 []∧ws = [])∨∃ id cap,v = .hsl id 3 0 ws.length cap∧HRowFW H' id cap ws∧(cap ≠ 0→H.length≤id)
def SClW : Spec:=fun H args K => ∃ (id cap : Nat) (ws : List Wr),args = [.hsl id 3 0 ws.length cap]∧HRowFW H id cap ws∧ws.length < 100000∧∀ H' v,Fr [] H H'→OutR H H' v ws→K H' v
theorem rcClW {I : Jd pp} (hI : ∀ w e,I.Ok w e) : RC I 87 SClW:=by
 refine rc_of_code (isObj:=isW) (Γ:=envOf []) (rs:=[2]) mixed hI (envOf_rc (by simp)) Go.Proofs.Tryz.func87 (by kernel_rfl) hb87 Go.Proofs.Tryz.results87 Go.Proofs.Tryz.ntmps87 (by decide) ?_
 rintro H args K ⟨id,cap,ws,rfl,h1,h2,hK⟩
 refine ⟨by simp,rfl,?_⟩
 unfold b87 Go.Proofs.Tryz.f87
 by_cases hc : cap = 0
 ·subst hc
  obtain rfl : ws = []:=List.eq_nil_of_length_eq_zero (by have:=h1.1; omega)
  simp only [Option.getD_some,argSlots,BQ,BB3,BB0,BB1,constDV,Proofs.Tryz.underlying33,cn32,dropLk,Nat.reduceLT,movK,Nat.reduceBEq,BB4,n_eqlh Go.Proofs.Tryz.underlying33,cd_f,bs33_0,isW_eq,aph33_33,takK,BB6,ne_eq,srcC_h Go.Proofs.Tryz.underlying33,schh_z,Nat.reduceLeDiff,if_true,cd_t]
  exact ⟨hK H _ (Fr.refl _ _) (.inl ⟨true,rfl,rfl⟩),hK H _ (Fr.refl _ _) (.inl ⟨true,rfl,rfl⟩)⟩
 ·obtain ⟨sp,k1,hsp⟩:=h1.2 hc
  have hfl:=flatW_len ws
  have l1 : ws.length * 3≤(flatW ws ++ sp).length:=by rw [List.length_append]; omega
  have t3 : (flatW ws ++ sp).take (ws.length * 3) = flatW ws:=List.take_left' hfl
  simp only [Option.getD_some,argSlots,BB3,BB0,BB1,constDV,Proofs.Tryz.underlying33,cn32,dropLk,Nat.reduceLT,movK,Nat.reduceBEq,BB4,n_eqlh Go.Proofs.Tryz.underlying33,cd_f,bs33_0,isW_eq,BQ,aph33_33,takK,BB6,ne_eq,srcC_h Go.Proofs.Tryz.underlying33,k1,l1,t3,flatW_ro,if_true,hc,cd_t]
  refine ⟨flatW_sca _,by omega,by omega,fun h0 => hK H _ (Fr.refl _ _) (.inl ⟨true,rfl,List.eq_nil_of_length_eq_zero (by omega)⟩),fun h0 q hq => hK _ _ (Fr.app [] _ _) (.inr ⟨H.length,q,rfl,⟨hq,fun _ => ⟨List.replicate ((q - ws.length) * 3) .undef,by simp,by simp⟩⟩,fun _ => Nat.le_refl _⟩)⟩
noncomputable def b32 : Code:=(Go.Proofs.Tryz.f32.body).getD .skip
theorem hb32 : Go.Proofs.Tryz.f32.body = some b32:=by kernel_rfl
def SWrs : Spec:=fun H args K => ∃ (D : DealS),args = [.ptr D.d 0]∧D.At H∧D.ws.length < 100000∧∀ H' v,Fr [] H H'→OutR H H' v D.ws→K H' v
theorem rcWrs {I : Jd pp} (hI : ∀ w e,I.Ok w e) : RC I 32 SWrs:=by
 refine rc_of_code (isObj:=isW) (Γ:=envOf [(87,SClW)]) (rs:=[2]) mixed hI (envOf_rc (by simpa using rcClW hI)) Go.Proofs.Tryz.func32 (by kernel_rfl) hb32 Go.Proofs.Tryz.results32 Go.Proofs.Tryz.ntmps32 (by decide) ?_
 rintro H args K ⟨D,rfl,h1,h2,hK⟩
 refine ⟨by simp,rfl,?_⟩
 unfold b32 Go.Proofs.Tryz.f32
 simp only [Option.getD_some,argSlots,BB2,BB0,BB1,constDV,Proofs.Tryz.underlying33,cn32,dropLk,Nat.reduceLT,movK,Nat.reduceBEq,BB3,dnil,fp143_4,BQ,h1.top,la33,BB4,BB5,if_true,List.map_cons,List.map_nil]
 refine ⟨D.wi,D.cap,D.ws,rfl,h1.wrs,h2,fun H' v f o => ?_⟩
 rcases o with ⟨own,rfl,e⟩ | ⟨id,cap,rfl,o⟩
 ·cases own
  all_goals
   simp only [BB1,BB5,Pos.isHp,List.filter_nil,dropLk,BB0,Nat.reduceLT,takK,BB3,lkGet,BB6,true_and]
   exact hK H' _ f (.inl ⟨_,rfl,e⟩)
 ·simp only [BB1,BB5,Pos.isHp,List.filter_nil,dropLk,BB0,Nat.reduceLT,takK,BB3,BB6,true_and]
  exact hK H' _ f (.inr ⟨id,cap,rfl,o⟩)
theorem lastW_id : ∀ {ws : List Wr},(ws.map (·.key)).Nodup→lastW ws = ws
 | [],_ => rfl
 | x :: r,h => by
  rw [List.map_cons,List.nodup_cons] at h
  rw [lastW,if_neg,lastW_id h.2]
  intro ha
  obtain ⟨y,hy,e⟩:=List.any_eq_true.1 ha
  exact h.1 (List.mem_map.2 ⟨y,hy,by simpa using e⟩)
theorem neatW_nodup (ws : List Wr) : ((neatW ws).map (·.key)).Nodup:=((sortW_perm _).map _).nodup_iff.2 (lastW_nodup ws)
theorem neatW_neat (ws : List Wr) : neatW (neatW ws) = neatW ws:=by
 have h:=neatW_nodup ws
 show sortW (lastW (neatW ws)) = _
 rw [lastW_id h]
 exact sortW_unique (sortW_perm _) (sortW_sorted _) (sortW_sorted _) (((sortW_perm _).map _).nodup_iff.2 h)
noncomputable def b93 : Code:=(Go.Proofs.Tryz.f93.body).getD .skip
theorem hb93 : Go.Proofs.Tryz.f93.body = some b93:=by kernel_rfl
def homeW (c : Int) (ws : List Wr) : List Wr:=ws.map fun w => { w with key:=keyS c w.key }
def SHome : Spec:=fun H args K => ∃ (c : Int) (id cap : Nat) (ws : List Wr),args = [.int .u8 c,.hsl id 3 0 ws.length cap]∧HRowFW H id cap ws∧ws.length < 100000∧(∀ w∈ws,w.key.length < 4000000000000000000)∧∀ H' v',Fr [] H H'→OutW H H' v' (neatW (homeW c ws))→K H' v'
def MHm (H : List HObj) (c : Int) (id cap : Nat) (ws : List Wr) (m : Nat) (st : St) : Prop:=∃ (i : Nat) (ov : DV) (H' : List HObj) (B : List (Nat × Nat × List DV)),i≤ws.length∧m = ws.length - i∧Fr [] H H'∧OutW H H' ov (homeW c (ws.take i))∧(B = []∨∃ g c,B = [(7,g,c)]) ∧
 st = mk 26 [(0,.int .u8 c),(1,.hsl id 3 0 ws.length cap),(5,ov),(8,.hsl id 3 0 ws.length cap),(9,.int .i64 ws.length),(10,.int .i64 i)] B H' []
set_option maxHeartbeats 4000000 in
theorem rcHome {I : Jd pp} (hI : ∀ w e,I.Ok w e) (hS : RC I 133 SSortW) : RC I 93 SHome:=by
 refine rc_of_code (isObj:=isW) (Γ:=envOf [(84,SKey),(70,SNeat)]) (rs:=[4]) mixed hI (envOf_rc (by simpa using ⟨rcKey hI,rcNeat hI hS⟩)) Go.Proofs.Tryz.func93 (by kernel_rfl) hb93 Go.Proofs.Tryz.results93 Go.Proofs.Tryz.ntmps93 (by decide) ?_
 rintro H args K ⟨c,id,cap,ws,rfl,h1,h2,h3,hK⟩
 refine ⟨by simp,rfl,?_⟩
 unfold b93 Go.Proofs.Tryz.f93
 simp only [Option.getD_some,argSlots,BB1,BQ,BB3,BB0,constDV,Proofs.Tryz.underlying33,cn32,dropLk,Nat.reduceLT,movK,Nat.reduceBEq,dlh33]
 refine w_loop [0,1,5,8,9,10] (MHm H c id cap ws) ws.length ?_ ?_
 ·exact ⟨0,_,H,[],by omega,by omega,Fr.refl _ _,.inl ⟨rfl,rfl⟩,.inl rfl,by simp only [BB1,List.map_cons,Nat.reduceBEq,BB3,List.map_nil,BB4]; try rfl⟩
 ·rintro m st ⟨i,ov,H',B,hi,rfl,fr1,hov,hB,rfl⟩
  obtain ⟨g,hb1,hb2⟩:=box1 hB
  by_cases e : i < ws.length
  ·have e1 : (i : Int) < ws.length:=by omega
   have e2 : (0 : Int)≤i:=by omega
   have wi : IntKind.i64.wrap ((i : Int) + 1) = ((i + 1 : Nat) : Int):=by rw [wrap_i64 (by omega) (by omega)]; omega
   obtain ⟨cs,k1,k2⟩:=h1.row.2 (by rintro rfl; simp at e)
   obtain ⟨r,d1⟩:=hroww_cells k2 e
   rw [Nat.zero_add] at d1
   have hid0 : id < H.length:=(List.getElem?_eq_some_iff.1 k1).1
   have k3:=fr1.get k1 (by simp)
   have hkl:=h3 _ (List.getElem_mem e)
   have htk : homeW c (ws.take (i + 1)) = homeW c (ws.take i) ++ [⟨keyS c ws[i].key,ws[i].del,ws[i].val⟩]:=by
    unfold homeW; rw [List.take_succ_eq_append_getElem e,List.map_append]; rfl
   have hdl : (homeW c (ws.take i)).length = i:=by simp [homeW]; omega
   simp only [BB0,BB1,BB4,BQ,Nat.reduceLT,Nat.reduceBEq,BB3,e1,dropLk,cd_t,ixh33,e2,k3,d1,la32,Nat.reduceLeDiff,List.map_cons,List.map_nil,al32,isW_eq,hb1,hb2,if_false,takK,if_true,Proofs.Tryz.underlying32,Nat.reduceAdd,cn32,Pos.inBox,movK,fl32_0,la9,BB5,Nat.reduceEqDiff]
   refine appKey hkl ?_
   generalize homeW c (ws.take i) = done at *
   rcases hov with ⟨rfl,rfl⟩ | ⟨id2,cap2,rfl,hc0,hrow,hid⟩
   ·simp only [BB1,BB5,Pos.isHp,BQ,dropLk,BB0,Nat.reduceLT,Nat.reduceBEq,BB3,fl32_0,takK,if_true,Proofs.Tryz.underlying9,cn9,Nat.reduceAdd,Nat.reduceLeDiff,BB4,Pos.inBox,movK,Nat.reduceEqDiff,if_false,la32,List.map_cons,List.map_nil,Pos.atSlot,bs33_1,isW_eq,aph33_33,lkGet,BB6,constDV,wi,ne_eq,srcC_h Go.Proofs.Tryz.underlying33,Nat.reduceMul,reduceCtorEq]
    intro q hq
    refine ⟨_,?_,i + 1,.hsl (H'.length + 1) 3 0 1 q,_,_,by omega,rfl,(fr1.trans (Fr.app [] _ _)).mono (by simp),?_,.inr ⟨_,_,rfl⟩,rfl⟩
    ·omega
    ·rw [htk]
     exact .inr ⟨H'.length + 1,q,rfl,by omega,⟨hq,fun _ => ⟨List.replicate ((q - 1) * 3) .undef,by simp [flatW,Wr.cells],by simp⟩⟩,by have:=fr1.1; omega⟩
   ·obtain ⟨hrl,hrc⟩:=hrow
    obtain ⟨sp,ho,hsp⟩:=hrc hc0
    have hfl:=flatW_len done
    have l1 : done.length * 3≤(flatW done ++ sp).length:=by rw [List.length_append]; omega
    have t1 : (flatW done ++ sp).take (done.length * 3) = flatW done:=List.take_left' hfl
    have hil : id2 < H'.length:=(List.getElem?_eq_some_iff.1 ho).1
    have g1 : ∀ X,(H' ++ [X])[id2]? = some (.cells (flatW done ++ sp)):=fun X => by rw [List.getElem?_append_left hil]; exact ho
    have g2 : ∀ X,(H' ++ [X])[H'.length]? = some X:=fun X => by simp
    have hdr : List.drop (done.length * 3 + 3) (flatW done ++ sp) = sp.drop 3:=by rw [← hfl,← List.drop_drop,List.drop_left]
    simp only [BB1,BB5,Pos.isHp,BQ,dropLk,BB0,Nat.reduceLT,Nat.reduceBEq,BB3,fl32_0,takK,if_true,Proofs.Tryz.underlying9,cn9,Nat.reduceAdd,Nat.reduceLeDiff,BB4,Pos.inBox,movK,la32,List.map_cons,List.map_nil,bs33_1,isW_eq,aph33_33,BB6,hc0,constDV,wi,if_false,ne_eq,srcC_h Go.Proofs.Tryz.underlying33,g2,Nat.reduceMul,reduceCtorEq,g1,l1,t1,Pos.inHp,flatW_ro,hdr]
    refine ⟨flatW_sca _,by omega,by omega,fun hle => ⟨by rw [List.length_append,hfl]; omega,_,?_,i + 1,_,_,_,by omega,rfl,((fr1.trans (Fr.app [] _ _)).mono (by simp)).setNew hid,?_,.inr ⟨_,_,rfl⟩,rfl⟩,fun hle q hq => ⟨_,?_,i + 1,_,_,_,by omega,rfl,(fr1.trans (Fr.app [] _ _)).mono (by simp),?_,.inr ⟨_,_,rfl⟩,rfl⟩⟩
    ·omega
    ·rw [htk]
     exact .inr ⟨id2,cap2,by simp,hc0,HRowFW.put (w:=⟨keyS c ws[i].key,ws[i].del,ws[i].val⟩) (g1 _) hsp hle,hid⟩
    ·omega
    ·rw [htk]
     exact .inr ⟨H'.length + 1,q,by simp,by omega,⟨by simp; omega,fun _ => ⟨List.replicate ((q - (done.length + 1)) * 3) .undef,by simp [flatW,Wr.cells],by simp⟩⟩,by have:=fr1.1; omega⟩
  ·obtain rfl : i = ws.length:=by omega
   have e1 : ¬ (ws.length : Int) < ws.length:=by omega
   rw [List.take_length] at hov
   have hlen : (homeW c ws).length < 1000000:=by simp [homeW]; omega
   rcases hov with ⟨rfl,hd⟩ | ⟨id2,cap2,rfl,o⟩
   ·simp only [BB0,BB1,BB4,BQ,Nat.reduceLT,Nat.reduceBEq,BB3,e1,dropLk,cd_f,movK,Nat.reduceEqDiff,if_false,BB5,if_true,List.map_cons,List.map_nil]
    refine appNeat (homeW c ws) (.inl ⟨false,by rw [hd]; rfl⟩) hlen fun H2 v2 f2 o2 => ?_
    have o3 : OutW H H2 v2 (neatW (homeW c ws)):=by
     rcases o2 with o2 | ⟨a,b,q1,q2,q3,q4⟩
     ·exact .inl o2
     ·exact .inr ⟨a,b,q1,q2,q3,Nat.le_trans fr1.1 q4⟩
    rcases o2 with ⟨rfl,_⟩ | ⟨a,b,rfl,_⟩
    all_goals
     simp only [BB1,BB5,Pos.isHp,BQ,if_true,dropLk,Nat.reduceBEq,Pos.atSlot,if_false,BB0,Nat.reduceLT,takK,BB3,BB6]
     exact hK H2 _ ((fr1.trans f2).mono (by simp)) o3
   ·simp only [BB0,BB1,BB4,BQ,Nat.reduceLT,Nat.reduceBEq,BB3,e1,dropLk,cd_f,movK,BB5,Nat.reduceEqDiff,if_true,if_false,List.map_cons,List.map_nil]
    refine appNeat (homeW c ws) (OutW.row (.inr ⟨id2,cap2,rfl,o⟩)) hlen fun H2 v2 f2 o2 => ?_
    have o3 : OutW H H2 v2 (neatW (homeW c ws)):=by
     rcases o2 with o2 | ⟨a,b,q1,q2,q3,q4⟩
     ·exact .inl o2
     ·exact .inr ⟨a,b,q1,q2,q3,Nat.le_trans fr1.1 q4⟩
    rcases o2 with ⟨rfl,_⟩ | ⟨a,b,rfl,_⟩
    all_goals
     simp only [BB1,BB5,Pos.isHp,List.filter_nil,dropLk,BB0,Nat.reduceLT,takK,BB3,BB6,true_and]
     exact hK H2 _ ((fr1.trans f2).mono (by simp)) o3
end Go.Ab.En
namespace Go.Ab.En
open Go Go.Conc Go.RowKit Go.Ab
set_option maxRecDepth 10000
noncomputable def b94 : Code:=(Go.Proofs.Tryz.f94.body).getD .skip
theorem hb94 : Go.Proofs.Tryz.f94.body = some b94:=by kernel_rfl
def SAbort : Spec:=fun H args K => ∃ (D : DealS) (E : EngS) (hd : Hd) (m : Nat),args = [.ptr D.d 0]∧D.At H∧E.x = D.x∧E.At H∧E.Good m∧E.held = encI hd∧0≤cntI hd D.n∧cntI hd D.n < 1000000000∧(∀ y∈D.all,y ∉ E.all) ∧
 ∀ H' (E' : EngS),Fr (E.all ++ [D.s,D.d]) H H'→E'.x = E.x→E'.At H'→E'.Good m→E'.es = E.es→E'.held = encI (if D.over then hd else freeH hd D.n)→E'.all = E.all→DealS.At { D with over:=true } H'→K H' (.tup [])
theorem DealS.At.overUp {D : DealS} {H1 : List HObj} (h : D.At H1) (sn : SnapAt H1 D.s D.x D.n true) (X : HObj) (hX : X = .cells [.ptr D.x 0,.ptr D.s 0,.int .u8 D.home,.sl true 5 (D.reads.map rdD),.hsl D.wi 3 0 D.ws.length D.cap,.bool true]) : DealS.At { D with over:=true } (H1.set D.d X):=by
 subst hX
 refine ⟨List.getElem?_set_self (h.lt D.d (by simp [DealS.all])),sn.fr (Fr.set _ D.d _) (by simpa using h.ds.symm),h.wrs.fr (Fr.set _ D.d _) (fun hc => by simpa using (h.dw hc).symm),h.ds,h.dw,h.sw⟩
set_option maxHeartbeats 4000000 in
theorem rcAbort {I : Jd pp} (hI : ∀ w e,I.Ok w e) : RC I 94 SAbort:=by
 refine rc_of_code (isObj:=noO) (Γ:=envOf [(59,SSnClose)]) (rs:=[]) mixed hI (envOf_rc (by simpa using rcSnClose hI)) Go.Proofs.Tryz.func94 (by kernel_rfl) hb94 Go.Proofs.Tryz.results94 Go.Proofs.Tryz.ntmps94 (by decide) ?_
 rintro H args K ⟨D,E,hd,m,rfl,h1,hx,h2,hg,hh,c0,c1,hap,hK⟩
 have t1:=h1.top
 have sn:=h1.snap
 have dl:=h1.lt D.d (by simp [DealS.all])
 refine ⟨by simp,rfl,?_⟩
 unfold b94 Go.Proofs.Tryz.f94
 cases ho : D.over
 ·rw [ho] at t1 sn
  simp only [Option.getD_some,argSlots,BB2,BB0,BB1,Nat.reduceLT,movK,BB3,dropLk,dnil,fp143_1,BQ,t1,la34,BB4,BB5,if_true,List.map_cons,List.map_nil]
  refine appSnCloseX hx sn h2 hg (hap _ (by simp [DealS.all])) hh c0 c1 fun H1 E1 f1 hx1 a1 g1 es1 hd1 al1 sn1 => ?_
  have t2:=f1.get t1 (by
   intro hm
   rcases List.mem_append.1 hm with hm | hm
   ·exact hap D.d (by simp [DealS.all]) hm
   ·exact h1.ds (by simpa using hm))
  have hD1 : DealS.At { D with over:=true } (H1.set D.d (.cells [.ptr D.x 0,.ptr D.s 0,.int .u8 D.home,.sl true 5 (D.reads.map rdD),.hsl D.wi 3 0 D.ws.length D.cap,.bool true])):=by
   refine ⟨List.getElem?_set_self (List.getElem?_eq_some_iff.1 t2).1,sn1.fr (Fr.set _ D.d _) (by simpa using h1.ds.symm),(h1.wrs.fr f1 fun hc hm => ?_).fr (Fr.set _ D.d _) (fun hc => by simpa using (h1.dw hc).symm),h1.ds,h1.dw,h1.sw⟩
   rcases List.mem_append.1 hm with hm | hm
   ·exact hap D.wi (by simp [DealS.all,DealS.wl_mem hc]) hm
   ·exact h1.sw hc (by simpa using hm : D.wi = D.s).symm
  simp only [BB1,BB5,Pos.isHp,BQ,dropLk,BB0,Nat.reduceLT,movK,Nat.reduceBEq,BB3,BB2,dnil,fp143_5,constDV,t2,Proofs.Tryz.underlying4,cn4,Nat.reduceAdd,Nat.reduceLeDiff,BB4,Pos.inHp,BB6]
  refine hK _ E1 ((f1.trans (Fr.set _ D.d _)).mono fun j _ hm => by simpa using hm) (by rw [hx1,hx]) (a1.frs (Fr.set _ _ _) ?_) g1 es1 (by rw [hd1,ho]; rfl) al1 hD1
  intro y hy
  rw [List.mem_singleton.1 hy,al1]
  exact hap D.d (by simp [DealS.all])
 ·rw [ho] at t1 sn
  simp only [Option.getD_some,argSlots,BB2,BB0,BB1,Nat.reduceLT,movK,BB3,dropLk,dnil,fp143_1,BQ,t1,la34,BB4,BB5,if_true,List.map_cons,List.map_nil]
  refine ⟨E,hd,D.s,D.n,true,rfl,by rw [hx]; exact sn,h2,hap _ (by simp [DealS.all]),hh,c0,c1,fun _ => ?_,(by intro h; cases h)⟩
  simp only [BB1,BB5,Pos.isHp,BQ,dropLk,BB0,Nat.reduceLT,movK,Nat.reduceBEq,BB3,BB2,dnil,fp143_5,constDV,t1,Proofs.Tryz.underlying4,cn4,Nat.reduceAdd,Nat.reduceLeDiff,BB4,Pos.inHp,BB6]
  refine hK _ E ((Fr.set _ D.d _).mono fun j _ hm => by simp at hm ⊢; right; right; exact hm) rfl (h2.frs (Fr.set _ _ _) ?_) hg rfl (by rw [ho]; exact hh) rfl (h1.overUp (by rw [ho] at *; exact sn) _ rfl)
  intro y hy
  rw [List.mem_singleton.1 hy]
  exact hap D.d (by simp [DealS.all])
noncomputable def b37 : Code:=(Go.Proofs.Tryz.f37.body).getD .skip
theorem hb37 : Go.Proofs.Tryz.f37.body = some b37:=by kernel_rfl
def comD (D : DealS) (es : List Ent) (m : Int) : Bool:=decide (readyC D.over es D.n m D.reads = 0) && !D.ws.isEmpty
def SCommit : Spec:=fun H args K => ∃ (D : DealS) (E : EngS) (hd : Hd) (m : Nat),args = [.ptr D.d 0]∧D.At H∧E.x = D.x∧E.At H∧E.Good m∧m < 300∧E.held = encI hd∧0≤cntI hd D.n∧cntI hd D.n < 1000000000∧(∀ y∈D.all,y ∉ E.all) ∧
 (∀ r∈D.reads,RdOk r)∧D.reads.length < 100000∧D.ws.length < 100000∧(∀ w∈D.ws,w.key.length < 4000000000000000000)∧isBatch (neatW (homeW D.home D.ws)) = true ∧
 (comD D E.es m = false→∀ H' (E' : EngS),Fr (E.all ++ [D.s,D.d]) H H'→E'.x = E.x→E'.At H'→E'.Good m→E'.es = E.es→E'.held = encI (if D.over then hd else freeH hd D.n)→E'.all = E.all→DealS.At { D with over:=true } H'→K H' (.tup [.int .i64 0,.int .i64 (readyC D.over E.es D.n m D.reads)])) ∧
 (comD D E.es m = true→∀ H' (E' : EngS),Fr (E.all ++ [D.s,D.d]) H H'→E'.x = E.x→E'.At H'→E'.Good (m + 1)→E'.es = (entsB ((m + 1 : Nat) : Int) (neatW (homeW D.home D.ws))).foldl putE E.es→E'.held = encI (freeH hd D.n)→(∀ y∈E'.all,y∈E.all∨H.length≤y)→DealS.At { D with over:=true } H'→K H' (.tup [.int .i64 ((m + 1 : Nat) : Int),.int .i64 0]))
set_option maxHeartbeats 8000000 in
theorem rcCommit {I : Jd pp} (hI : ∀ w e,I.Ok w e) (hC : RC I 21 SSnChg) (hM : RC I 20 SSnMov) (hS : RC I 133 SSortW) (hD : RC I 18 SDo) : RC I 37 SCommit:=by
 refine rc_of_code (isObj:=noO) (Γ:=envOf [(85,SReady),(93,SHome),(18,SDo),(94,SAbort)]) (rs:=[2,3]) mixed hI (envOf_rc (by simpa using ⟨rcReady hI hC hM,rcHome hI hS,hD,rcAbort hI⟩)) Go.Proofs.Tryz.func37 (by kernel_rfl) hb37 Go.Proofs.Tryz.results37 Go.Proofs.Tryz.ntmps37 (by decide) ?_
 rintro H args K ⟨D,E,hd,m,rfl,h1,hx,h2,hg,hm,hh,c0,c1,hap,hrd,hrl,hwl,hkl,hbat,hK0,hK1⟩
 refine ⟨by simp,rfl,?_⟩
 unfold b37 Go.Proofs.Tryz.f37
 simp only [Option.getD_some,argSlots,BB2,BB0,BB1,constDV,dropLk,Nat.reduceLT,movK,Nat.reduceBEq,BB3,BB4,BB5,Nat.reduceEqDiff,if_false,if_true,BQ,List.map_cons,List.map_nil]
 refine ⟨D,E,m,rfl,h1,fun _ => ⟨hx,h2,hg,hm⟩,hrd,hrl,fun H1 f1 => ?_⟩
 have d1:=h1.fr f1 (by simp)
 have a1:=h2.fr0 f1
 have t1:=d1.top
 by_cases hr : readyC D.over E.es D.n m D.reads = 0
 ·by_cases hw : D.ws.length = 0
  ·have hc : comD D E.es m = false:=by simp [comD,List.eq_nil_of_length_eq_zero hw]
   have e1 : ¬ (0 : Int) < D.ws.length:=by omega
   simp only [hr,BB1,BB5,Pos.isHp,BQ,dropLk,BB0,Nat.reduceLT,takK,BB3,constDV,movK,Nat.reduceBEq,BB4,gs2_tt,BB2,dnil,fp143_4,t1,la33,dlh33,e1,if_true,cd_f,Nat.reduceEqDiff,if_false,List.map_cons,List.map_nil]
   refine ⟨D,E,hd,m,rfl,d1,hx,a1,hg,hh,c0,c1,hap,fun H2 E2 f2 hx2 a2 g2 es2 hd2 al2 D2 => ?_⟩
   simp only [BB1,BB5,Pos.isHp,List.filter_nil,dropLk,BB0,Nat.reduceLT,movK,Nat.reduceBEq,BB3,takK,BB6,and_true,true_and]
   have:=hK0 hc H2 E2 ((f1.trans f2).mono (by simp)) hx2 a2 g2 es2 hd2 al2 D2
   rw [hr] at this
   exact this
  ·have hc : comD D E.es m = true:=by simp [comD,hr]; intro h; simp [h] at hw
   have ho : D.over = false:=by
    cases ho : D.over
    ·rfl
    ·simp [readyC,ho] at hr
   have e1 : (0 : Int) < D.ws.length:=by omega
   simp only [hr,BB1,BB5,Pos.isHp,BQ,dropLk,BB0,Nat.reduceLT,takK,BB3,constDV,movK,Nat.reduceBEq,BB4,gs2_tt,BB2,dnil,fp143_4,t1,la33,dlh33,e1,if_true,cd_t,if_false]
   refine w_draw [12,13,17,18] (.quiet 0 (.quiet 1 (.quiet 2 (.quiet 3 (.quiet 4 (.quiet 5 (.quiet 6 (.quiet 7 (.quiet 8 (.quiet 9 (.quiet 10 (.quiet 11 (.acts [(12,[3,2,1,0],.acts [(13,[],.quiet 14 (.quiet 15 (.quiet 16 (.acts [(17,[16],.acts [(18,[],.done)])]))))])]))))))))))))) (by decide) (by kernel_rfl) ?_
   simp only [BB0,BB5,BB1,Nat.reduceLT,Nat.reduceBEq,BB3,BB2,dropLk,dnil,fp143_0,BQ,t1,la23,fp143_2,la5,fp143_4,la33,BB4,Nat.reduceEqDiff,if_false,if_true,List.map_cons,List.map_nil]
   refine ⟨D.home,D.wi,D.cap,D.ws,rfl,d1.wrs,hwl,hkl,fun H2 v2 f2 o2 => ?_⟩
   have rows:=o2.row
   have hnl : (neatW (homeW D.home D.ws)).length < 1000000:=by
    have:=neatW_len (homeW D.home D.ws)
    simp only [homeW,List.length_map] at this ⊢
    omega
   have hb2 : isBatch (neatW (neatW (homeW D.home D.ws))) = true:=by rw [neatW_neat]; exact hbat
   have f12 : Fr [] H H2:=(f1.trans f2).mono (by simp)
   have a2:=h2.fr0 f12
   have d2:=h1.fr f12 (by simp)
   have hlt:=h1.lt
   have t2:=d2.top
   rcases o2 with ⟨rfl,hn⟩ | ⟨ia,ib,rfl,_⟩
   all_goals
    simp only [BB1,BB5,Pos.isHp,BQ,dropLk,BB0,Nat.reduceLT,Nat.reduceBEq,BB3,t2,la23,BB2,fp143_0,dnil,dropLks,BB4,constDV,Nat.reduceEqDiff,if_false,if_true,List.map_cons,List.map_nil]
    refine appDoX (neatW (homeW D.home D.ws)) hx a2 hg hm (by first | exact rows | exact .inl ⟨false,by rw [hn]; rfl⟩) hnl hb2 fun H3 E3 f3 hx3 a3 g3 es3 hd3 al3 => ?_
    rw [neatW_neat] at es3
    have d3:=d2.fr f3 hap
    have hap3 : ∀ y∈D.all,y ∉ E3.all:=fun y hy hy3 => by
     rcases al3 y hy3 with h | h
     ·exact hap y hy h
     ·have:=hlt y hy; have:=f12.1; omega
    simp only [BB1,BB5,Pos.isHp,BQ,dropLk,dropLks,BB0,Nat.reduceLT,BB3,BB2,List.map_cons,List.map_nil,Nat.reduceBEq,takK,movK,BB4,Nat.reduceEqDiff,if_true,if_false]
    refine ⟨D,E3,hd,m + 1,rfl,d3,hx3,a3,g3,by rw [hd3,hh],c0,c1,hap3,fun H4 E4 f4 hx4 a4 g4 es4 hd4 al4 D4 => ?_⟩
    simp only [BB1,BB5,Pos.isHp,List.filter_nil,dropLk,BB0,Nat.reduceLT,movK,Nat.reduceBEq,BB3,takK,BB6,and_true,true_and]
    refine hK1 hc H4 E4 (((f12.trans f3).trans f4).mono fun j hj hm => ?_) (by rw [hx4,hx3,hx]) a4 g4 (by rw [es4,es3]) (by rw [hd4,ho]; rfl) (fun y hy => ?_) D4
    ·simp only [List.nil_append,List.mem_append] at hm ⊢
     rcases hm with hm | hm | hm
     ·exact .inl hm
     ·rcases al3 j hm with h | h
      ·exact .inl h
      ·have:=f12.1; omega
     ·exact .inr hm
    ·rw [al4] at hy
     rcases al3 y hy with h | h
     ·exact .inl h
     ·right; have:=f12.1; omega
 ·have hc : comD D E.es m = false:=by simp [comD,hr]
  simp only [BB1,BB5,Pos.isHp,BQ,dropLk,BB0,Nat.reduceLT,takK,BB3,constDV,movK,Nat.reduceBEq,BB4,hr,gs2_ft,BB2,List.map_nil,if_false,cd_f,Nat.reduceEqDiff,if_true,List.map_cons]
  refine ⟨D,E,hd,m,rfl,d1,hx,a1,hg,hh,c0,c1,hap,fun H2 E2 f2 hx2 a2 g2 es2 hd2 al2 D2 => ?_⟩
  simp only [BB1,BB5,Pos.isHp,List.filter_nil,dropLk,BB0,Nat.reduceLT,movK,Nat.reduceBEq,BB3,takK,BB6,and_true,true_and]
  exact hK0 hc H2 E2 ((f1.trans f2).mono (by simp)) hx2 a2 g2 es2 hd2 al2 D2
end Go.Ab.En
