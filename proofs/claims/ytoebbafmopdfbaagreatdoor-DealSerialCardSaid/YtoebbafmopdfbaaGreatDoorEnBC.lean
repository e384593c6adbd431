/- A part of the proof; no condition of its own. -/
import Derived.Test.YtoebbafmopdfbaaGreatDoorEnZ
set_option linter.unusedSimpArgs false
set_option linter.unusedVariables false
/- EnBC: The engine's laws: batches are done,all is kept. -/
namespace Go.Ab.En
open Go Go.Conc Go.RowKit Go.Ab
set_option maxRecDepth 10000
structure EngS.Ne (E : EngS) : Prop where
 xs : E.x ≠ E.sid
 xk : E.x ≠ E.k
 xn : E.x ≠ E.n
 xp : E.x ≠ E.sp
 xt : E.x ≠ E.tm
 xh : E.x ≠ E.hm
 sk : E.sid ≠ E.k
 sn : E.sid ≠ E.n
 sp : E.sid ≠ E.sp
 st : E.sid ≠ E.tm
 sh : E.sid ≠ E.hm
 kn : E.k ≠ E.n
 kp : E.k ≠ E.sp
 kt : E.k ≠ E.tm
 kh : E.k ≠ E.hm
 np : E.n ≠ E.sp
 nt : E.n ≠ E.tm
 nh : E.n ≠ E.hm
 pt : E.sp ≠ E.tm
 ph : E.sp ≠ E.hm
 th : E.tm ≠ E.hm
theorem EngS.ne {E : EngS} (nd : E.parts.Nodup) : E.Ne:=by
 simp [EngS.parts] at nd
 obtain ⟨⟨xs,xk,xn,xp,xt,xh⟩,⟨sk,sn,sp,st,sh⟩,⟨kn,kp,kt,kh⟩,⟨np,nt,nh⟩,⟨pt,ph⟩,th⟩:=nd
 exact ⟨xs,xk,xn,xp,xt,xh,sk,sn,sp,st,sh,kn,kp,kt,kh,np,nt,nh,pt,ph,th⟩
theorem EngS.At.shelfUp {E : EngS} {H H' : List HObj} {k' : Nat} {kept' now' : Files} {acts' : List Act} {room' : Int} (h : E.At H) (f : Fr [E.sid,E.n] H H') (s : ShelfAt H' E.sid k' E.n kept' now' acts' room') (hk : k' = E.k∨H.length≤k') :
  EngS.At { E with k:=k',kept:=kept',now:=now',acts:=acts',room:=room' } H':=by
 have hS : ∀ y∈E.S,y ≠ E.sid∧y ≠ E.n:=fun y hy => ⟨fun e => h.apart y hy (by rw [e]; simp [EngS.parts]),fun e => h.apart y hy (by rw [e]; simp [EngS.parts])⟩
 have lt:=h.lt
 have kf : ∀ y∈E.parts,H.length≤k'→k' ≠ y:=fun y hy hk e => by have:=lt y hy; omega
 have kS : ∀ y∈E.S,H.length≤k'→y ≠ k':=fun y hy hk e => by have:=h.heap.lt y hy; omega
 have nd:=EngS.ne h.nodup
 refine ⟨f.get h.top (by simp [nd.xs,nd.xn]),s,h.heap.fr f fun x hx => by simp [hS x hx],f.get h.sheet (by simp [nd.sp.symm,nd.np.symm]),f.get h.tabs (by simp [nd.st.symm,nd.nt.symm]),f.get h.held (by simp [nd.sh.symm,nd.nh.symm]),?_,fun y hy hm => ?_⟩
 ·rcases hk with rfl | hk
  ·exact h.nodup
  ·have q:=fun y hy => kf y hy hk
   simp [EngS.parts] at q ⊢
   obtain ⟨q1,q2,_,q4,q5,q6,q7⟩:=q
   simp [nd.xs,nd.xn,nd.xp,nd.xt,nd.xh,nd.sn,nd.sp,nd.st,nd.sh,nd.np,nd.nt,nd.nh,nd.pt,nd.ph,nd.th,q4,q5,q6,q7,Ne.symm q1,Ne.symm q2]
 ·rcases hk with rfl | hk
  ·exact h.apart y hy hm
  ·have h1:=kS y hy hk
   have h2:=h.apart y hy
   simp [EngS.parts] at hm h2
   obtain ⟨a1,a2,a3,a4,a5,a6,a7⟩:=h2
   simp [a1,a2,a4,a5,a6,a7,h1] at hm
theorem EngS.At.topUp {E : EngS} {H : List HObj} (seq' : Nat) (h : E.At H) : EngS.At { E with seq:=seq' } (H.set E.x (.cells [.ptr E.sid 0,.ptr E.sp 0,.map E.tm,.ptr E.hp 0,.int .i64 seq',.int .i64 E.log,.map E.hm])):=by
 have nd:=EngS.ne h.nodup
 have f : ∀ X,Fr [E.x] H (H.set E.x X):=fun X => Fr.set _ _ _
 have hS : ∀ y∈E.S,y ≠ E.x:=fun y hy e => h.apart y hy (by rw [e]; simp [EngS.parts])
 exact ⟨List.getElem?_set_self (List.getElem?_eq_some_iff.1 h.top).1,h.shelf.fr (f _) (by simp [nd.xs.symm]) (by simp [nd.xk.symm]) (by simp [nd.xn.symm]),h.heap.fr (f _) fun x hx => by simpa using hS x hx,(f _).get h.sheet (by simp [nd.xp.symm]),(f _).get h.tabs (by simp [nd.xt.symm]),(f _).get h.held (by simp [nd.xh.symm]),h.nodup,h.apart⟩
noncomputable def b56 : Code:=(Go.Proofs.Tryz.f56.body).getD .skip
theorem hb56 : Go.Proofs.Tryz.f56.body = some b56:=by kernel_rfl
def SKeep : Spec:=fun H args K => ∃ (E : EngS),args = [.ptr E.x 0]∧E.At H∧∀ H' k',Fr [E.sid] H H'→H.length≤k'→EngS.At { E with k:=k',kept:=E.now,acts:=[] } H'→K H' (.tup [])
theorem rcKeep {I : Jd pp} (hI : ∀ w e,I.Ok w e) (hM : RC I 82 S82) : RC I 56 SKeep:=by
 refine rc_of_code (isObj:=noO) (Γ:=envOf [(118,S118)]) (rs:=[]) mixed hI (envOf_rc (by simpa using rc118 hI hM)) Go.Proofs.Tryz.func56 (by kernel_rfl) hb56 Go.Proofs.Tryz.results56 Go.Proofs.Tryz.ntmps56 (by decide) ?_
 rintro H args K ⟨E,rfl,h1,hK⟩
 refine ⟨by simp,rfl,?_⟩
 unfold b56 Go.Proofs.Tryz.f56
 simp only [Option.getD_some,argSlots,BZ2,BZ1,Nat.reduceLT,movK,dropLk,dnil,BP,fp114_0,BQ,h1.top,la27,lo_ptr,if_true,List.map_cons,List.map_nil]
 refine capp118 h1.shelf fun H' f l s => ?_
 simp only [hold_app2,mk_called,Pos.isHp,List.filter_nil,mk_put?_some,dropLk,hold_app,tS_nil,ret_none']
 exact hK H' H.length f (Nat.le_refl _) (h1.shelfUp (f.mono fun j _ h => by simp at h ⊢; exact .inl h) s (.inr (Nat.le_refl _)))
structure EngS.Fit (E : EngS) : Prop where
 s1 : E.seq < 1000000
 l1 : E.log < 100
 used : usedF E.now < 4611686018427387904
 r0 : 0≤E.room
 r1 : E.room < 4611686018427387904
 acts : E.acts.length < 99999
 len : E.es.length < 99999000
 old : ∀ x∈E.es,x.seq≤E.seq
def EngS.bat (E : EngS) (ws : List Wr) : Str:=batchB (E.seq + 1) ws
def EngS.act (E : EngS) (ws : List Wr) : Act:=⟨2,fileF logN E.log,E.bat ws⟩
def doE (E : EngS) (ws : List Wr) (keep : Bool) (S' : List Nat) (k' : Nat) : EngS :=
 { E with seq:=E.seq + 1,S:=S',k:=k',es:=(entsB ((E.seq + 1 : Nat) : Int) ws).foldl putE E.es,now:=doesF (E.act ws) E.now,kept:=if keep then doesF (E.act ws) E.now else E.kept,acts:=if keep then [] else E.acts ++ [E.act ws] }
theorem leS_not {x y : Str} (h : leS x y = false) : cmpS y x < 0:=by
 simp only [leS,Bool.or_eq_false_iff,decide_eq_false_iff_not,bytesLess_cmp] at h
 have h1:=cmpS_swap x y
 have h2:=cmpS_range x y
 have h3 : cmpS x y ≠ 0:=fun e => h.2 (cmpS_eq_iff.1 e)
 omega
theorem okB_keys : ∀ (ws : List Wr) (a : Str),okB a ws = true→(∀ w∈ws,cmpS a w.key < 0∧isWr w = true)∧ws.Pairwise (fun x y => cmpS x.key y.key < 0)
 | [],_,_ => by simp
 | w :: r,a,h => by
  simp only [okB,Bool.and_eq_true,Bool.not_eq_true'] at h
  obtain ⟨h1,h2,h3⟩:=h
  have hw:=leS_not h2
  obtain ⟨i1,i2⟩:=okB_keys r w.key h3
  refine ⟨fun x hx => ?_,List.pairwise_cons.2 ⟨fun x hx => (i1 x hx).1,i2⟩⟩
  rcases List.mem_cons.1 hx with rfl | hx
  ·exact ⟨hw,h1⟩
  ·exact ⟨cmpS_trans _ _ _ hw (i1 x hx).1,(i1 x hx).2⟩
theorem entsB_ok {ws : List Wr} {n : Int} (h : isBatch ws = true) (h0 : 1≤n) (h1 : n≤1000000) : (∀ e∈entsB n ws,isEnt e = true)∧(entsB n ws).Pairwise (fun a b => ¬ same a b):=by
 simp only [isBatch,Bool.and_eq_true] at h
 obtain ⟨k1,k2⟩:=okB_keys ws [] h.1
 refine ⟨fun e he => ?_,?_⟩
 ·obtain ⟨w,hw,rfl⟩:=List.mem_map.1 he
  have:=(k1 w hw).2
  simp only [isEnt,Bool.and_eq_true,decide_eq_true_eq]
  exact ⟨h0,h1,this⟩
 ·unfold entsB
  rw [List.pairwise_map]
  refine k2.imp fun {a b} hab hs => ?_
  have : a.key = b.key:=hs.1
  rw [this,cmpS_refl] at hab; omega
noncomputable def b18 : Code:=(Go.Proofs.Tryz.f18.body).getD .skip
theorem hb18 : Go.Proofs.Tryz.f18.body = some b18:=by kernel_rfl
def SDo : Spec:=fun H args K => ∃ (E : EngS) (v : DV) (ws : List Wr) (keep : Bool),args = [.ptr E.x 0,v,.bool keep]∧E.At H∧E.Fit∧RowW H v ws∧ws.length < 1000000 ∧
 (isBatch (neatW ws) = false→∀ H',Fr [] H H'→K H' (.tup [.int .i64 0,.int .i64 10])) ∧
 (isBatch (neatW ws) = true→addC E.now E.room (fileF logN E.log) (E.bat (neatW ws)) = 0→∀ H' S' k',Fr E.all H H'→(∀ x∈S',x∈E.S∨H.length≤x)→(k' = E.k∨H.length≤k')→(doE E (neatW ws) keep S' k').At H'→K H' (.tup [.int .i64 ((E.seq + 1 : Nat) : Int),.int .i64 0])) ∧
 (isBatch (neatW ws) = true→addC E.now E.room (fileF logN E.log) (E.bat (neatW ws)) ≠ 0→∀ H',Fr E.all H H'→E.At H'→K H' (.tup [.int .i64 0,.int .i64 (addC E.now E.room (fileF logN E.log) (E.bat (neatW ws)))]))
set_option maxHeartbeats 8000000 in
theorem rcDo {I : Jd pp} (hI : ∀ w e,I.Ok w e) (hC : RC I 135 SCs) (hS : RC I 133 SSortW) (hM : RC I 82 S82) (hF : RC I 75 SFile) (hL : RC I 140 S140) : RC I 18 SDo:=by
 refine rc_of_code (isObj:=noO) (Γ:=envOf [(70,SNeat),(71,SBIs),(72,SBBytes),(75,SFile),(74,S74),(73,SFst),(77,SEnts),(76,SPuts),(56,SKeep)]) (rs:=[6,7]) mixed hI (envOf_rc (by simpa using ⟨rcNeat hI hS,rcBIs hI,rcBBytes hI,hF,rc74 hI hL,rcFst hI,rcEnts hI,rcPuts hI hC,rcKeep hI hM⟩)) Go.Proofs.Tryz.func18 (by kernel_rfl) hb18 Go.Proofs.Tryz.results18 Go.Proofs.Tryz.ntmps18 (by decide) ?_
 rintro H args K ⟨E,v,ws,keep,rfl,h1,hfit,hv,hwl,hK1,hK2,hK3⟩
 have s1:=hfit.s1
 have l1:=hfit.l1
 have q1 : ¬ (1000000 : Int)≤E.seq:=by omega
 have w1 : IntKind.i64.wrap ((E.seq : Int) + 1) = ((E.seq + 1 : Nat) : Int):=by rw [wrap_i64 (by omega) (by omega)]; omega
 have htop:=h1.top
 have hnl : (neatW ws).length≤ws.length:=neatW_len ws
 rcases hv with ⟨own,rfl⟩ | ⟨id,off,cap,rfl,hr⟩
 all_goals
  refine ⟨by simp,rfl,?_⟩
  unfold b18 Go.Proofs.Tryz.f18
  simp only [BQ,Option.getD_some,argSlots,BZ2,Nat.reduceAdd,w_seq,BZ1,constDV,dropLk,Nat.reduceLT,movK,Nat.reduceBEq,lkGet,Nat.reduceEqDiff,if_false,if_true,List.map_cons,List.map_nil]
  first
   | refine appNeat ws (.inl ⟨_,rfl⟩) hwl fun H1 v1 f1 o1 => ?_
   | refine appNeat ws (.inr ⟨id,off,cap,rfl,hr⟩) hwl fun H1 v1 f1 o1 => ?_
  have r1:=o1.row
  generalize neatW ws = ns at *
  rcases o1 with ⟨rfl,hns⟩ | ⟨id1,cap1,rfl,hc1,hr1,hid1⟩
  all_goals
   first
    | have rv : ∀ {S H'},Fr S H1 H'→(∀ y∈S,y < H.length)→RowW H' (.hsl id1 3 0 ns.length cap1) ns:=fun f hS => RowW.fr r1 f fun i z o l c e hm => by cases e; have:=hS _ hm; omega
    | have rv : ∀ {S H'},Fr S H1 H'→(∀ y∈S,y < H.length)→RowW H' (.sl false 3 []) ns:=fun f hS => .inl ⟨false,by rw [hns]; rfl⟩
   simp only [BZ1,BZ2,Pos.isHp,BQ,BP,dropLk,Nat.reduceLT,takK,w_seq,movK,Nat.reduceEqDiff,if_false,if_true,List.map_cons,List.map_nil]
   refine appBIs ns (rv (Fr.refl [] _) (by simp)) (by omega) ?_
   cases hb : isBatch ns
   ·simp only [BZ1,BZ2,Pos.isHp,BQ,if_true,BP,dropLk,Nat.reduceBEq,Pos.atSlot,if_false,Nat.reduceLT,takK,cd_t,w_seq,constDV,ret_two]
    exact hK1 hb H1 f1
   have t1:=f1.get htop (by simp)
   simp only [BZ1,BZ2,Pos.isHp,BQ,if_true,BP,dropLk,Nat.reduceBEq,Pos.atSlot,if_false,Nat.reduceLT,takK,cd_f,w_seq,movK,dnil,fp114_4,t1,la3,constDV,b_geq,q1,w1,Nat.reduceEqDiff,List.map_cons,List.map_nil]
   refine appBBytes ns (rv (Fr.refl [] _) (by simp)) hb (by omega) (by omega) fun H2 f2 => ?_
   have f12 : Fr [] H H2:=(f1.trans f2).mono (by simp)
   have t2:=f12.get htop (by simp)
   have a2:=h1.fr0 f12
   simp only [BZ1,BZ2,Pos.isHp,BQ,if_true,BP,dropLk,Nat.reduceBEq,Pos.atSlot,if_false,Nat.reduceLT,movK,BZ3,List.map_cons,List.map_nil,extK,takK,w_seq]
   refine w_draw [9,11,12,13,14] (.quiet 0 (.quiet 1 (.quiet 2 (.quiet 3 (.quiet 4 (.quiet 5 (.quiet 6 (.quiet 7 (.quiet 8 (.quiet 10 (.acts [(9,[10,4,3,2,1,0],.acts [(11,[0],.acts [(12,[],.acts [(13,[],.acts [(14,[],.done)])])])])]))))))))))) (by decide) (by kernel_rfl) ?_
   simp only [BZ1,BZ2,Nat.reduceLT,dropLk,Nat.reduceBEq,BZ3,dnil,fp114_0,BQ,t2,la27,fp114_5,la3,constDV,Nat.reduceEqDiff,if_false,if_true,List.map_cons,List.map_nil]
   refine appFile (by simp [logN]) (by omega) ?_
   simp only [BZ1,BZ2,Pos.isHp,BQ,BP,dropLk,BZ3,Nat.reduceLT,Nat.reduceBEq,t2,la27,fp114_0,dnil,dropLks,Nat.reduceEqDiff,if_false,if_true,List.map_cons,List.map_nil]
   refine capp74 _ a2.shelf hfit.used hfit.r0 hfit.r1 (by have:=hfit.acts; omega) (by have:=batchB_len (n:=E.seq + 1) hb; omega) rfl fun H3 f3 s3 => ?_
   simp only [BZ1,BZ2,Pos.isHp,BQ,BP,dropLk,BZ3,Nat.reduceLT,Nat.reduceBEq,dropLks,bs202_2,isO_eq,Nat.reduceEqDiff,if_false,if_true,List.map_cons,List.map_nil]
   refine appFst ?_
   by_cases hc : addC E.now E.room (fileF [108,111,103,45] E.log) (batchB (E.seq + 1) ns) = 0
   ·rw [if_pos hc,if_pos hc] at s3
    have a3:=a2.shelfUp f3 s3 (.inl rfl)
    have t3:=a3.top
    simp only at t3
    have hxl : E.x < H3.length:=(List.getElem?_eq_some_iff.1 t3).1
    have g3 : ∀ X,(H3.set E.x X)[E.x]? = some X:=fun X => List.getElem?_set_self hxl
    have a4:=a3.topUp (E.seq + 1)
    simp only at a4
    simp only [hc,if_true,BZ1,BZ2,Pos.isHp,BQ,BP,dropLk,dropLks,Nat.reduceLT,takK,BZ3,w_seq,movK,constDV,ne_eq,cd_f,Nat.reduceBEq,dnil,fp114_4,t3,la3,w1,Proofs.Tryz.underlying3,cn3,Nat.reduceAdd,Nat.reduceLeDiff,Pos.inHp,g3,Nat.reduceEqDiff,if_false,List.map_cons,List.map_nil]
    have lt:=h1.lt
    have fA : Fr ([] ++ [E.sid,E.n] ++ [E.x]) H1 (H3.set E.x (.cells [.ptr E.sid 0,.ptr E.sp 0,.map E.tm,.ptr E.hp 0,.int .i64 ((E.seq + 1 : Nat) : Int),.int .i64 E.log,.map E.hm])):=(f2.trans f3).trans (Fr.set _ _ _)
    have hA : ∀ y∈([] ++ [E.sid,E.n] ++ [E.x] : List Nat),y < H.length:=fun y hy => lt y (by simp at hy; simp [EngS.parts]; omega)
    refine appEnts ns (rv fA hA) hb ?_
    simp only [BZ1,BZ2,Pos.isHp,BQ,if_true,BP,dropLk,Nat.reduceBEq,Pos.atSlot,if_false,Nat.reduceLT,Nat.reduceEqDiff,List.map_cons,List.map_nil]
    obtain ⟨e1,e2⟩:=entsB_ok (n:=((E.seq + 1 : Nat) : Int)) hb (by omega) (by omega)
    have hble:=batch_le hb
    have hel : (entsB ((E.seq + 1 : Nat) : Int) ns).length = ns.length:=by simp [entsB]
    refine ⟨_,{ E with now:=doesF ⟨2,fileF logN E.log,batchB (E.seq + 1) ns⟩ E.now,acts:=E.acts ++ [⟨2,fileF logN E.log,batchB (E.seq + 1) ns⟩],seq:=E.seq + 1 },entsB ((E.seq + 1 : Nat) : Int) ns,rfl,a4,by have:=hfit.len; simp only [hel]; omega,e1,e2,fun e he x hx hs => ?_,fun H4 S' f4 a5 hS5 => ?_⟩
    ·obtain ⟨w,_,rfl⟩:=List.mem_map.1 he
     have h5:=hfit.old x hx
     have h6:=hs.2
     simp only at h6
     omega
    have fB : Fr (([] ++ [E.sid,E.n] ++ [E.x]) ++ E.S) H1 H4:=fA.trans f4
    have lH : H.length≤H4.length:=Nat.le_trans f1.1 fB.1
    have hS6 : ∀ x∈S',x∈E.S∨H.length≤x:=fun x hx => by
     rcases hS5 x hx with h | h
     ·exact .inl h
     ·have:=Nat.le_trans f1.1 fA.1; right; omega
    cases keep
    ·have t5:=a5.top
     simp only at t5
     simp only [BZ1,BZ2,Pos.isHp,BQ,if_true,BP,dropLk,Nat.reduceBEq,Pos.atSlot,if_false,w_seq,Nat.reduceLT,movK,cd_f,dnil,fp114_4,t5,la3,takK,constDV,ret_two]
     refine hK2 hb hc H4 S' E.k ((f1.trans fB).mono fun j _ hj => ?_) hS6 (.inl rfl) a5
     simp [EngS.all,EngS.parts] at hj ⊢
     grind
    ·simp only [BZ1,BZ2,Pos.isHp,BQ,if_true,BP,dropLk,Nat.reduceBEq,Pos.atSlot,if_false,w_seq,Nat.reduceLT,movK,cd_t,Nat.reduceEqDiff,List.map_cons,List.map_nil]
     refine ⟨{ E with now:=doesF ⟨2,fileF logN E.log,batchB (E.seq + 1) ns⟩ E.now,acts:=E.acts ++ [⟨2,fileF logN E.log,batchB (E.seq + 1) ns⟩],seq:=E.seq + 1,S:=S',es:=(entsB ((E.seq + 1 : Nat) : Int) ns).foldl putE E.es },rfl,a5,fun H5 k' f5 hk5 a6 => ?_⟩
     have t6:=a6.top
     simp only at t6
     simp only [BZ1,BZ2,Pos.isHp,BQ,BP,dropLk,w_seq,Nat.reduceLT,movK,Nat.reduceBEq,dnil,fp114_4,t6,la3,takK,constDV,ret_two]
     refine hK2 hb hc H5 S' k' (((f1.trans fB).trans f5).mono fun j _ hj => ?_) hS6 (.inr (by omega)) a6
     simp [EngS.all,EngS.parts] at hj ⊢
     grind
   ·rw [if_neg hc,if_neg hc] at s3
    simp only [if_true,BZ1,BZ2,Pos.isHp,BQ,BP,dropLk,dropLks,Nat.reduceLT,takK,BZ3,w_seq,movK,constDV,ne_eq,hc,cd_t,Nat.reduceBEq,if_false]
    refine hK3 hb hc H3 ((f12.trans f3).mono fun j _ hj => ?_) (a2.shelfUp f3 s3 (.inl rfl))
    simp [EngS.all,EngS.parts] at hj ⊢
    grind
end Go.Ab.En
