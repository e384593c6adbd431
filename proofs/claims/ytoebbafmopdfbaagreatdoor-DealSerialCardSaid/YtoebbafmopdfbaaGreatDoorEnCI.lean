/- A part of the proof; no condition of its own. -/
import Derived.Test.YtoebbafmopdfbaaGreatDoorEnCH
set_option linter.unusedSimpArgs false
set_option linter.unusedVariables false
namespace Go.Ab.En
open Go Go.Conc Go.RowKit Go.Ab
set_option maxRecDepth 10000
noncomputable def b27 : Code:=(Go.Proofs.Tryz.f27.body).getD .skip
theorem hb27 : Go.Proofs.Tryz.f27.body = some b27:=by kernel_rfl
def esK : List Ent:=[⟨[97,120],1,false,[49]⟩]
theorem esK_eq : (entsB ((0 + 1 : Nat) : Int) (neatW (homeW 97 [⟨[120],false,[49]⟩]))).foldl putE [] = esK:=by decide +kernel
theorem seenE_nil (k : Str) (n : Int) : seenE [] k n = none:=rfl
theorem getR_none (sp : Int) (k v : Str) : getR sp k v false = ⟨sp,false,k,[],[]⟩:=rfl
set_option maxHeartbeats 8000000 in
theorem rcKn17 : RC (loneJ pp) 27 SKn:=by
 have hI:=hI1
 refine rc_of_code (isObj:=noO) (Γ:=envOf [(17,S17),(16,SMade),(29,SDOpen),(34,SDGet),(30,SPut),(37,SCommit),(36,SReads),(32,SWrs),(84,SKey),(85,SReady)]) (rs:=[0]) mixed hI (envOf_rc (by simpa using ⟨L_new,L_open,L_dopen,L_dget,L_put,L_commit,L_reads,L_wrs,rcKey hI1,L_ready⟩)) Go.Proofs.Tryz.func27 (by kernel_rfl) hb27 Go.Proofs.Tryz.results27 Go.Proofs.Tryz.ntmps27 (by decide) ?_
 rintro H args K ⟨rfl,hK⟩
 refine ⟨by simp,rfl,?_⟩
 unfold b27 Go.Proofs.Tryz.f27
 simp only [BQ,Option.getD_some,argSlots,BB0,BB1,constDV,dropLk,BB4,BB5,Nat.reduceEqDiff,if_false,if_true,List.map_cons,List.map_nil]
 refine capp17 fun H1 f1 l1 s1 => ?_
 simp only [BB1,BB5,Pos.isHp,BQ,dropLk,BB0,BB4,Nat.reduceLT,BB3,Nat.reduceEqDiff,if_false,if_true,BB2,List.map_cons,List.map_nil]
 refine appMadeX s1 (by decide) fun H2 E f2 a2 g2 es2 hd2 => ?_
 obtain ⟨x,hx⟩ : ∃ x,E.x = x:=⟨_,rfl⟩
 have i2 : E.Is x 0 [] [] H2:=⟨hx,a2,g2,es2,hd2⟩
 simp only [hx,BB1,BB5,Pos.isHp,BQ,dropLk,BB0,Nat.reduceLT,movK,BB3,BB2,List.map_cons,List.map_nil,extK,Nat.reduceBEq,takK,BB4,constDV,ne_eq,gs2_ff,p_eql Go.Proofs.Tryz.underlying23,if_false,cd_f,Nat.reduceEqDiff,if_true]
 refine appDOpenX i2 (by decide) (by decide) fun H3 E3 D f3 i3 al3 D3 n3 m3 r3 w3 o3 l3 => ?_
 simp only [BB1,BB5,Pos.isHp,BQ,dropLk,BB0,Nat.reduceLT,movK,Nat.reduceBEq,BB3,BB2,BB4,constDV,Nat.reduceEqDiff,if_false,if_true,List.map_cons,List.map_nil]
 refine appDOpenX i3 (by decide) (by decide) fun H4 E4 C f4 i4 al4 C4 nC mC rC wC oC lC => ?_
 have D4 : D.On E4 H4:=by
  have:=D3.fr f4 D3.ap
  exact ⟨this.at',by rw [i4.hx,← i3.hx]; exact this.hx,fun y hy hm => this.ap y hy (by rw [al4] at hm; exact hm)⟩
 have hDC : ∀ y∈D.all,y ∉ C.all:=fun y hy hm => by have:=D3.at'.lt y hy; have:=lC y hm; omega
 obtain ⟨p,hp⟩ : ∃ p,D.d = p:=⟨_,rfl⟩
 obtain ⟨q,hq⟩ : ∃ q,C.d = q:=⟨_,rfl⟩
 simp only [hq,BB1,hp,BB5,Pos.isHp,BQ,dropLk,BB0,Nat.reduceLT,takK,Nat.reduceBEq,BB3,BB2,movK,BB4,constDV,p_eql Go.Proofs.Tryz.underlying48,gs2_ff,if_false,cd_f,Nat.reduceEqDiff,if_true,List.map_cons,List.map_nil]
 refine appDGetX hp i4 D4 (by decide) o3 (by decide) (by decide) (by decide) (by decide) (by simp [w3]) (by simp [r3]) (fun _ => by rw [w3]; rfl) fun H5 v5 D5 f5 i5 D5on e5 hv5 => ?_
 rw [seenE_nil,Option.isSome_none,getR_none,r3] at e5
 rw [seenE_nil,Option.isSome_none]
 have C5:=C4.fr f5 fun y hy hm => hDC D.d (by simp [DealS.all]) (by rw [List.mem_singleton.1 hm] at hy; exact hy)
 have p5 : D5.d = p:=by rw [e5]; exact hp
 have a5 : D5.all = D.all:=by rw [e5]; rfl
 have w5 : D5.ws = []:=by rw [e5]; exact w3
 have o5 : D5.over = false:=by rw [e5]; exact o3
 have n5 : D5.n = 0:=by rw [e5]; exact n3
 have m5 : D5.home = 97:=by rw [e5]; exact m3
 have r5 : D5.reads = [⟨97,false,[120],[],[]⟩]:=by rw [e5]; rfl
 simp only [BB1,BB5,Pos.isHp,BQ,dropLk,BB0,Nat.reduceLT,movK,BB3,BB2,List.map_cons,List.map_nil,extK,Nat.reduceBEq,takK,BB4,constDV,Nat.reduceEqDiff,if_false,if_true]
 refine appPutX p5 i5 D5on (by simp [w5]) (by simp [w5]) (by decide) fun H6 D6 f6 i6 D6on d6 s6 n6 m6 r6 o6 w6 l6 => ?_
 rw [o5,w5] at w6
 rw [n5] at n6
 rw [m5] at m6
 rw [r5] at r6
 rw [o5] at o6
 rw [p5] at d6
 rw [o5,w5,show writeC false [] ⟨[120],false,[49]⟩ = 0 by decide +kernel]
 replace w6 : D6.ws = [⟨[120],false,[49]⟩]:=w6.trans (by decide +kernel)
 have C6:=C5.fr f6 fun y hy hm => hDC y (by rw [← a5]; exact DealS.sub hm) hy
 have hDC6 : ∀ y∈D6.all,y ∉ C.all:=fun y hy hm => by
  rcases l6 y hy with h | h
  ·exact hDC y (by rw [← a5]; exact h) hm
  ·have:=C5.at'.lt y hm; omega
 simp only [BB1,BB5,Pos.isHp,BQ,dropLk,BB0,Nat.reduceLT,takK,BB3,movK,Nat.reduceBEq,BB2,BB4,constDV,Nat.reduceEqDiff,if_false,if_true,List.map_cons,List.map_nil]
 refine appDGetO (i:=0) (w:=⟨[120],false,[49]⟩) d6 i6 D6on (by decide) o6 (by decide) (by decide) (by decide) (by decide) (by simp [w6]) (by simp [r6]) m6.symm (by rw [w6]; decide +kernel) (by rw [w6]; rfl) fun H7 f7 => ?_
 have i7:=i6.fr f7 (by simp)
 have D7:=D6on.fr f7 (by simp)
 have C7:=C6.fr f7 (by simp)
 simp only [BQ,BB1,BB5,Pos.isHp,dropLk,BB0,Nat.reduceLT,movK,BB3,BB2,List.map_cons,List.map_nil,extK,Nat.reduceBEq,takK,BB4,constDV,Nat.reduceEqDiff,if_false,if_true]
 refine appDGetX hq i7 C7 (by decide) oC (by decide) (by decide) (by decide) (by decide) (by simp [wC]) (by simp [rC]) (fun _ => by rw [wC]; rfl) fun H8 v8 C8 f8 i8 C8on e8 hv8 => ?_
 rw [seenE_nil,Option.isSome_none,getR_none,rC] at e8
 rw [seenE_nil,Option.isSome_none]
 have D8:=D7.fr f8 fun y hy hm => hDC6 y hy (by rw [List.mem_singleton.1 hm]; simp [DealS.all])
 have p8 : C8.d = q:=by rw [e8]; exact hq
 have a8 : C8.all = C.all:=by rw [e8]; rfl
 have w8 : C8.ws = []:=by rw [e8]; exact wC
 have o8 : C8.over = false:=by rw [e8]; exact oC
 have n8 : C8.n = 0:=by rw [e8]; exact nC
 have m8 : C8.home = 97:=by rw [e8]; exact mC
 have r8 : C8.reads = [⟨97,false,[120],[],[]⟩]:=by rw [e8]; rfl
 simp only [BB1,BB5,Pos.isHp,BQ,dropLk,BB0,Nat.reduceLT,movK,BB3,BB2,List.map_cons,List.map_nil,extK,Nat.reduceBEq,takK,BB4,constDV,Nat.reduceEqDiff,if_false,if_true]
 refine appPutX p8 i8 C8on (by simp [w8]) (by simp [w8]) (by decide) fun H9 C9 f9 i9 C9on d9 s9 n9 m9 r9 o9 w9 l9 => ?_
 rw [o8,w8] at w9
 rw [n8] at n9
 rw [m8] at m9
 rw [r8] at r9
 rw [o8] at o9
 rw [p8] at d9
 rw [o8,w8,show writeC false [] ⟨[121],false,[50]⟩ = 0 by decide +kernel]
 replace w9 : C9.ws = [⟨[121],false,[50]⟩]:=w9.trans (by decide +kernel)
 have D9:=D8.fr f9 fun y hy hm => hDC6 y hy (by rw [← a8]; exact DealS.sub hm)
 have hDC9 : ∀ y∈D6.all,y ∉ C9.all:=fun y hy hm => by
  rcases l9 y hm with h | h
  ·exact hDC6 y hy (by rw [← a8]; exact h)
  ·have:=D8.at'.lt y hy; omega
 simp only [BB1,BB5,Pos.isHp,BQ,dropLk,BB0,Nat.reduceLT,movK,Nat.reduceBEq,BB3,BB2,BB4,Nat.reduceEqDiff,if_false,if_true,List.map_cons,List.map_nil]
 have cm9 : comD D6 [] ((0 : Nat) : Int) = true:=by unfold comD; rw [o6,r6,n6,w6]; decide +kernel
 refine appComX d6 i9 D9 (by decide) (by rw [n6]; decide +kernel) (by rw [n6]; decide +kernel) (by rw [r6]; intro r hr; rw [List.mem_singleton.1 hr]; exact ⟨by decide,by decide,by decide,by decide,by decide⟩) (by simp [r6]) (by simp [w6]) (by rw [w6]; intro w hw; rw [List.mem_singleton.1 hw]; decide) (by rw [w6,m6]; decide +kernel) fun H10 E10 D10 m10 es10 hd10 f10 i10 D10on e10 al10 hm10 hes10 hhd10 => ?_
 rw [cm9,if_pos rfl] at hm10 hes10
 rw [cm9,if_pos rfl,if_pos rfl]
 rw [w6,m6,esK_eq] at hes10
 rw [o6,n6] at hhd10
 subst hm10 hes10 hhd10
 have C10:=C9on.move f10 (fun y hy hm => by
  rcases List.mem_append.1 hm with h | h
  ·exact C9on.ap y hy h
  ·exact hDC9 y (by rcases List.mem_cons.1 h with rfl | h; simp [DealS.all]; rw [List.mem_singleton.1 h]; simp [DealS.all]) hy) (by rw [i10.hx,i9.hx]) al10
 have p10 : D10.d = p:=by rw [e10]; exact d6
 have w10 : D10.ws = [⟨[120],false,[49]⟩]:=by rw [e10]; exact w6
 have o10 : D10.over = true:=by rw [e10]
 have n10 : D10.n = 0:=by rw [e10]; exact n6
 have m10 : D10.home = 97:=by rw [e10]; exact m6
 have r10 : D10.reads = [⟨97,false,[120],[],[]⟩]:=by rw [e10]; exact r6
 have a10 : D10.all = D6.all:=by rw [e10]; rfl
 simp only [BQ,BB4,BB1,BB5,Pos.isHp,dropLk,BB0,Nat.reduceLT,movK,BB3,BB2,List.map_cons,List.map_nil,extK,Nat.reduceBEq,takK,Nat.reduceEqDiff,if_false,if_true]
 have cr10 : readyC C9.over esK C9.n ((0 + 1 : Nat) : Int) C9.reads = 21:=by rw [o9,r9,n9]; decide +kernel
 have cm10 : comD C9 esK ((0 + 1 : Nat) : Int) = false:=by unfold comD; rw [cr10]; rfl
 refine appComX d9 i10 C10 (by decide) (by rw [n9]; decide +kernel) (by rw [n9]; decide +kernel) (by rw [r9]; intro r hr; rw [List.mem_singleton.1 hr]; exact ⟨by decide,by decide,by decide,by decide,by decide⟩) (by simp [r9]) (by simp [w9]) (by rw [w9]; intro w hw; rw [List.mem_singleton.1 hw]; decide) (by rw [w9,m9]; decide +kernel) fun H11 E11 C11 m11 es11 hd11 f11 i11 C11on e11 al11 hm11 hes11 hhd11 => ?_
 rw [cm10,if_neg (by decide)] at hm11 hes11
 rw [cm10,if_neg (by decide),if_neg (by decide),cr10]
 rw [o9,n9] at hhd11
 subst hm11 hes11 hhd11
 have D11:=D10on.move f11 (fun y hy hm => by
  rcases List.mem_append.1 hm with h | h
  ·exact D10on.ap y hy h
  ·exact hDC9 y (by rw [← a10]; exact hy) (by rcases List.mem_cons.1 h with rfl | h; simp [DealS.all]; rw [List.mem_singleton.1 h]; simp [DealS.all])) (by rw [i11.hx,i10.hx]) al11
 simp only [BB1,BB5,Pos.isHp,BQ,dropLk,BB0,Nat.reduceLT,movK,BB3,BB2,List.map_cons,List.map_nil,extK,Nat.reduceBEq,takK,BB4,Nat.reduceEqDiff,if_false,if_true]
 have cm11 : comD D10 esK ((0 + 1 : Nat) : Int) = false:=by unfold comD; rw [o10]; rfl
 have cr11 : readyC D10.over esK D10.n ((0 + 1 : Nat) : Int) D10.reads = 18:=by rw [o10]; rfl
 refine appComX p10 i11 D11 (by decide) (by rw [n10]; decide +kernel) (by rw [n10]; decide +kernel) (by rw [r10]; intro r hr; rw [List.mem_singleton.1 hr]; exact ⟨by decide,by decide,by decide,by decide,by decide⟩) (by simp [r10]) (by simp [w10]) (by rw [w10]; intro w hw; rw [List.mem_singleton.1 hw]; decide) (by rw [w10,m10]; decide +kernel) fun H12 E12 D12 m12 es12 hd12 f12 i12 D12on e12 al12 hm12 hes12 hhd12 => ?_
 rw [cm11,if_neg (by decide)] at hm12 hes12
 rw [cm11,if_neg (by decide),if_neg (by decide),cr11]
 subst hm12 hes12
 have p12 : D12.d = p:=by rw [e12]; exact p10
 have w12 : D12.ws = [⟨[120],false,[49]⟩]:=by rw [e12]; exact w10
 have o12 : D12.over = true:=by rw [e12]
 have r12 : D12.reads = [⟨97,false,[120],[],[]⟩]:=by rw [e12]; exact r10
 simp only [BB1,BB5,Pos.isHp,BQ,dropLk,BB0,Nat.reduceLT,movK,BB3,BB2,List.map_cons,List.map_nil,extK,Nat.reduceBEq,takK,BB4,gs2_tt,constDV,if_true,Nat.reduceEqDiff,if_false]
 have rok : ∀ r∈D12.reads,RdOk r:=by rw [r12]; intro r hr; rw [List.mem_singleton.1 hr]; exact ⟨by decide,by decide,by decide,by decide,by decide⟩
 have k1 : keyS 97 [98] = [97,98]:=by decide +kernel
 refine ⟨D12,by rw [p12],D12on.at',by simp [r12],fun r hr => (rok r hr).2.2.2.2,fun own => ?_⟩
 rw [r12]
 cases own
 all_goals
  simp only [List.map_cons,List.map_nil,BB1,BB5,Pos.isHp,BQ,dropLk,BB0,Nat.reduceLT,Nat.reduceBEq,BB3,gs2_tt,dl67,BB4,constDV,if_true,movK,BB2,Nat.reduceEqDiff,if_false]
  refine ⟨D12,by rw [p12],D12on.at',by simp [w12],fun H13 v13 f13 o13 => ?_⟩
  rw [w12] at o13
  rcases o13 with ⟨_,_,e⟩ | ⟨id,cap,rfl,_⟩
  ·cases e
  have i13:=i12.fr f13 (by simp)
  have D13:=D12on.fr f13 (by simp)
  simp only [BQ,BB1,BB5,Pos.isHp,dropLk,BB0,Nat.reduceLT,Nat.reduceBEq,BB3,gs2_tt,dlh33,BB4,constDV,if_true,movK,Nat.reduceEqDiff,if_false,List.map_cons,List.map_nil]
  refine appKey (by decide) ?_
  simp only [k1,BB1,BB5,Pos.isHp,BQ,dropLk,BB0,Nat.reduceLT,Nat.reduceBEq,BB3,gs2_tt,BB4,constDV,if_true,movK,BB2,Nat.reduceEqDiff,if_false,List.map_cons,List.map_nil]
  refine appPutX p12 i13 D13 (by simp [w12]) (by simp [w12]) (by decide) fun H14 D14 f14 i14 D14on d14 s14 n14 m14 r14 o14 w14 l14 => ?_
  rw [o12,show writeC true D12.ws ⟨[122],false,[]⟩ = 18 from rfl]
  simp only [BB1,BB5,Pos.isHp,BQ,dropLk,BB0,Nat.reduceLT,Nat.reduceBEq,BB3,gs2_tt,BB4,constDV,if_true,movK,BB2,Nat.reduceEqDiff,if_false,List.map_cons,List.map_nil]
  refine ⟨D14,E12,1,by rw [d14,p12],D14on.at',fun h => (by rw [o14,o12] at h; cases h),by rw [r14]; exact rok,by simp [r14,r12],fun H15 f15 => ?_⟩
  rw [o14,o12,show readyC true E12.es D14.n ((1 : Nat) : Int) D14.reads = 18 from rfl]
  simp only [BB1,BB5,Pos.isHp,BQ,dropLk,BB0,Nat.reduceLT,Nat.reduceBEq,BB3,gs2_tt,BB4,constDV,if_true,takK,BB6,if_false]
  exact hK _
end Go.Ab.En
