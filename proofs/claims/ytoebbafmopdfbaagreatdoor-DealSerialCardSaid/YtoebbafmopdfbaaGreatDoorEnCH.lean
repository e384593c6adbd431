/- A part of the proof; no condition of its own. -/
import Derived.Test.YtoebbafmopdfbaaGreatDoorEnCF
set_option linter.unusedSimpArgs false
set_option linter.unusedVariables false
namespace Go.Ab.En
open Go Go.Conc Go.RowKit Go.Ab
set_option maxRecDepth 10000
def isD : ObjT:=fun t => t == 143 || t == 33
theorem isD_eq {t : TypeId} : isD t = (t == 143 || t == 33):=_root_.id rfl
noncomputable def b29 : Code:=(Go.Proofs.Tryz.f29.body).getD .skip
theorem hb29 : Go.Proofs.Tryz.f29.body = some b29:=by kernel_rfl
def SDOpen : Spec:=fun H args K => ∃ (E : EngS) (hd : Hd) (m : Nat) (home : Int),args = [.ptr E.x 0,.int .u8 home]∧E.At H∧E.Good m∧E.held = encI hd∧0≤cntI hd m∧cntI hd m < 1000000000 ∧
 ∀ H' (E' : EngS) (D : DealS),Fr E.all H H'→E'.x = E.x→E'.At H'→E'.Good m→E'.es = E.es→E'.held = encI (holdH hd m)→E'.all = E.all→D.At H'→D.x = E.x→D.n = m→D.home = home→D.reads = []→D.ws = []→D.over = false→(∀ y∈D.all,H.length≤y)→K H' (.ptr D.d 0)
set_option maxHeartbeats 4000000 in
theorem rcDOpen {I : Jd pp} (hI : ∀ w e,I.Ok w e) : RC I 29 SDOpen:=by
 refine rc_of_code (isObj:=isD) (Γ:=envOf [(19,SOf)]) (rs:=[4]) mixed hI (envOf_rc (by simpa using rcOf hI)) Go.Proofs.Tryz.func29 (by kernel_rfl) hb29 Go.Proofs.Tryz.results29 Go.Proofs.Tryz.ntmps29 (by decide) ?_
 rintro H args K ⟨E,hd,m,home,rfl,h1,hg,hh,c0,c1,hK⟩
 refine ⟨by simp,rfl,?_⟩
 unfold b29 Go.Proofs.Tryz.f29
 simp only [Option.getD_some,argSlots,BB2,BQ,BB1,BB0,constDV,dropLk,Nat.reduceLT,movK,Nat.reduceBEq,BB3,BB4,BB5,if_true,List.map_cons,List.map_nil]
 refine appOfX rfl h1 hg hh c0 c1 fun H1 E1 s f1 hx1 a1 g1 es1 hd1 al1 sn1 hl1 hl2 => ?_
 simp only [BB1,BB5,Pos.isHp,BQ,dropLk,BB0,Nat.reduceLT,movK,Nat.reduceBEq,BB3,bd143,isD_eq,BB7,bd143_0,takK,BB2,BB6,Nat.reduceAdd,Nat.reduceLeDiff,BB4,bd143_1,bd143_2,List.map_cons,List.map_nil,bgen_eq,if_true]
 refine hK _ E1 ⟨H1.length,E.x,s,0,0,m,home,[],[],false⟩ ((f1.trans (Fr.app [] _ _)).mono (by simp)) hx1 (a1.fr0 (Fr.app [] _ _)) g1 es1 hd1 al1 ⟨by simp,sn1.fr (Fr.app [] _ _) (by simp),⟨by simp,by simp⟩,?_,by simp,by simp⟩ rfl rfl rfl rfl rfl rfl fun y hy => ?_
 ·simp only; omega
 ·simp [DealS.all,DealS.wl] at hy
  have:=f1.1
  omega
noncomputable def b92 : Code:=(Go.Proofs.Tryz.f92.body).getD .skip
theorem hb92 : Go.Proofs.Tryz.f92.body = some b92:=by kernel_rfl
def SClP : Spec:=fun H args K => ∃ (own : Bool) (ps : List Pr),args = [.sl own 2 (ps.map prD)]∧ps.length < 100000∧∀ own',K H (.sl own' 2 (ps.map prD))
theorem rcClP {I : Jd pp} (hI : ∀ w e,I.Ok w e) : RC I 92 SClP:=by
 refine rc_of_code (isObj:=noO) (Γ:=envOf []) (rs:=[2]) mixed hI (envOf_rc (by simp)) Go.Proofs.Tryz.func92 (by kernel_rfl) hb92 Go.Proofs.Tryz.results92 Go.Proofs.Tryz.ntmps92 (by decide) ?_
 rintro H args K ⟨own,ps,rfl,h2,hK⟩
 refine ⟨by simp,rfl,?_⟩
 unfold b92 Go.Proofs.Tryz.f92
 cases ps with
 | nil =>
  simp only [Option.getD_some,argSlots,List.map_nil,BB1,BB0,constDV,Proofs.Tryz.underlying64,cn96,dropLk,Nat.reduceLT,movK,Nat.reduceBEq,BB3,lkGet,BB4,n_eql Go.Proofs.Tryz.underlying64,cd_f,bs64_0,isO_eq,BQ,apo64_64,takK,BB6,ne_eq,srcC_sl Go.Proofs.Tryz.underlying64,Nat.reduceLeDiff,ap64_64,if_false,cd_t,if_true]
  exact ⟨hK true,hK true⟩
 | cons p ps =>
  simp only [Option.getD_some,argSlots,List.map_cons,BB1,BB0,constDV,Proofs.Tryz.underlying64,cn96,dropLk,Nat.reduceLT,movK,Nat.reduceBEq,BB3,lkGet,BB4,n_eql Go.Proofs.Tryz.underlying64,cd_f,bs64_0,isO_eq,BQ,apo64_64,takK,BB6,ne_eq,srcC_sl Go.Proofs.Tryz.underlying64,Nat.reduceLeDiff,reduceCtorEq,ap64_64,if_false,cd_t,if_true]
  exact ⟨by simp at h2 ⊢; omega,by simp at h2 ⊢; omega,hK true⟩
noncomputable def b36 : Code:=(Go.Proofs.Tryz.f36.body).getD .skip
theorem hb36 : Go.Proofs.Tryz.f36.body = some b36:=by kernel_rfl
def SReads : Spec:=fun H args K => ∃ (D : DealS),args = [.ptr D.d 0]∧D.At H∧D.reads.length < 100000∧(∀ r∈D.reads,r.prs.length < 100000)∧∀ own,K H (.sl own 5 (D.reads.map rdD))
def MRs (H : List HObj) (D : DealS) (k : Nat) (st : St) : Prop:=∃ (i : Nat) (B : List (Nat × Nat × List DV)),i≤D.reads.length∧k = D.reads.length - i∧(B = []∨∃ g c,B = [(5,g,c)]) ∧
 st = mk 25 [(0,.ptr D.d 0),(3,.sl true 5 ((D.reads.take i).map rdD)),(9,.sl false 5 (D.reads.map rdD)),(10,.int .i64 D.reads.length),(11,.int .i64 i)] B H []
set_option maxHeartbeats 4000000 in
theorem rcReads {I : Jd pp} (hI : ∀ w e,I.Ok w e) : RC I 36 SReads:=by
 refine rc_of_code (isObj:=noO) (Γ:=envOf [(92,SClP)]) (rs:=[2]) mixed hI (envOf_rc (by simpa using rcClP hI)) Go.Proofs.Tryz.func36 (by kernel_rfl) hb36 Go.Proofs.Tryz.results36 Go.Proofs.Tryz.ntmps36 (by decide) ?_
 rintro H args K ⟨D,rfl,h1,h2,h3,hK⟩
 have t1:=h1.top
 refine ⟨by simp,rfl,?_⟩
 unfold b36 Go.Proofs.Tryz.f36
 simp only [Option.getD_some,argSlots,BB2,BB0,BB1,constDV,Proofs.Tryz.underlying67,cn148,dropLk,Nat.reduceLT,movK,Nat.reduceBEq,BB3,dnil,fp143_3,BQ,t1,la67,addrPos,ia67,if_false,dl67,List.length_map,Pos.atSlot]
 refine w_loop [0,3,9,10,11] (MRs H D) D.reads.length ?_ ?_
 ·exact ⟨0,[],by omega,by omega,.inl rfl,by simp only [BB1,List.map_cons,Nat.reduceBEq,BB3,List.map_nil,List.take_zero,BB4]; try rfl⟩
 ·rintro k st ⟨i,B,hi,rfl,hB,rfl⟩
  obtain ⟨g,hb1,hb2⟩:=box1 hB
  by_cases e : i < D.reads.length
  ·have e1 : (i : Int) < D.reads.length:=by omega
   have e2 : (0 : Int)≤i:=by omega
   have wi : IntKind.i64.wrap ((i : Int) + 1) = ((i + 1 : Nat) : Int):=by rw [wrap_i64 (by omega) (by omega)]; omega
   have hx2:=rd_get e
   simp only [BB0,BB1,BB4,BQ,Nat.reduceLT,Nat.reduceBEq,BB3,e1,dropLk,cd_t,ix67,e2,List.length_map,hx2,rdD,la148,Nat.reduceAdd,Nat.reduceLeDiff,List.map_cons,List.map_nil,al148,isO_eq,BB7,hb1,hb2,if_false,takK,if_true,Proofs.Tryz.underlying148,cn148,Pos.inBox,fl148_4,la64,addrPos,ia64,BB5]
   have htk : (D.reads.take (i + 1)).map rdD = (D.reads.take i).map rdD ++ [rdD D.reads[i]]:=by rw [List.take_succ_eq_append_getElem e,List.map_append]; rfl
   refine ⟨false,D.reads[i].prs,rfl,h3 _ (List.getElem_mem e),fun own' => ?_⟩
   have hrl : ((D.reads.take i).map rdD).length = i:=by simp; omega
   cases own'
   ·simp only [BB1,BB5,Pos.isHp,BQ,if_true,dropLk,Nat.reduceBEq,Pos.atSlot,if_false,BB0,Nat.reduceLT,BB3,fl148_4,takK,lkGet,Nat.reduceEqDiff,Proofs.Tryz.underlying64,cn64,Nat.reduceAdd,Nat.reduceLeDiff,BB4,Pos.inBox,movK,la148,List.map_cons,List.map_nil,bs67_1,isO_eq,apo67_67,BB6,ap67_67,hrl,constDV,wi]
    refine ⟨by omega,by omega,_,?_,i + 1,_,by omega,rfl,.inr ⟨_,_,rfl⟩,by rw [htk]; rfl⟩
    omega
   ·simp only [BB1,BB5,Pos.isHp,BQ,if_true,dropLk,Nat.reduceBEq,Pos.atSlot,if_false,BB0,Nat.reduceLT,BB3,fl148_4,takK,Proofs.Tryz.underlying64,cn64,Nat.reduceAdd,Nat.reduceLeDiff,BB4,Pos.inBox,movK,Nat.reduceEqDiff,la148,List.map_cons,List.map_nil,bs67_1,isO_eq,apo67_67,lkGet,BB6,ap67_67,hrl,constDV,wi]
    refine ⟨by omega,by omega,_,?_,i + 1,_,by omega,rfl,.inr ⟨_,_,rfl⟩,by rw [htk]; rfl⟩
    omega
  ·obtain rfl : i = D.reads.length:=by omega
   have e1 : ¬ (D.reads.length : Int) < D.reads.length:=by omega
   simp only [BB0,BB1,BB4,BQ,Nat.reduceLT,Nat.reduceBEq,BB3,e1,dropLk,cd_f,movK,Nat.reduceEqDiff,if_false,takK,lkGet,if_true,BB6,Pos.atSlot]
   rw [List.take_length]
   exact hK _
end Go.Ab.En
namespace Go.Ab.En
open Go Go.Conc Go.RowKit Go.Ab
set_option maxRecDepth 10000
theorem L_write : RC (loneJ pp) 86 SWrite:=rcWrite hI1 (rcSortF (.inr rfl))
theorem L_put : RC (loneJ pp) 30 SPut:=rcPut hI1 L_write
theorem L_del : RC (loneJ pp) 31 SDel:=rcDel hI1 L_write
theorem L_wrs : RC (loneJ pp) 32 SWrs:=rcWrs hI1
theorem L_dget : RC (loneJ pp) 34 SDGet:=rcDGet hI1 L_sget
theorem L_dopen : RC (loneJ pp) 29 SDOpen:=rcDOpen hI1
theorem L_reads : RC (loneJ pp) 36 SReads:=rcReads hI1
theorem L_ready : RC (loneJ pp) 85 SReady:=rcReady hI1 L_schg L_smov
theorem L_commit : RC (loneJ pp) 37 SCommit:=rcCommit hI1 L_schg L_smov rcSortW L_do
structure EngS.Is (E : EngS) (x m : Nat) (es : List Ent) (hd : Hd) (H : List HObj) : Prop where
 hx : E.x = x
 at' : E.At H
 good : E.Good m
 es' : E.es = es
 held : E.held = encI hd
structure DealS.On (D : DealS) (E : EngS) (H : List HObj) : Prop where
 at' : D.At H
 hx : E.x = D.x
 ap : ∀ y∈D.all,y ∉ E.all
theorem EngS.Is.fr {E : EngS} {x m : Nat} {es : List Ent} {hd : Hd} {H H' : List HObj} {S : List Nat} (h : E.Is x m es hd H) (f : Fr S H H') (hS : ∀ y∈S,y ∉ E.all) : E.Is x m es hd H':=⟨h.hx,h.at'.frs f hS,h.good,h.es',h.held⟩
theorem DealS.On.fr {D : DealS} {E : EngS} {H H' : List HObj} {S : List Nat} (h : D.On E H) (f : Fr S H H') (hS : ∀ y∈D.all,y ∉ S) : D.On E H':=⟨h.at'.fr f hS,h.hx,h.ap⟩
theorem DealS.sub {D : DealS} {y : Nat} (h : y∈D.d :: D.wl) : y∈D.all:=by
 rcases List.mem_cons.1 h with rfl | h
 ·simp [DealS.all]
 ·exact List.mem_cons_of_mem _ (List.mem_cons_of_mem _ h)
theorem DealS.On.move {D : DealS} {E E' : EngS} {H H' : List HObj} {S : List Nat} (h : D.On E H) (f : Fr S H H') (hS : ∀ y∈D.all,y ∉ S) (hx : E'.x = E.x) (al : ∀ y∈E'.all,y∈E.all∨H.length≤y) : D.On E' H' :=
 ⟨h.at'.fr f hS,by rw [hx]; exact h.hx,fun y hy hm => by
  rcases al y hm with h1 | h1
  ·exact h.ap y hy h1
  ·have:=h.at'.lt y hy; omega⟩
section
variable {H : List HObj} {K : List HObj→DV→Prop} {E : EngS} {x m : Nat} {es : List Ent} {hd : Hd} {D : DealS}
theorem appDOpenX {home : Int} (h : E.Is x m es hd H) (c0 : 0≤cntI hd m) (c1 : cntI hd m < 1000000000)
  (hK : ∀ H' (E' : EngS) (D : DealS),Fr E.all H H'→E'.Is x m es (holdH hd m) H'→E'.all = E.all→D.On E' H'→D.n = m→D.home = home→D.reads = []→D.ws = []→D.over = false→(∀ y∈D.all,H.length≤y)→K H' (.ptr D.d 0)) : app SDOpen H [.ptr x 0,.int .u8 home] K:=by
 refine ⟨E,hd,m,home,by rw [h.hx],h.at',h.good,h.held,c0,c1,fun H' E' D f hx a g es' hd' al dAt dx dn dh dr dw dov dl => ?_⟩
 exact hK H' E' D f ⟨by rw [hx,h.hx],a,g,by rw [es',h.es'],hd'⟩ al ⟨dAt,by rw [hx,dx],fun y hy hm => by rw [al] at hm; have:=dl y hy; have:=h.at'.allLt y hm; omega⟩ dn dh dr dw dov dl
theorem appPutX {k v : Str} {p : Nat} (hpd : D.d = p) (h : E.Is x m es hd H) (hD : D.On E H) (hl : D.ws.length < 100000) (hn : (D.ws.map (·.key)).Nodup) (hv : v.length < 1000000)
  (hK : ∀ H' (D' : DealS),Fr (D.d :: D.wl) H H'→E.Is x m es hd H'→D'.On E H'→D'.d = D.d→D'.s = D.s→D'.n = D.n→D'.home = D.home→D'.reads = D.reads→D'.over = D.over→D'.ws = writeW D.over D.ws ⟨k,false,v⟩→(∀ y∈D'.all,y∈D.all∨H.length≤y)→K H' (.int .i64 (writeC D.over D.ws ⟨k,false,v⟩))) : app SPut H [.ptr p 0,.str k,.str v] K:=by
 subst hpd
 refine ⟨D.d,k,v,rfl,D,⟨k,false,v⟩,rfl,hD.at',hl,hn,by simp only; omega,fun H' wi' cap' f a hn => ?_⟩
 have hsub : ∀ y∈D.d :: D.wl,y ∉ E.all:=fun y hy => hD.ap y (by rcases List.mem_cons.1 hy with rfl | hy <;> simp [DealS.all, *])
 have hall : ∀ y∈DealS.all { D with wi:=wi',cap:=cap',ws:=writeW D.over D.ws ⟨k,false,v⟩ },y∈D.all∨H.length≤y:=fun y hy => by
  simp only [DealS.all,DealS.wl,List.mem_cons] at hy ⊢
  rcases hy with h | h | h
  ·exact .inl (.inl h)
  ·exact .inl (.inr (.inl h))
  ·rcases hn with ⟨rfl,rfl⟩ | hn
   ·exact .inl (.inr (.inr h))
   ·split at h
    ·simp at h
    ·right; rw [List.mem_singleton.1 h]; exact hn
 refine hK H' _ f (h.fr f hsub) ⟨a,hD.hx,fun y hy hm => ?_⟩ rfl rfl rfl rfl rfl rfl rfl hall
 rcases hall y hy with h1 | h1
 ·exact hD.ap y h1 hm
 ·have:=h.at'.allLt y hm; omega
theorem appDelX {k : Str} {p : Nat} (hpd : D.d = p) (h : E.Is x m es hd H) (hD : D.On E H) (hl : D.ws.length < 100000) (hn : (D.ws.map (·.key)).Nodup)
  (hK : ∀ H' (D' : DealS),Fr (D.d :: D.wl) H H'→E.Is x m es hd H'→D'.On E H'→D'.d = D.d→D'.s = D.s→D'.n = D.n→D'.home = D.home→D'.reads = D.reads→D'.over = D.over→D'.ws = writeW D.over D.ws ⟨k,true,[]⟩→(∀ y∈D'.all,y∈D.all∨H.length≤y)→K H' (.int .i64 (writeC D.over D.ws ⟨k,true,[]⟩))) : app SDel H [.ptr p 0,.str k] K:=by
 subst hpd
 refine ⟨D.d,k,rfl,D,⟨k,true,[]⟩,rfl,hD.at',hl,hn,by simp,fun H' wi' cap' f a hn => ?_⟩
 have hsub : ∀ y∈D.d :: D.wl,y ∉ E.all:=fun y hy => hD.ap y (by rcases List.mem_cons.1 hy with rfl | hy <;> simp [DealS.all, *])
 have hall : ∀ y∈DealS.all { D with wi:=wi',cap:=cap',ws:=writeW D.over D.ws ⟨k,true,[]⟩ },y∈D.all∨H.length≤y:=fun y hy => by
  simp only [DealS.all,DealS.wl,List.mem_cons] at hy ⊢
  rcases hy with h | h | h
  ·exact .inl (.inl h)
  ·exact .inl (.inr (.inl h))
  ·rcases hn with ⟨rfl,rfl⟩ | hn
   ·exact .inl (.inr (.inr h))
   ·split at h
    ·simp at h
    ·right; rw [List.mem_singleton.1 h]; exact hn
 refine hK H' _ f (h.fr f hsub) ⟨a,hD.hx,fun y hy hm => ?_⟩ rfl rfl rfl rfl rfl rfl rfl hall
 rcases hall y hy with h1 | h1
 ·exact hD.ap y h1 hm
 ·have:=h.at'.allLt y hm; omega
theorem appDGetX {sp : Int} {k : Str} {p : Nat} (hpd : D.d = p) (h : E.Is x m es hd H) (hD : D.On E H) (hm : m < 300) (ho : D.over = false) (s0 : 0≤sp) (s1 : sp < 256) (hk : keyedB k = true) (hkl : k.length < 4000000000000000000) (hl : D.ws.length < 100000) (hr : D.reads.length < 100000) (hp : sp = D.home→idxP (fun w => decide (w.key = k)) D.ws = none)
  (hK : ∀ H' v (D' : DealS),Fr [D.d] H H'→E.Is x m es hd H'→D'.On E H'→D' = { D with reads:=D.reads ++ [getR sp k v (seenE es (keyS sp k) (min D.n m)).isSome] }→((seenE es (keyS sp k) (min D.n m)).isSome = true→seenE es (keyS sp k) (min D.n m) = some v)→K H' (.tup [.str v,.bool (seenE es (keyS sp k) (min D.n m)).isSome,.int .i64 0])) : app SDGet H [.ptr p 0,.int .u8 sp,.str k] K:=by
 subst hpd
 refine ⟨D,E,m,sp,k,rfl,hD.at',hD.hx,h.at',h.good,hm,s0,s1,hkl,hl,hr,fun h1 => ?_,fun _ h1 => ?_,fun _ _ e i hi h1 => ?_,fun _ _ _ H' v f hv a => ?_⟩
 ·rw [ho] at h1; cases h1
 ·rw [hk] at h1; cases h1
 ·rw [hp e] at h1; cases h1
 ·rw [h.es'] at hv a
  rw [h.es']
  exact hK H' v _ f (h.fr f (fun y hy => by rw [List.mem_singleton.1 hy]; exact hD.ap _ (by simp [DealS.all]))) ⟨a,hD.hx,fun y hy => hD.ap y hy⟩ rfl hv
theorem appDGetO {sp : Int} {k : Str} {i : Nat} {w : Wr} {p : Nat} (hpd : D.d = p) (h : E.Is x m es hd H) (hD : D.On E H) (hm : m < 300) (ho : D.over = false) (s0 : 0≤sp) (s1 : sp < 256) (hk : keyedB k = true) (hkl : k.length < 4000000000000000000) (hl : D.ws.length < 100000) (hr : D.reads.length < 100000) (hs : sp = D.home) (hp : idxP (fun w => decide (w.key = k)) D.ws = some i) (hw : D.ws[i]? = some w)
  (hK : ∀ H',Fr [] H H'→K H' (.tup [.str w.val,.bool (!w.del),.int .i64 0])) : app SDGet H [.ptr p 0,.int .u8 sp,.str k] K:=by
 subst hpd
 refine ⟨D,E,m,sp,k,rfl,hD.at',hD.hx,h.at',h.good,hm,s0,s1,hkl,hl,hr,fun h1 => ?_,fun _ h1 => ?_,fun _ _ e j hj h1 => ?_,fun _ _ h1 => ?_⟩
 ·rw [ho] at h1; cases h1
 ·rw [hk] at h1; cases h1
 ·rw [hp] at h1
  cases h1
  rw [List.getElem?_eq_getElem hj] at hw
  cases hw
  exact hK
 ·rw [h1 hs] at hp; cases hp
theorem appComX {p : Nat} (hpd : D.d = p) (h : E.Is x m es hd H) (hD : D.On E H) (hm : m < 299) (c0 : 0≤cntI hd D.n) (c1 : cntI hd D.n < 1000000000) (hrd : ∀ r∈D.reads,RdOk r) (hrl : D.reads.length < 100000) (hwl : D.ws.length < 100000) (hkl : ∀ w∈D.ws,w.key.length < 4000000000000000000) (hb : isBatch (neatW (homeW D.home D.ws)) = true)
  (hK : ∀ H' (E' : EngS) (D' : DealS) m' es' hd',Fr (E.all ++ [D.s,D.d]) H H'→E'.Is x m' es' hd' H'→D'.On E' H'→D' = { D with over:=true }→(∀ y∈E'.all,y∈E.all∨H.length≤y)→m' = (if comD D es m then m + 1 else m)→es' = (if comD D es m then (entsB ((m + 1 : Nat) : Int) (neatW (homeW D.home D.ws))).foldl putE es else es)→hd' = (if D.over then hd else freeH hd D.n) →
   K H' (.tup [.int .i64 (if comD D es m then ((m + 1 : Nat) : Int) else 0),.int .i64 (if comD D es m then 0 else readyC D.over es D.n m D.reads)])) : app SCommit H [.ptr p 0] K:=by
 subst hpd
 have hlt:=hD.at'.lt
 refine ⟨D,E,hd,m,rfl,hD.at',hD.hx,h.at',h.good,by omega,h.held,c0,c1,hD.ap,hrd,hrl,hwl,hkl,hb,fun hc H' E' f hx a g es' hd' al d' => ?_,fun hc H' E' f hx a g es' hd' al d' => ?_⟩
 ·rw [h.es'] at hc es'
  have:=hK H' E' _ m es _ f ⟨by rw [hx,h.hx],a,g,es',hd'⟩ ⟨d',by rw [hx,hD.hx],fun y hy hm => by rw [al] at hm; exact hD.ap y hy hm⟩ rfl (fun y hy => .inl (by rw [← al]; exact hy)) (by rw [hc]; rfl) (by rw [hc]; rfl) rfl
  rw [hc] at this
  rw [h.es']
  exact this
 ·rw [h.es'] at hc es'
  have ho : D.over = false:=by
   cases ho : D.over
   ·rfl
   ·simp [comD,readyC,ho] at hc
  have:=hK H' E' _ (m + 1) _ _ f ⟨by rw [hx,h.hx],a,g,es',hd'⟩ ⟨d',by rw [hx,hD.hx],fun y hy hm => by
   rcases al y hm with h1 | h1
   ·exact hD.ap y hy h1
   ·have:=hlt y hy; omega⟩ rfl al (by rw [hc]; rfl) (by rw [hc]; rfl) (by rw [ho]; rfl)
  rw [hc] at this
  exact this
end
end Go.Ab.En
