/- A part of the proof; no condition of its own. -/
import Derived.Test.YtoebbafmopdfbaaGreatDoorEnM
set_option linter.unusedSimpArgs false
set_option linter.unusedVariables false
/- EnN: The engine's laws: files' names. -/
namespace Go.Ab.En
open Go Go.Conc Go.RowKit Go.Ab
set_option maxRecDepth 10000
noncomputable def b179 : Code:=(Go.Proofs.Tryz.f179.body).getD .skip
theorem hb179 : Go.Proofs.Tryz.f179.body = some b179:=by kernel_rfl
def SNames : Spec:=fun H args K => ∃ (id k n : Nat) (kept now : Files) (acts : List Act) (room : Int),args = [.ptr id 0]∧ShelfAt H id k n kept now acts room∧NamesOk now∧∀ H',Fr [] H H'→K H' (.sl false 1 ((namesF now).map .str))
theorem rcNames {I : Jd pp} (hI : ∀ w e,I.Ok w e) (hk : RC I 230 SKeys) (hs : RC I 229 SSrt) : RC I 179 SNames:=by
 refine rc_of_code (isObj:=isS) (Γ:=envOf [(230,SKeys),(229,SSrt)]) (rs:=[2]) mixed hI (envOf_rc (by simpa using ⟨hk,hs⟩)) Go.Proofs.Tryz.func179 (by kernel_rfl) hb179 Go.Proofs.Tryz.results179 Go.Proofs.Tryz.ntmps179 (by decide) ?_
 rintro H args K ⟨id,k,n,kept,now,acts,room,rfl,⟨h1,h2,h3,h4⟩,⟨o1,o2,o3⟩,hK⟩
 refine ⟨by simp,rfl,?_⟩
 unfold b179 Go.Proofs.Tryz.f179
 simp only [Option.getD_some,argSlots,BZ2,w_seq,BZ1,constDV,Proofs.Tryz.underlying194,cn9,dropLk,Nat.reduceLT,movK,Nat.reduceBEq,dnil,BP,fp120_1,BQ,h1,shelfC,la117,lo_map,Nat.reduceEqDiff,if_false,if_true,List.map_cons,List.map_nil]
 refine ⟨_,rfl,.inl ⟨_,rfl⟩,?_⟩
 simp only [BZ1,BZ2,Pos.isHp,BQ,BP,dropLk,Nat.reduceLT,Nat.reduceEqDiff,if_true,if_false,BZ3,List.map_cons,List.map_nil]
 refine ⟨H.length,.map n,rfl,by simp,.inr ⟨n,now,rfl,by rw [List.getElem?_append_left (List.getElem?_eq_some_iff.1 h3).1]; exact h3,o1,o2,o3,?_⟩⟩
 simp only [hold_app2,mk_called,Pos.isHp,BQ,BP,dropLk,hold_app,tS_cons,g_none,o_assign,Nat.reduceLT,take_tmp,takK,look_hit,lkGet,mk_put,tS_nil,w_ret,ret_one,vfla_sl]
 exact hK _ (Fr.app _ _ _)
def SItoa : Spec:=fun H args K => ∃ n : Nat,args = [.int .i64 n]∧n < 100∧K H (.str (Lib.decDigits n))
theorem rcItoa : RC (loneJ pp) 142 SItoa:=by
 refine rc_of_calls ⟨_,Go.Proofs.Tryz.func142,by kernel_rfl,by kernel_rfl⟩ fun N0 w0 d G w H args vs K hS hW hF => ?_
 obtain ⟨n,rfl,hn,hK⟩:=hS
 have hsz : vs.size = 1:=hF.1.symm
 obtain ⟨x,rfl⟩ : ∃ x,vs = #[x]:=Array.size_eq_one_iff.1 hsz
 have hx : x = .int .i64 n:=SV.int (d:=0) (hF.2 0 _ _ rfl rfl)
 subst hx
 refine (Go.Proofs.Tryz.strconv_Itoa_small n hn w).mono fun e w' ⟨he,hw⟩ => ?_
 subst he hw
 exact ⟨_,rfl,G,H,.str _,hK,Ext.refl _ _ _,hW,SV.of_vp (.str _),sown_of_noOwn rfl⟩
def SRep : Spec:=fun H args K => ∃ (s : Str) (c : Nat),args = [.str s,.int .i64 c]∧c≤9223372036854775807∧s.length * c≤140737488355328∧K H (.str (Lib.repeatL s c))
theorem rcRep : RC (loneJ pp) 143 SRep:=by
 refine rc_of_calls ⟨_,Go.Proofs.Tryz.func143,by kernel_rfl,by kernel_rfl⟩ fun N0 w0 d G w H args vs K hS hW hF => ?_
 obtain ⟨s,c,rfl,hc,hl,hK⟩:=hS
 have hsz : vs.size = 2:=hF.1.symm
 obtain ⟨x,y,rfl⟩ : ∃ x y,vs = #[x,y]:=by
  match vs,hsz with
  | ⟨[x,y]⟩,_ => exact ⟨x,y,rfl⟩
 have hx : x = .string ⟨s.toArray⟩:=SV.str (d:=0) (hF.2 0 _ _ rfl rfl)
 have hy : y = .int .i64 c:=SV.int (d:=0) (hF.2 1 _ _ rfl rfl)
 subst hx hy
 refine (Go.Proofs.Tryz.strings_Repeat ⟨s.toArray⟩ c w hc (by simpa [ByteArray.size] using hl)).mono fun e w' ⟨he,hbl⟩ => ?_
 subst he
 have hn2 : Neu G w G w':=⟨hbl.os,hbl.tape,hbl.output,hbl.size,fun b hb => ⟨hbl.block b hb,rfl⟩,rfl,rfl,fun h b hb => h b (Nat.le_trans hbl.size hb)⟩
 exact ⟨_,rfl,G,H,.str _,hK,hn2.ext hW.fresh _,hW.neu hn2,SV.of_vp (.str _),sown_of_noOwn rfl⟩
noncomputable def b75 : Code:=(Go.Proofs.Tryz.f75.body).getD .skip
theorem hb75 : Go.Proofs.Tryz.f75.body = some b75:=by kernel_rfl
def fileF (kind : Str) (n : Nat) : Str:=kind ++ Lib.repeatL [48] (6 - (Lib.decDigits n).length) ++ Lib.decDigits n
def SFile : Spec:=fun H args K => ∃ (kind : Str) (n : Nat),args = [.str kind,.int .i64 n]∧kind.length≤100∧n < 100∧K H (.str (fileF kind n))
theorem appFile {H : List HObj} {K : List HObj→DV→Prop} {kind : Str} {n : Nat} (h1 : kind.length≤100) (h2 : n < 100) (h : K H (.str (fileF kind n))) : app SFile H [.str kind,.int .i64 n] K:=⟨kind,n,rfl,h1,h2,h⟩
theorem dec_len {n : Nat} (h : n < 100) : (Lib.decDigits n).length≤2:=by
 have : ∀ n : Fin 100,(Lib.decDigits n.1).length≤2:=by decide +kernel
 exact this ⟨n,h⟩
theorem rep_len (s : Str) (c : Nat) : (Lib.repeatL s c).length = c * s.length:=by
 induction c with
 | zero => simp [Lib.repeatL]
 | succ c ih =>
  simp [Lib.repeatL] at ih ⊢
  rw [ih,Nat.add_mul]; omega
theorem rcFile {I : Jd pp} (hI : ∀ w e,I.Ok w e) (h1 : RC I 142 SItoa) (h2 : RC I 143 SRep) : RC I 75 SFile:=by
 refine rc_of_code (isObj:=noO) (Γ:=envOf [(142,SItoa),(143,SRep)]) (rs:=[4]) mixed hI (envOf_rc (by simpa using ⟨h1,h2⟩)) Go.Proofs.Tryz.func75 (by kernel_rfl) hb75 Go.Proofs.Tryz.results75 Go.Proofs.Tryz.ntmps75 (by decide) ?_
 rintro H args K ⟨kind,n,rfl,hkl,hn,hK⟩
 refine ⟨by simp,rfl,?_⟩
 unfold b75 Go.Proofs.Tryz.f75
 simp only [Option.getD_some,argSlots,BZ2,BQ,w_seq,BZ1,constDV,dropLk,Nat.reduceLT,movK,Nat.reduceBEq,Nat.reduceEqDiff,if_false,if_true,List.map_cons,List.map_nil]
 refine ⟨n,rfl,hn,?_⟩
 have hd:=dec_len hn
 have w1 : IntKind.i64.wrap (6 - ((Lib.decDigits n).length : Int)) = ((6 - (Lib.decDigits n).length : Nat) : Int):=by rw [wrap_i64 (by omega) (by omega)]; omega
 have m1 : (if ((6 - (Lib.decDigits n).length : Nat) : Int) < 0 then 0 else ((6 - (Lib.decDigits n).length : Nat) : Int)) = ((6 - (Lib.decDigits n).length : Nat) : Int):=if_neg (by omega)
 simp only [BZ1,BZ2,Pos.isHp,BQ,BP,dropLk,Nat.reduceLT,takK,w_seq,movK,Nat.reduceBEq,dl9,constDV,BZ3,w1,m1,Nat.reduceEqDiff,if_true,if_false,List.map_cons,List.map_nil]
 refine ⟨[48],6 - (Lib.decDigits n).length,rfl,by omega,by simp; omega,?_⟩
 have hr:=rep_len [48] (6 - (Lib.decDigits n).length)
 simp only [List.length_cons,List.length_nil] at hr
 simp only [BZ1,BZ2,Pos.isHp,BQ,BP,dropLk,Nat.reduceLT,Nat.reduceBEq,s_add,movK,takK,if_false]
 refine ⟨by omega,by rw [List.length_append]; omega,?_⟩
 simpa only [fileF,List.append_assoc] using hK
noncomputable def b73 : Code:=(Go.Proofs.Tryz.f73.body).getD .skip
theorem hb73 : Go.Proofs.Tryz.f73.body = some b73:=by kernel_rfl
def SFst : Spec:=fun H args K => ∃ (own : Bool) (a b : Int),args = [.sl own 1 [.int .i64 a,.int .i64 b]]∧K H (.int .i64 (if a = 0 then b else a))
theorem appFst {H : List HObj} {K : List HObj→DV→Prop} {own : Bool} {a b : Int} (h : K H (.int .i64 (if a = 0 then b else a))) : app SFst H [.sl own 1 [.int .i64 a,.int .i64 b]] K:=⟨own,a,b,rfl,h⟩
theorem rcFst {I : Jd pp} (hI : ∀ w e,I.Ok w e) : RC I 73 SFst:=by
 refine rc_of_code (isObj:=noO) (Γ:=envOf []) (rs:=[2]) mixed hI (envOf_rc (by simp)) Go.Proofs.Tryz.func73 (by kernel_rfl) hb73 Go.Proofs.Tryz.results73 Go.Proofs.Tryz.ntmps73 (by decide) ?_
 rintro H args K ⟨own,a,b,rfl,hK⟩
 refine ⟨by simp,rfl,?_⟩
 unfold b73 Go.Proofs.Tryz.f73
 simp only [Option.getD_some,argSlots,BZ2,w_seq,BZ1,constDV,dropLk,Nat.reduceLT,movK,Nat.reduceBEq,lkGet,dl202,BQ,Nat.reduceAdd,nc2,BP]
 refine w_unroll 3 ?_
 simp only [lw_succ,w_seq,BZ1,BZ2,BQ,Nat.reduceLT,Nat.reduceBEq,Int.reduceLT,BP,dropLk,cd,ix202,Int.reduceLE,Nat.reduceAdd,BZ3,Int.reduceToNat,la24,takK,movK,constDV,ne_eq,Int.reduceAdd,Int.reduceNeg,if_true,if_false]
 by_cases h : a = 0 <;> by_cases h2 : b = 0 <;> simp [h,h2] at hK ⊢ <;> exact hK
end Go.Ab.En
/- EnSK: The engine's laws: the shelf's contracts,with frames (ported by tools/portshk.py). -/
namespace Go.Ab.En
open Go Go.Conc Go.RowKit Go.Ab
section
variable {H H' : List HObj} {id k n : Nat} {kept now : Files} {acts : List Act} {room : Int}
theorem ShelfAt.lt (h : ShelfAt H id k n kept now acts room) : id < H.length∧k < H.length∧n < H.length∧id ≠ k∧id ≠ n:=by
 obtain ⟨h1,h2,h3,h4⟩:=h
 refine ⟨(List.getElem?_eq_some_iff.1 h1).1,(List.getElem?_eq_some_iff.1 h2).1,(List.getElem?_eq_some_iff.1 h3).1,?_,?_⟩
 ·rintro rfl; rw [h1] at h2; cases h2
 ·rintro rfl; rw [h1] at h3; cases h3
theorem ShelfAt.fr {S : List Nat} (h : ShelfAt H id k n kept now acts room) (f : Fr S H H') (h1 : id ∉ S) (h2 : k ∉ S) (h3 : n ∉ S) : ShelfAt H' id k n kept now acts room:=by
 obtain ⟨a,b,c,_,_⟩:=h.lt
 exact ⟨(f.2 _ a h1).trans h.1,(f.2 _ b h2).trans h.2.1,(f.2 _ c h3).trans h.2.2.1,h.2.2.2⟩
theorem ShelfAt.done (a : Act) (h : ShelfAt H id k n kept now acts room) : ShelfAt (doneH H id k n now acts room a) id k n kept (doesF a now) (acts ++ [a]) room∧Fr [id,n] H (doneH H id k n now acts room a):=by
 obtain ⟨q1,q2,q3,q4,q5⟩:=h.lt
 have hkn:=h.2.2.2
 refine ⟨⟨hset (j:=0) (by simpa using q1),?_,?_,hkn⟩,(Fr.set _ _ _).trans (Fr.set _ _ _) |>.mono (by simp; omega)⟩
 ·exact (hset_ne q4).trans ((hset_ne hkn.symm).trans h.2.1)
 ·exact (hset_ne q5).trans (hset (j:=0) q3)
variable {K : List HObj→DV→Prop}
theorem ShelfAt.acted (a : Act) (c : Int) (h : ShelfAt H id k n kept now acts room)
  (hK : ∀ H',Fr [id,n] H H'→ShelfAt H' id k n kept (if c = 0 then doesF a now else now) (if c = 0 then acts ++ [a] else acts) room→K H' (.int .i64 c)) : K (if c = 0 then doneH H id k n now acts room a else H) (.int .i64 c):=by
 refine hK _ ?_ ?_
 ·split
  ·exact (h.done a).2
  ·exact Fr.refl _ _
 ·split
  ·exact (h.done a).1
  ·exact h
theorem capp122 {nm b : Str} (c : Int) (h1 : ShelfAt H id k n kept now acts room) (h2 : usedF now < 4611686018427387904) (h3 : 0≤room) (h4 : room < 4611686018427387904) (h5 : acts.length < 100000) (h6 : nm.length < 4611686018427387904) (h7 : b.length < 4611686018427387904) (hc : putC now room nm b = c)
  (hK : ∀ H',Fr [id,n] H H'→ShelfAt H' id k n kept (if c = 0 then doesF ⟨1,nm,b⟩ now else now) (if c = 0 then acts ++ [⟨1,nm,b⟩] else acts) room→K H' (.int .i64 c)) : app S122 H [.ptr id 0,.str nm,.str b] K :=
 ⟨id,k,n,kept,now,acts,room,nm,b,rfl,h1,h2,h3,h4,h5,h6,h7,by rw [hc]; exact h1.acted _ c hK⟩
theorem capp74 {nm b : Str} (c : Int) (h1 : ShelfAt H id k n kept now acts room) (h2 : usedF now < 4611686018427387904) (h3 : 0≤room) (h4 : room < 4611686018427387904) (h5 : acts.length < 100000) (h7 : b.length < 4611686018427387904) (hc : addC now room nm b = c)
  (hK : ∀ H',Fr [id,n] H H'→ShelfAt H' id k n kept (if c = 0 then doesF ⟨2,nm,b⟩ now else now) (if c = 0 then acts ++ [⟨2,nm,b⟩] else acts) room→K H' (.int .i64 c)) : app S74 H [.ptr id 0,.str nm,.str b] K :=
 ⟨id,k,n,kept,now,acts,room,nm,b,rfl,h1,h2,h3,h4,h5,h7,by rw [hc]; exact h1.acted _ c hK⟩
theorem capp130 {old nm : Str} (c : Int) (h1 : ShelfAt H id k n kept now acts room) (h2 : usedF now < 4611686018427387904) (h5 : acts.length < 100000) (h6 : nm.length < 4611686018427387904) (hc : swapC now old nm = c)
  (hK : ∀ H',Fr [id,n] H H'→ShelfAt H' id k n kept (if c = 0 then doesF ⟨3,old,nm⟩ now else now) (if c = 0 then acts ++ [⟨3,old,nm⟩] else acts) room→K H' (.int .i64 c)) : app S130 H [.ptr id 0,.str old,.str nm] K :=
 ⟨id,k,n,kept,now,acts,room,old,nm,rfl,h1,h2,h5,h6,by rw [hc]; exact h1.acted _ c hK⟩
theorem capp129 {nm : Str} (c : Int) (h1 : ShelfAt H id k n kept now acts room) (h2 : usedF now < 4611686018427387904) (h5 : acts.length < 100000) (hc : dropC now nm = c)
  (hK : ∀ H',Fr [id,n] H H'→ShelfAt H' id k n kept (if c = 0 then doesF ⟨4,nm,[]⟩ now else now) (if c = 0 then acts ++ [⟨4,nm,[]⟩] else acts) room→K H' (.int .i64 c)) : app S129 H [.ptr id 0,.str nm] K :=
 ⟨id,k,n,kept,now,acts,room,nm,rfl,h1,h2,h5,by rw [hc]; exact h1.acted _ c hK⟩
theorem capp17 {v : Int} (hK : ∀ H',Fr [] H H'→H.length + 3≤H'.length→ShelfAt H' (H.length + 2) H.length (H.length + 1) [] [] [] (min (max v 0) 1000000)→K H' (.ptr (H.length + 2) 0)) : app S17 H [.int .i64 v] K :=
 ⟨v,rfl,hK _ (Fr.app [] _ _) (by simp) ⟨by simp,by simp [enc],by simp [enc],by omega⟩⟩
theorem capp118 (h1 : ShelfAt H id k n kept now acts room) (hK : ∀ H',Fr [id] H H'→H.length + 1≤H'.length→ShelfAt H' id H.length n now now [] room→K H' (.tup [])) : app S118 H [.ptr id 0] K:=by
 obtain ⟨q1,q2,q3,q4,q5⟩:=h1.lt
 refine ⟨id,k,n,kept,now,acts,room,rfl,h1,hK _ (((Fr.app [] _ _).trans (Fr.set _ _ _)).mono (by simp)) (by simp) ⟨hset (j:=0) (by rw [List.length_append]; omega),?_,?_,by omega⟩⟩
 ·exact (hset_ne (by omega)).trans (by simp)
 ·exact (hset_ne q5).trans (by rw [List.getElem?_append_left q3]; exact h1.2.2.1)
theorem capp61 {nm : Str} (h1 : ShelfAt H id k n kept now acts room) (hK : K H (.tup [.str ((getF now nm).getD []),.int .i64 (if (getF now nm).isSome then 0 else 14)])) : app S61 H [.ptr id 0,.str nm] K:=⟨id,k,n,kept,now,acts,room,nm,rfl,h1,hK⟩
theorem capp61v {nm : Str} (v : Str) (e : Int) (h1 : ShelfAt H id k n kept now acts room) (hv : (getF now nm).getD [] = v) (he : (if (getF now nm).isSome then 0 else 14 : Int) = e) (hK : K H (.tup [.str v,.int .i64 e])) : app S61 H [.ptr id 0,.str nm] K:=capp61 h1 (by rw [hv,he]; exact hK)
end
end Go.Ab.En
