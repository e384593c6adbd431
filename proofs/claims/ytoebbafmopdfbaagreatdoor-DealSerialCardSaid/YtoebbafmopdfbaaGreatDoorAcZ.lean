/- A part of the proof; no condition of its own. -/
import Derived.Test.YtoebbafmopdfbaaGreatDoorAcP8
set_option linter.unusedSimpArgs false
set_option linter.unusedVariables false
/- AcZ: Every operation that calls nothing is sound. -/
namespace Go.Ab
open Go Go.Conc Go.RowKit
variable {P : Program} {isObj : ObjT} {N0 : Nat} {w0 : World} {d : Nat} {G : Gh} {w : World} {st : St} {a : Act} {K : St→Prop}
theorem sv_vp {dv : DV} {v : Value} (h : SV G w d dv v) (hn : dv.plain) : VP G w dv v:=by
 cases dv <;> first | exact False.elim hn | exact h
theorem opt_sv (hR : Rel N0 w0 d G w st a.tmps) (t : TypeId) (x : Option Operand) : match x.map (rho P st t),x.map a.eval with | none,none => True | some u,some v => SV G w d u v | _,_ => False:=by
 cases x with
 | none => trivial
 | some x => exact hR.rho t x
theorem dop_sound {o : Oper} (h : dop P isObj o st K) (hR : Rel N0 w0 d G w st a.tmps) : OpTo P N0 w0 d G w a o K:=by
 unfold dop at h
 split at h
 ·
  rename_i x hop
  split at h
  ·rename_i s hd; exact op_move hop hR hd h
  ·exact h.elim
 ·rename_i x hop
  split at h
  ·rename_i s hd; exact op_assign hop hR hd h
  ·exact h.elim
 ·rename_i c x y hop
  split at h
  ·rename_i b hb; exact op_pick hop hR hb h
  ·exact h.elim
 ·rename_i e hop
  split at h
  ·rename_i s hd
   split at h
   ·rename_i hf; exact op_allocF hop hR hd hf h.2
   ·exact op_alloc hop hR hd h.1 h.2.1 h.2.2
  ·exact h.elim
 ·rename_i e x hop
  split at h
  ·rename_i s hd; exact op_box hop hR hd h.1 h.2
  ·exact h.elim
 ·rename_i t parts hop
  split at h
  ·rename_i s fs hd hu
   obtain ⟨h1,h2,h3,h4⟩:=h
   exact op_build hop hR hd hu h1 h2 (by rw [List.all_eq_true] at h3; exact h3) h4
  ·exact h.elim
 ·rename_i t len parts hop
  split at h
  ·rename_i s e hd hu
   obtain ⟨h1,h2,h3,h4,h5,h6,h7⟩:=h
   split at h7
   ·exact op_buildSliceObj hop hR hd hu h1 h2 h3 h4 h5 h6 h7
   ·exact op_buildSlice hop hR hd hu h1 h2 h3 h4 h5 h6 h7
  ·exact h.elim
 ·rename_i f first caps hop
  obtain ⟨h1,h2,h3⟩:=h
  have hf : first = #[]:=Array.toList_inj.1 h1
  subst hf
  refine op_PR hR ⟨.fn f (caps.toList.map fun x => (rho P st 0 x).ro),.func (.func f) #[] (caps.map a.eval),h3,?_,SV.of_vp (.fn (by simp) fun j c v hc hv => ?_),rfl⟩ (s:=Instr.makeFunc (.func f) #[] (caps.map a.eval)) (by simp only [execOp,hop,Array.map_empty])
  ·rfl
  ·rw [List.getElem?_map] at hc
   obtain ⟨x,hx,rfl⟩:=Option.map_eq_some_iff.1 hc
   rw [Array.getElem?_map,← Array.getElem?_toList,hx] at hv
   cases hv
   exact (sv_vp (hR.rho 0 x) (h2 x (List.mem_of_getElem? hx))).ro
 ·rename_i t l c hop
  split at h
  ·rename_i s k1 n k2 m hd hl hc
   obtain ⟨rfl,h1,h2,h3⟩:=h
   exact op_made hop hR hd hl hc h1 h2 h3
  ·exact h.elim
 ·rename_i t x hop
  split at h
  ·rename_i s k e k1 n hd hu hx
   obtain ⟨h1,h2,h3,h4,h5⟩:=h
   exact op_makeChan hop hR hd hu hx h1 h2 h3 h4 h5
  ·exact h.elim
 ·rename_i t x hop
  split at h
  ·rename_i s hd; exact op_load hop hR hd h
  ·exact h.elim
 ·rename_i t x y hop
  exact op_store hop hR h.1 h.2
 ·rename_i x hop
  split at h
  ·rename_i i q hx; exact op_nilCheck hop hR hx trivial h
  ·rename_i s g q hx; exact op_nilCheck hop hR hx trivial h
  ·rename_i cs hx; exact op_nilCheck hop hR hx trivial h
  ·exact h.elim
 ·rename_i op xt x y yt hop
  split at h
  ·rename_i hy
   have hy' : y = .const (.slice none 0 0):=by
    unfold isNilSl at hy
    split at hy
    ·rfl
    ·cases hy
   subst hy'
   exact op_PR hR (dnilSl_sound (ox:=x) (oy:=.const (.slice none 0 0)) (hR.rho xt x) h) (by simp only [execOp,hop]; rfl)
  exact op_PR hR (dbin_sound (ox:=x) (oy:=y) (hR.rho xt x) (hR.rho yt y) h) (by simp only [execOp,hop])
 ·rename_i op t x hop
  exact op_PR hR (dun_sound (hR.rho t x) h) (by simp only [execOp,hop])
 ·rename_i s t x hop
  exact op_PR hR (dconv_sound hR (hR.rho s x) h) (by simp only [execOp,hop])
 ·rename_i t hop
  split at h
  ·rename_i s hd
   obtain ⟨G',h1,h2⟩:=hR.newMap (s:=s)
   refine ⟨_,_,G',_,.inl ?_,h,h2,by rw [hd]; exact h1⟩
   simp [execOp,hop,Instr.makeMap]
  ·exact h.elim
 ·rename_i t x lo hi hop
  exact op_PR hR (dslice_sound (hR.rho t x) (opt_sv hR 3 lo) (opt_sv hR 3 hi) h) (by simp only [execOp,hop]; rfl)
 ·rename_i t x f hop
  exact op_PR hR (dfieldAddr_sound (hR.rho 0 x) h) (by simp only [execOp,hop])
 ·rename_i t x f hop
  exact op_PR hR (dfield_sound (hR.rho t x) h) (by simp only [execOp,hop])
 ·rename_i t x i hop
  exact op_PR hR (dindexAddr_sound (hR.rho t x) (hR.rho 3 i) h) (by simp only [execOp,hop])
 ·rename_i t x i hop
  exact op_PR hR (dindex_sound (hR.rho t x) (hR.rho 3 i) h) (by simp only [execOp,hop])
 ·rename_i t m k ok hop
  exact op_PR hR (dlookup_sound hR (hR.rho t m) (sv_vp (hR.rho 0 k) h.1) h.2) (by simp only [execOp,hop])
 ·rename_i t m k v hop
  obtain ⟨w',st',h1,h2,h3,h4⟩:=mapUpd_sound hR (hR.rho t m) (sv_vp (hR.rho 0 k) h.1) (hR.rho 0 v) h.2
  exact ⟨undef,w',G,_,.inr ⟨rfl,by simp [execOp,hop,h1]⟩,h2,h4,h3.put? (VP.undef _) rfl⟩
 ·rename_i x i hop
  split at h
  ·rename_i s hd; exact op_extract hop hR hd h
  ·exact h.elim
 ·rename_i f args ats hop
  split at h
  ·rename_i x y e1
   have ea : args = #[x,y]:=Array.toList_inj.1 e1
   subst ea
   exact op_over hop hR h.1 h.2
  ·exact h.elim
 ·rename_i b args ats hop
  have hb : ∀ (s : Sem Value),(builtin b ats o.type (args.map fun | .const _ => true | _ => false) (args.map a.eval)) = (do pure (.value (← s)))→execOp a.eval o = (do pure (.value (← s))):=by
   intro s hs
   rw [← hs]
   simp only [execOp,hop,resolve]
   rfl
  split at h
  ·rename_i x t e1 e2
   have ea : args = #[x]:=Array.toList_inj.1 e1
   have et : ats = #[t]:=Array.toList_inj.1 e2
   subst ea et
   exact op_PR hR (dlen_sound hR (hR.rho t x) h) (hb (Builtin.len_ #[t] o.type #[a.eval x]) (by simp [builtin]))
  ·rename_i x t e1 e2
   have ea : args = #[x]:=Array.toList_inj.1 e1
   have et : ats = #[t]:=Array.toList_inj.1 e2
   subst ea et
   exact op_PR hR (dcap_sound (hR.rho t x) h) (hb (Builtin.cap_ #[t] o.type #[a.eval x]) (by simp [builtin]))
  ·rename_i x y t t2 e1 e2
   have ea : args = #[x,y]:=Array.toList_inj.1 e1
   have et : ats = #[t,t2]:=Array.toList_inj.1 e2
   subst ea et
   exact op_copy hop hR h
  ·rename_i x t e1 e2
   have ea : args = #[x]:=Array.toList_inj.1 e1
   have et : ats = #[t]:=Array.toList_inj.1 e2
   subst ea et
   exact op_clear hop hR h
  ·rename_i x y e1
   have ea : args = #[x,y]:=Array.toList_inj.1 e1
   subst ea
   have:=dminmax_sound (P:=P) (mx:=true) (vs:=[a.eval x,a.eval y]) (by rfl) (fun i u v hu hv => by
    match i with
    | 0 => cases hu; cases hv; exact hR.rho 0 x
    | 1 => cases hu; cases hv; exact hR.rho 0 y
    | n + 2 => simp at hu) h ats o.type
   exact op_PR hR this (hb _ (by simp [builtin]))
  ·rename_i x y e1
   have ea : args = #[x,y]:=Array.toList_inj.1 e1
   subst ea
   have:=dminmax_sound (P:=P) (mx:=false) (vs:=[a.eval x,a.eval y]) (by rfl) (fun i u v hu hv => by
    match i with
    | 0 => cases hu; cases hv; exact hR.rho 0 x
    | 1 => cases hu; cases hv; exact hR.rho 0 y
    | n + 2 => simp at hu) h ats o.type
   exact op_PR hR this (hb _ (by simp [builtin]))
  ·rename_i x y t t2 e1 e2
   have ea : args = #[x,y]:=Array.toList_inj.1 e1
   have et : ats = #[t,t2]:=Array.toList_inj.1 e2
   subst ea et
   split at h
   ·rename_i s hd
    split at h
    ·unfold appendObjD at h
     split at h
     ·exact op_appendZ hop hR hd h
     ·exact op_appendObj hop hR hd h
    ·exact op_append hop hR hd h
   ·exact h.elim
  ·rename_i m k t t2 e1 e2
   have ea : args = #[m,k]:=Array.toList_inj.1 e1
   have et : ats = #[t,t2]:=Array.toList_inj.1 e2
   subst ea et
   obtain ⟨w',st',h1,h2,h3,h4⟩:=mapDel_sound (ty:=o.type) (t2:=t2) hR (hR.rho t m) (sv_vp (hR.rho 0 k) h.1) h.2
   refine ⟨.tuple #[],w',G,_,.inl ?_,h2,h4,h3.put? (dv:=.tup []) ⟨#[],rfl,rfl,by intro j c x hc; simp at hc⟩ rfl⟩
   rw [exec_v (hb (Builtin.delete_ #[t,t2] o.type #[a.eval m,a.eval k]) (by simp [builtin])),h1]
   rfl
  ·exact h.elim
 ·exact h.elim
end Go.Ab
