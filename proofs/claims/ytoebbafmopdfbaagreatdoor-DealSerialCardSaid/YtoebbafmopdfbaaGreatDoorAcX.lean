/- A part of the proof; no condition of its own. -/
import Derived.Test.YtoebbafmopdfbaaGreatDoorAcW
set_option linter.unusedSimpArgs false
set_option linter.unusedVariables false
/- AcX: Regions in the text's order,code,functions: weakest preconditions over abstract states,sound for the machine. -/
namespace Go.Ab
open Go Go.Conc Go.RowKit
abbrev Env:=FuncId→Option Spec
section defs
variable (P : Program) (isObj : ObjT) (Γ : Env)
def argsD (st : St) : List Operand→List TypeId→List DV
 | x :: xs,t :: ts => rho P st t x :: argsD st xs ts
 | x :: xs,[] => rho P st 0 x :: argsD st xs []
 | [],_ => []
def callD (o : Oper) (f : FuncId) (args : List Operand) (ats : List TypeId) (st : St) (K : St→Prop) : Prop :=
 match Γ f with
 | some S => (argsD P st args ats).all DV.flat = true∧S st.H ((argsD P st args ats).map DV.ro) fun H dv => K ((st.called H).put? o.dst dv)
 | none => False
def callC (o : Oper) (q : Nat) (args : List Operand) (ats : List TypeId) (st : St) (K : St→Prop) : Prop :=
 match st.t.getD q .undef with
 | .fn f caps => match Γ f with
  | some S => (argsD P st args ats).all DV.flat = true∧S st.H ((argsD P st args ats).map DV.ro ++ caps.map DV.ro) fun H dv => K ((st.called H).put? o.dst dv)
  | none => False
 | _ => False
def dopC (o : Oper) (st : St) (K : St→Prop) : Prop :=
 match o.op with
 | .call { callee:=.value (.func f),args,argTypes } => match Γ f with
  | some _ => callD P Γ o f args.toList argTypes.toList st K
  | none => dop P isObj o st K
 | .call { callee:=.value (.tmp q),args,argTypes } => callC P Γ o q args.toList argTypes.toList st K
 | _ => dop P isObj o st K
def dwant (ops : Array Oper) (o : Oper) (st : St) : Option Bool :=
 match o.guard with
 | none => some true
 | some (j,b) => match (ops[j]?).bind (·.dst) with
  | some s => match st.t.getD s .undef with
   | .bool b' => some (b' == b)
   | .tup [] => some false
   | _ => none
  | none => none
def dstep (ops : Array Oper) (o : Oper) (st : St) (K : St→Prop) : Prop :=
 match dwant ops o st with
 | some b => (b = true→dopC P isObj Γ o st K)∧(b = false→K (st.put? o.dst (.tup [])))
 | none => False
def dtext (ops : Array Oper) : List Nat→St→(St→Prop)→Prop
 | [],st,K => K st
 | i :: r,st,K => match ops[i]? with
  | some o => dstep P isObj Γ ops o st fun st' => dtext ops r st' K
  | none => False
def forgetL (ks : List Nat) : Nat→List DV→List DV
 | _,[] => []
 | i,x :: r => (if ks.contains i then x else .undef) :: forgetL ks (i + 1) r
def St.forget (st : St) (ks : List Nat) : St:={ st with t:=forgetL ks 0 st.t,lk:=[] }
def St.clean (st : St) : St:={ st with lk:=[] }
end defs
variable {P : Program} {isObj : ObjT} {Γ : Env} {N0 : Nat} {w0 : World} {d : Nat} {G : Gh} {w : World} {st : St} {a : Act}
theorem argsD_sound (hR : Rel N0 w0 d G w st a.tmps) : ∀ (xs : List Operand) (ts : List TypeId),(argsD P st xs ts).length = xs.length∧∀ (j : Nat) (c : DV) (v : Value),(argsD P st xs ts)[j]? = some c→(xs.map a.eval)[j]? = some v→SV G w d c v
 | [],ts => ⟨by simp [argsD],fun j c v h => by simp [argsD] at h⟩
 | x :: xs,t :: ts => by
  obtain ⟨h1,h2⟩:=argsD_sound hR xs ts
  refine ⟨by simp [argsD,h1],fun j c v hc hv => ?_⟩
  cases j with
  | zero => simp [argsD] at hc hv; subst hc hv; exact hR.rho t x
  | succ j => exact h2 j c v (by simpa [argsD] using hc) (by simpa using hv)
 | x :: xs,[] => by
  obtain ⟨h1,h2⟩:=argsD_sound hR xs []
  refine ⟨by simp [argsD,h1],fun j c v hc hv => ?_⟩
  cases j with
  | zero => simp [argsD] at hc hv; subst hc hv; exact hR.rho 0 x
  | succ j => exact h2 j c v (by simpa [argsD] using hc) (by simpa using hv)
theorem dwant_sound {ops : Array Oper} {o : Oper} {b : Bool} (h : dwant ops o st = some b) (hR : Rel N0 w0 d G w st a.tmps) : Region.wanted o (yielded ops a.tmps) = b:=by
 unfold dwant at h
 unfold Region.wanted
 split at h
 ·rename_i hg; rw [hg]; cases h; rfl
 ·rename_i j wb hg
  rw [hg]
  dsimp only
  split at h
  ·rename_i s hs
   have hval : ∀ dv,st.t.getD s .undef = dv→dv ≠ .undef→∃ v,a.tmps[s]? = some v∧SV G w d dv v:=by
    intro dv e hne
    rcases Nat.lt_or_ge s st.t.length with hl | hl
    ·have hl' : s < a.tmps.size:=hR.len ▸ hl
     refine ⟨a.tmps[s],by simp [hl'],?_⟩
     have e2 : st.t.getD s .undef = st.t[s]:=by simp [List.getD,hl]
     rw [← e,e2]
     exact (hR.slots s _ _ (by simp [hl]) (by simp [hl'])).1
    ·simp [List.getD,List.getElem?_eq_none hl] at e; exact absurd e.symm hne
   split at h
   ·rename_i b' hb
    cases h
    obtain ⟨v,hv,hsv⟩:=hval _ hb (by simp)
    obtain rfl:=hsv.bool
    simp only [yielded,hs,Option.bind_some,hv]
    cases b' <;> cases wb <;> rfl
   ·rename_i hb
    cases h
    obtain ⟨v,hv,vs,rfl,hl,_⟩:=hval _ hb (by simp)
    simp only [yielded,hs,Option.bind_some,hv]
    cases wb <;> rfl
   ·cases h
  ·cases h
def Lift (N0 : Nat) (w0 : World) (d : Nat) (Gb : Gh) (wb : World) (K : St→Prop) (a : Act) (w : World) : Prop :=
 ∃ G st,K st∧Ext d Gb wb G w∧Rel N0 w0 d G w st a.tmps∧a.defers = []
theorem Lift.mono {Gb : Gh} {wb : World} {K K' : St→Prop} (h : Lift N0 w0 d Gb wb K a w) (hk : ∀ st,K st→K' st) : Lift N0 w0 d Gb wb K' a w:=by
 obtain ⟨G,st,h1,h2⟩:=h
 exact ⟨G,st,hk st h1,h2⟩
theorem put_defers (a : Act) (x : Option Nat) (v : Value) : (a.put x v).defers = a.defers:=by cases x <;> rfl
theorem step_hat {I : Jd P} (hI : ∀ w e,I.Ok w e) (hΓ : ∀ f S,Γ f = some S→RC I f S) {fn : FuncId} {ops : Array Oper} {i : Nat} {rest : List Nat} {o : Oper} {R : Act→World→Prop} {K : St→Prop} {Gb : Gh} {wb : World} {b : Act}
  (hexec : execOp b.eval o = execOp a.eval o) (hwant : Region.wanted o (yielded ops b.tmps) = Region.wanted o (yielded ops a.tmps)) (hargs : ∀ c,o.op = .call c→c.args.map b.eval = c.args.map a.eval)
  (ho : ops[i]? = some o) (h : Lift N0 w0 d Gb wb (fun st => dstep P isObj Γ ops o st K) a w) (hn : ∀ v w',Lift N0 w0 d Gb wb K (a.put o.dst v) w'→opsJ I fn ops rest R (b.put o.dst v) w') : opsJ I fn ops (i :: rest) R b w:=by
 obtain ⟨G,st,hs,hx,hR,hdf⟩:=h
 unfold dstep at hs
 split at hs
 case h_2 => exact hs.elim
 rename_i bb hb
 have hw:=hwant.trans (dwant_sound hb hR)
 cases bb with
 | false =>
  refine opsJ_unwanted I ho hw (hn _ _ ⟨G,_,hs.2 rfl,hx,?_,by rw [put_defers]; exact hdf⟩)
  exact hR.put? (dv:=.tup []) ⟨#[],rfl,rfl,by intro j c x hc; simp at hc⟩ rfl
 | true =>
  have plain : dop P isObj o st K→opsJ I fn ops (i :: rest) R b w:=fun hs => by
   refine opsJ_cons I ho hw fun d' => ?_
   have hn':=Neu.at G w d'
   obtain ⟨v,w',G',st',hr,hK,hx',hR'⟩:=dop_sound hs (hR.neu hn')
   have hx2:=(hx.trans (hn'.ext hR.heap.fresh d)).trans hx'
   rw [hexec]
   rcases hr with hr | ⟨hv,hr⟩
   ·exact ⟨_,_,hr,fun e _ => hI _ e,hn _ _ ⟨G',st',hK,hx2,hR',by rw [put_defers]; exact hdf⟩⟩
   ·subst hv; exact ⟨_,_,hr,fun e _ => hI _ e,hn _ _ ⟨G',st',hK,hx2,hR',by rw [put_defers]; exact hdf⟩⟩
  have hs:=hs.1 rfl
  unfold dopC at hs
  split at hs
  ·rename_i f args ats hop
   unfold callD at hs
   split at hs
   case h_2 =>
    exact plain hs
   rename_i S hS
   first | dsimp only at hs | skip
   obtain ⟨hfl,hs⟩:=hs
   obtain ⟨hE,hrc⟩:=hΓ f S hS
   have ha:=argsD_sound (P:=P) hR args.toList ats.toList
   have hfits : Fits G w ((argsD P st args.toList ats.toList).map DV.ro) (args.map a.eval):=by
    refine ⟨by simp [ha.1],fun j c v hc hv => ?_⟩
    rw [List.getElem?_map] at hc
    obtain ⟨c0,hc0,rfl⟩:=Option.map_eq_some_iff.1 hc
    exact (sv_flat (ha.2 j c0 v hc0 (by simpa using hv)) (List.all_eq_true.1 hfl c0 (List.mem_of_getElem? hc0))).ro
   refine opsJ_fn ho hw hop hE (by rw [hargs _ hop]; exact hrc N0 w0 d G w st.H _ _ _ hs hR.heap hfits) fun v w' hb => hn v w' ?_
   obtain ⟨G',H',dv,hK,hx',hW,hsv,hso⟩:=hb
   have hR':=hR.called hx' hW
   cases hd : o.dst with
   | none => rw [hd] at hK; exact ⟨G',_,hK,hx.trans (hx'.mono (Nat.le_succ d)),hR',hdf⟩
   | some s =>
    rw [hd] at hK
    obtain ⟨G2,h1,h2⟩:=hR'.place (s:=s) hsv hso
    exact ⟨G2,_,hK,(hx.trans (hx'.mono (Nat.le_succ d))).trans h2,h1,hdf⟩
  ·rename_i q args ats hop
   unfold callC at hs
   split at hs
   case h_2 => exact hs.elim
   rename_i f caps hq
   split at hs
   case h_2 => exact hs.elim
   rename_i S hS
   obtain ⟨hfl,hs⟩:=hs
   obtain ⟨hE,hrc⟩:=hΓ f S hS
   have hql : q < st.t.length:=by
    rcases Nat.lt_or_ge q st.t.length with h | h
    ·exact h
    ·simp [List.getD,List.getElem?_eq_none h] at hq
   have hql' : q < a.tmps.size:=hR.len ▸ hql
   have hsv:=(hR.slots q (.fn f caps) a.tmps[q] (by rw [← hq]; simp [List.getD,hql]) (by simp [hql'])).1
   obtain ⟨vs,hlen,hcap,hval⟩ : ∃ vs : Array Value,caps.length = vs.size∧(∀ (j : Nat) (c : DV) (v : Value),caps[j]? = some c→vs[j]? = some v→VP G w c v)∧a.tmps[q] = .func (.func f) #[] vs:=by
    generalize a.tmps[q] = x at hsv
    have h : VP G w (.fn f caps) x:=hsv
    cases h with
    | fn h1 h2 => exact ⟨_,h1,h2,rfl⟩
   have hev : a.eval (.tmp q) = .func (.func f) #[] vs:=by
    rw [← hval]
    simp [Act.eval,hql']
   have ha:=argsD_sound (P:=P) hR args.toList ats.toList
   have hfits : Fits G w ((argsD P st args.toList ats.toList).map DV.ro ++ caps.map DV.ro) (args.map a.eval ++ vs):=by
    have hl1 : ((argsD P st args.toList ats.toList).map DV.ro).length = (args.map a.eval).size:=by simp [ha.1]
    refine ⟨by simp [ha.1,hlen],fun j c v hc hv => ?_⟩
    rcases Nat.lt_or_ge j (args.map a.eval).size with hj | hj
    ·rw [List.getElem?_append_left (by omega),List.getElem?_map] at hc
     rw [Array.getElem?_append_left hj] at hv
     obtain ⟨c0,hc0,rfl⟩:=Option.map_eq_some_iff.1 hc
     exact (sv_flat (ha.2 j c0 v hc0 (by simpa using hv)) (List.all_eq_true.1 hfl c0 (List.mem_of_getElem? hc0))).ro
    ·rw [List.getElem?_append_right (by omega),List.getElem?_map] at hc
     rw [Array.getElem?_append_right hj] at hv
     obtain ⟨c0,hc0,rfl⟩:=Option.map_eq_some_iff.1 hc
     exact (hcap _ c0 v hc0 (by rw [hl1]; exact hv)).ro
   refine opsJ_clo hexec ho hw hop hev hE (hrc N0 w0 d G w st.H _ _ _ hs hR.heap hfits) fun v w' hb => hn v w' ?_
   obtain ⟨G',H',dv,hK,hx',hW,hsv,hso⟩:=hb
   have hR':=hR.called hx' hW
   cases hd : o.dst with
   | none => rw [hd] at hK; exact ⟨G',_,hK,hx.trans (hx'.mono (Nat.le_succ d)),hR',hdf⟩
   | some s =>
    rw [hd] at hK
    obtain ⟨G2,h1,h2⟩:=hR'.place (s:=s) hsv hso
    exact ⟨G2,_,hK,(hx.trans (hx'.mono (Nat.le_succ d))).trans h2,h1,hdf⟩
  ·exact plain hs
theorem step_sound {I : Jd P} (hI : ∀ w e,I.Ok w e) (hΓ : ∀ f S,Γ f = some S→RC I f S) {fn : FuncId} {ops : Array Oper} {i : Nat} {rest : List Nat} {o : Oper} {R : Act→World→Prop} {K : St→Prop} {Gb : Gh} {wb : World}
  (ho : ops[i]? = some o) (h : Lift N0 w0 d Gb wb (fun st => dstep P isObj Γ ops o st K) a w) (hn : ∀ v w',Lift N0 w0 d Gb wb K (a.put o.dst v) w'→opsJ I fn ops rest R (a.put o.dst v) w') : opsJ I fn ops (i :: rest) R a w :=
 step_hat hI hΓ rfl rfl (fun _ _ => rfl) ho h hn
theorem dtext_sound {I : Jd P} (hI : ∀ w e,I.Ok w e) (hΓ : ∀ f S,Γ f = some S→RC I f S) {fn : FuncId} {ops : Array Oper} {K : St→Prop} {Gb : Gh} {wb : World} : ∀ (todo : List Nat) {a : Act} {w : World},
  Lift N0 w0 d Gb wb (fun st => dtext P isObj Γ ops todo st K) a w→opsJ I fn ops todo (Lift N0 w0 d Gb wb K) a w
 | [],a,w,h => opsJ_nil I h
 | i :: r,a,w,h => by
  cases ho : ops[i]? with
  | none => obtain ⟨G,st,hs,_⟩:=h; simp only [dtext,ho] at hs
  | some o => exact step_sound hI hΓ ho (h.mono fun st hs => by simpa only [dtext,ho] using hs) fun v w' h' => dtext_sound hI hΓ r h'
theorem StWk.clean : StWk id d st st.clean :=
 ⟨⟨rfl,fun s dv' h => ⟨dv',h,.refl _ _⟩⟩,fun s g cs' h => ⟨cs',h,rfl,fun j c' hc => ⟨c',hc,.refl _ _⟩⟩,fun _ => Nat.le_refl _,⟨rfl,fun id ob' ho => ⟨ob',ho,by
  cases ob' with
  | cells cs => exact ⟨rfl,fun j c' hc => ⟨c',hc,.refl _ _⟩⟩
  | map es => rfl⟩⟩,fun _ hx => by simp [St.clean] at hx⟩
theorem forgetL_spec (ks : List Nat) : ∀ (l : List DV) (i : Nat),(forgetL ks i l).length = l.length∧∀ (s : Nat) (dv' : DV),(forgetL ks i l)[s]? = some dv'→∃ dv,l[s]? = some dv∧(dv' = dv∨dv' = .undef)
 | [],i => ⟨rfl,fun s dv' h => by simp [forgetL] at h⟩
 | x :: r,i => by
  obtain ⟨h1,h2⟩:=forgetL_spec ks r (i + 1)
  refine ⟨by simp [forgetL,h1],fun s dv' h => ?_⟩
  cases s with
  | zero => simp only [forgetL,List.getElem?_cons_zero,Option.some.injEq] at h; refine ⟨x,rfl,?_⟩; subst h; split <;> simp
  | succ s => exact h2 s dv' (by simpa [forgetL] using h)
theorem StWk.forget (ks : List Nat) : StWk id d st (st.forget ks) :=
 ⟨⟨(forgetL_spec ks st.t 0).1,fun s dv' h => by
  obtain ⟨dv,h1,h2⟩:=(forgetL_spec ks st.t 0).2 s dv' h
  refine ⟨dv,h1,?_⟩
  rcases h2 with rfl | rfl
  ·exact .refl _ _
  ·exact .inr (.inr rfl)⟩,fun s g cs' h => ⟨cs',h,rfl,fun j c' hc => ⟨c',hc,.refl _ _⟩⟩,fun _ => Nat.le_refl _,⟨rfl,fun id ob' ho => ⟨ob',ho,by
  cases ob' with
  | cells cs => exact ⟨rfl,fun j c' hc => ⟨c',hc,.refl _ _⟩⟩
  | map es => rfl⟩⟩,fun _ hx => by simp [St.forget] at hx⟩
theorem Lift.wk {Gb : Gh} {wb : World} {K K' : St→Prop} (h : Lift N0 w0 d Gb wb K a w) (hk : ∀ st,K st→∃ st',StWk id d st st'∧K' st') : Lift N0 w0 d Gb wb K' a w:=by
 obtain ⟨G,st,h1,h2,h3,h4⟩:=h
 obtain ⟨st',h5,h6⟩:=hk st h1
 have:=h3.wk h5
 rw [Gh.ren_id] at this
 exact ⟨G,st',h6,h2,this,h4⟩
end Go.Ab
