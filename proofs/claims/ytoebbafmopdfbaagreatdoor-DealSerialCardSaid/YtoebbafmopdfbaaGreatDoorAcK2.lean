/- A part of the proof; no condition of its own. -/
import Derived.Test.YtoebbafmopdfbaaGreatDoorAcL4
set_option linter.unusedSimpArgs false
set_option linter.unusedVariables false
/- AcK: The lone machine: from the kit's 'Calls' to a contract,and from a contract's code to 'Calls'. -/
namespace Go.Ab
open Go Go.Conc Go.RowKit
variable {P : Program} {isObj : ObjT} {Γ : Env}
theorem Fits.neu {G : Gh} {w : World} {G' : Gh} {w' : World} {args : List DV} {vs : Array Value} (h : Fits G w args vs) (hk : Keep G w G' w') : Fits G' w' args vs:=⟨h.1,fun j c v a b => (h.2 j c v a b).keep hk⟩
theorem rc_of_calls {f : FuncId} {S : Spec} (hE : Enters P f)
  (h : ∀ (N0 : Nat) (w0 : World) (d : Nat) (G : Gh) (w : World) (H : List HObj) (args : List DV) (vs : Array Value) (K : List HObj→DV→Prop),S H args K→WRel N0 w0 G w H→Fits G w args vs →
   Calls P f vs w fun e w' => ∃ v,e = .returned v∧Back N0 w0 d G w K v w') : RC (loneJ P) f S:=by
 refine ⟨hE,fun N0 w0 d G w H args vs K hS hW hF c cs KK hK dd => ?_⟩
 have hn:=Neu.at G w dd
 obtain ⟨e,w',fr,⟨v,rfl,hb⟩,hc,hfn,hl⟩:=h N0 w0 d G (w.at dd) H args vs K hS (hW.neu hn) (hF.neu hn.keep) (c :: cs)
 have hb' : Back N0 w0 d G w K v w':=by
  obtain ⟨G',H',dv,h1,h2,h3⟩:=hb
  exact ⟨G',H',dv,h1,(hn.ext hW.fresh _).trans h2,h3⟩
 obtain ⟨fr2,cs2,w2,h2,h3⟩:=hK v w' hb' w'.drawn
 have e1 : w'.at w'.drawn = w':=rfl
 rw [e1] at h2
 exact ⟨fr2,cs2,w2,Steps.trans hc (.head (step_leave_returned hl) h2),h3⟩
theorem calls_of_code (hm : P.follows .mixedOrders = true) (hΓ : ∀ f S,Γ f = some S→RC (loneJ P) f S) {f : FuncId} {fn : Func} {c : Code} {n : Nat} {rs : List Nat} (hf : P.funcs[f]? = some fn) (hb : fn.body = some c)
  (hr : fn.results = (rs.map ResultVar.tmp).toArray) (hnt : fn.ntmps = n) (hnd : rs.Nodup) {N0 : Nat} {w0 : World} {d : Nat} {G : Gh} {w : World} {H : List HObj} {args : List DV} {vs : Array Value} {K : List HObj→DV→Prop}
  (h1 : args.length≤n) (h2 : args.all (fun d => match d with | .tup _ => false | _ => true) = true) (h : dwp P isObj Γ (hold c (tag _)) (hold (retQ rs K) (tag _)) (mk n (argSlots 0 args) [] H [])) (hW : WRel N0 w0 G w H) (hF : Fits G w args vs) :
  Calls P f vs w fun e w' => ∃ v,e = .returned v∧Back N0 w0 d G w K v w':=by
 subst hnt
 intro cs
 obtain ⟨hR,hx⟩:=Rel.init (d:=d) (n:=fn.ntmps) hW hF h2
 have hL : Lift N0 w0 (d + 1) G w (dwp P isObj Γ c (retQ rs K)) { tmps:=vs ++ Array.replicate (fn.ntmps - vs.size) undef,defers:=[] } w :=
  Lift.wk (K:=fun st => st = St.init fn.ntmps args H) ⟨_,_,rfl,hx,hR,rfl⟩ fun st e => ⟨_,by rw [e]; exact init_wk h1,h⟩
 have hwp:=dwp_sound (I:=loneJ P) (fn:=f) hm (fun _ _ => trivial) hΓ c hL
 have fin : ∀ (a' : Act) (w' : World),Lift N0 w0 (d + 1) G w (fun st => (rs.all fun r => (decide (r < st.t.length)) && (st.t.getD r .undef).flat) = true∧K st.H (resultD st.t rs)) a' w'→a'.defers = []∧∃ v,ResultsC P fn a'.tmps v∧Back N0 w0 d G w K v w':=by
  rintro a' w' ⟨G',st,⟨h1,h2⟩,h3,h4,h5⟩
  obtain ⟨G2,k1,k2,k3,k4⟩:=h4.back h1 hnd
  exact ⟨h5,_,resultsC_eq hr _,G2,st.H,_,h2,h3.trans k1,k2,k3,k4⟩
 let KK : Frame→List Frame→World→Prop:=fun fr cs' w' => cs' = cs∧fr.fn = f∧∃ v,fr.leaving P w' (.returned v)∧Back N0 w0 d G w K v w'
 have hleave : ∀ (a' : Act) (w' : World) (todo : List Item),(a'.defers = []∧∃ v,ResultsC P fn a'.tmps v∧Back N0 w0 d G w K v w')→(loneJ P).J { (base f).at a' todo with mode:=.returning } cs w' KK:=by
  rintro a' w' todo ⟨hd,v,hrs,hbk⟩
  refine (loneJ P).stop fun dd => ⟨rfl,rfl,v,⟨rfl,hd,rfl,fn,hf,(hrs _).1⟩,?_⟩
  obtain ⟨G',H',dv,k1,k2,k3,k4,k5⟩:=hbk
  have hn:=Neu.at G' w' dd
  exact ⟨G',H',dv,k1,k2.trans (hn.ext k3.fresh _),k3.neu hn,k4.neu hn,k5.neu hn⟩
 have hgo:=hwp (base f) [] cs KK rfl (by simp [base]) fun e a' w' q => by
  cases e with
  | normal => exact (loneJ P).silent (fun w => stepG_end) (hleave a' w' [] (fin a' w' q))
  | ret => exact fun todo => hleave a' w' todo (fin a' w' q)
  | _ => obtain ⟨_,_,h,_⟩:=q; exact h.elim
 obtain ⟨fr',cs',w',hst,⟨rfl,hfn,v,hl,hbk⟩⟩:=hgo w.drawn
 have e1 : w.at w.drawn = w:=rfl
 rw [e1] at hst
 refine ⟨.returned v,w',fr',⟨v,rfl,hbk⟩,?_,hfn,hl⟩
 rw [enter_at vs hf hb]
 exact hst
def HLess (H H' : List HObj) : Prop:=H'.length = H.length∧∀ (i : Nat) (ob' : HObj),H'[i]? = some ob'→∃ ob,H[i]? = some ob∧HWk _root_.id i ob ob'
theorem RC.wk {I : Jd P} {f : FuncId} {S S' : Spec} (h : RC I f S) (hs : ∀ H args K,S' H args K→S H args fun H1 dv => ∃ H2,HLess H1 H2∧K H2 dv) : RC I f S':=by
 refine ⟨h.1,fun N0 w0 d G w H args vs K hS hW hF => (h.2 N0 w0 d G w H args vs _ (hs H args K hS) hW hF).mono I fun v w' hb => ?_⟩
 obtain ⟨G',H1,dv,⟨H2,hl,hK⟩,h2,h3,h4,h5⟩:=hb
 have:=h3.wk (f:=_root_.id) hl.1 hl.2
 rw [Gh.ren_id] at this
 exact ⟨G',H2,dv,hK,h2,this,h4,h5⟩
theorem HLess.set {H : List HObj} {i : Nat} {cs cs' : List DV} (hc : cs'.length = cs.length∧∀ (j : Nat) (c' : DV),cs'[j]? = some c'→∃ c,cs[j]? = some c∧CWk _root_.id (.hp i j) c c') : HLess (H.set i (.cells cs)) (H.set i (.cells cs')):=by
 refine ⟨by simp,fun k ob' h => ?_⟩
 rw [List.getElem?_set] at h ⊢
 split at h
 ·rename_i e; subst e
  split at h
  ·rename_i hlt
   cases h
   exact ⟨.cells cs,by simp [hlt],hc⟩
  ·cases h
 ·rename_i e
  refine ⟨ob',by rw [if_neg e]; exact h,?_⟩
  cases ob' with
  | cells ds => exact ⟨rfl,fun j c' hc => ⟨c',hc,.inl ⟨rfl,rfl⟩⟩⟩
  | map es => rfl
end Go.Ab
/- AcK2: A contract that is the callee's own code: a call walked in place. -/
namespace Go.Ab
open Go Go.Conc Go.RowKit
variable {P : Program} {isObj : ObjT} {Γ : Env}
end Go.Ab
