/- A part of the proof; no condition of its own. -/
import Derived.Test.YtoebbafmopdfbaaGreatDoorAcX2
set_option linter.unusedSimpArgs false
set_option linter.unusedVariables false
/- AcV: Code and functions: weakest preconditions over abstract states,sound for the machine. -/
namespace Go.Ab
open Go Go.Conc Go.RowKit
section defs
variable (P : Program) (isObj : ObjT) (Γ : Env)
def loopP (body : (Exit→St→Prop)→St→Prop) (Q : Exit→St→Prop) : Nat→St→Prop
 | 0,st => ∃ (ks : List Nat) (M : Nat→St→Prop) (n : Nat),M n (st.forget ks)∧∀ n st,M n st→body (fun e st => match e with | .normal => ∃ m,m < n∧M m (st.forget ks) | e => Q e st) st
 | u + 1,st => body (fun e st => match e with | .normal => loopP body Q u st | e => Q e st) st
def dwp : Code→(Exit→St→Prop)→St→Prop
 | .skip,Q,st => Q .normal st
 | .label _,Q,st => Q .normal st
 | .ret,Q,st => Q .ret st
 | .exit id,Q,st => Q (.exit id) st
 | .seq x y,Q,st => dwp x (fun e st => match e with | .normal => dwp y Q st | e => Q e st) st
 | .cond c x y,Q,st => match rho P st 0 c with
  | .bool b => (b = true→dwp x Q st)∧(b = false→dwp y Q st)
  | _ => False
 | .block id c,Q,st => dwp c (fun e st => match e with | .exit i => if i = id then Q .normal st else Q (.exit i) st | e => Q e st) st
 | .loop c,Q,st => ∃ u,loopP (fun Q st => dwp c Q st) Q u st
 | .region _ ops false,Q,st => dtextS P isObj Γ (dsts ops) ops.toList st.clean (Q .normal)
 | .scope c,Q,st => dwp c Q st
 | .region _ ops true,Q,st => ∃ eff pl,drawOk ops eff = true∧planOf ops eff (ops.size + 1) [] = pl∧runPlan P isObj Γ (dsts ops) ops.toList pl st.clean (Q .normal)
 | _,_,_ => False
end defs
variable {P : Program} {isObj : ObjT} {Γ : Env} {N0 : Nat} {w0 : World} {d : Nat} {G : Gh} {w : World} {st : St} {a : Act}
theorem wpJ_scope (I : Jd P) {fn : FuncId} {Q : Exit→Act→World→Prop} {c : Code} (h : wpJ I fn c Q a w) : wpJ I fn (.scope c) Q a w:=by
 intro b k cs K hb hk hc
 refine I.silent (fr':=b.at a (.code c :: .inScope c :: k)) (cs':=cs) (fun w => by simp [G,stepG,stepG.exec,Frame.at]) ?_
 refine h b (.inScope c :: k) cs K hb hk fun e a' w' q => ?_
 cases e with
 | normal => exact I.silent (fr':=b.at a' k) (cs':=cs) (fun w => by simp [G,stepG,stepG.exec,Frame.at]) (hc _ _ _ q)
 | exit id =>
  obtain ⟨k',hk',hg⟩:=hc _ _ _ q
  exact ⟨k',by simp [exitTo,hk'],hg⟩
 | ret => exact fun todo => hc _ _ _ q todo
 | goto l => exact hc _ _ _ q
 | panic ch => exact hc _ _ _ q
 | outgrown => exact hc _ _ _ q
def loopJ (I : Jd P) (fn : FuncId) (c : Code) (Q : Exit→Act→World→Prop) (a : Act) (w : World) : Prop :=
 ∀ (b : Frame) (k : List Item) (cs : List Frame) (K : Frame→List Frame→World→Prop),b.fn = fn→b.kind ≠ .early →
  (∀ e a' w',Q e a' w'→After I K b k cs e a' w')→I.J (b.at a (.code c :: .inLoop c :: k)) cs w K
theorem wpJ_enter (I : Jd P) {fn : FuncId} {c : Code} {Q : Exit→Act→World→Prop} (h : loopJ I fn c Q a w) : wpJ I fn (.loop c) Q a w :=
 fun b k cs K hb hk hc => I.silent (fun w => stepG_loop) (h b k cs K hb hk hc)
theorem loopJ_round (I : Jd P) {fn : FuncId} {c : Code} {Q : Exit→Act→World→Prop} (h : wpJ I fn c (fun e a' w' => match e with | .normal => loopJ I fn c Q a' w' | e => Q e a' w') a w) : loopJ I fn c Q a w:=by
 intro b k cs K hb hk hc
 refine h b (.inLoop c :: k) cs K hb hk fun e a' w' q => ?_
 cases e with
 | normal => exact I.silent (fun w => stepG_inLoop) (q b k cs K hb hk hc)
 | exit id => exact (hc _ _ _ q).push I rfl (by simp)
 | ret => exact (hc _ _ _ q).push I (x:=.inLoop c) rfl (by simp)
 | goto l => exact hc _ _ _ q
 | panic ch => exact hc _ _ _ q
 | outgrown => exact hc _ _ _ q
theorem loopJ_inv (I : Jd P) {fn : FuncId} {c : Code} {Q : Exit→Act→World→Prop} (M : Nat→Act→World→Prop)
  (round : ∀ n a w,M n a w→wpJ I fn c (fun e a' w' => match e with | .normal => ∃ m,m < n∧M m a' w' | e => Q e a' w') a w) : ∀ n a w,M n a w→loopJ I fn c Q a w:=by
 intro n
 induction n using Nat.strongRecOn with
 | _ n ih =>
  intro a w h
  refine loopJ_round I ((round n a w h).mono I fun e a' w' q => ?_)
  cases e with
  | normal => obtain ⟨m,hm,hM⟩:=q; exact ih m hm a' w' hM
  | _ => exact q
theorem dwp_sound {I : Jd P} (hm : P.follows .mixedOrders = true) (hI : ∀ w e,I.Ok w e) (hΓ : ∀ f S,Γ f = some S→RC I f S) {fn : FuncId} {Gb : Gh} {wb : World} : ∀ (c : Code) {Q : Exit→St→Prop} {a : Act} {w : World},
  Lift N0 w0 d Gb wb (dwp P isObj Γ c Q) a w→wpJ I fn c (fun e => Lift N0 w0 d Gb wb (Q e)) a w:=by
 intro c
 induction c with
 | skip => intro Q a w h; exact wpJ_skip I h
 | label l => intro Q a w h; exact wpJ_label I h
 | ret => intro Q a w h; exact wpJ_ret I h
 | exit id => intro Q a w h; exact wpJ_exit I h
 | seq x y ihx ihy =>
  intro Q a w h
  refine wpJ_seq I ((ihx h).mono I fun e a' w' q => ?_)
  cases e <;> first | exact ihy q | exact q
 | cond c x y ihx ihy =>
  intro Q a w h
  obtain ⟨G,st,hs,hx,hR,hd⟩:=h
  simp only [dwp] at hs
  split at hs
  ·rename_i b hb
   have hv:=hR.rho (P:=P) 0 c
   rw [hb] at hv
   refine wpJ_cond I hv.bool ?_
   cases b with
   | true => exact ihx ⟨G,st,hs.1 rfl,hx,hR,hd⟩
   | false => exact ihy ⟨G,st,hs.2 rfl,hx,hR,hd⟩
  ·exact hs.elim
 | block id c ih =>
  intro Q a w h
  refine wpJ_block I ((ih h).mono I fun e a' w' q => ?_)
  cases e with
  | exit i =>
   dsimp only
   by_cases hi : i = id
   ·rw [if_pos hi]; exact q.mono fun st hs => by simpa only [hi,if_true] using hs
   ·rw [if_neg hi]; exact q.mono fun st hs => by simpa only [hi,if_false] using hs
  | _ => exact q
 | loop c ih =>
  intro Q a w h
  obtain ⟨G,st,⟨u,hu⟩,hx,hR,hd⟩:=h
  refine wpJ_enter I ?_
  have key : ∀ (u : Nat) (a : Act) (w : World),Lift N0 w0 d Gb wb (loopP (fun Q st => dwp P isObj Γ c Q st) Q u) a w→loopJ I fn c (fun e => Lift N0 w0 d Gb wb (Q e)) a w:=by
   intro u
   induction u with
   | zero =>
    rintro a w ⟨G,st,⟨ks,M,n,h0,hM⟩,hx,hR,hd⟩
    have hwk : ∀ {K : St→Prop} {a w},Lift N0 w0 d Gb wb (fun st => K (st.forget ks)) a w→Lift N0 w0 d Gb wb K a w:=fun h => h.wk fun st hs => ⟨_,StWk.forget ks,hs⟩
    refine loopJ_inv I (fun n a w => Lift N0 w0 d Gb wb (M n) a w) (fun n a w hL => ?_) n a w (hwk ⟨G,st,h0,hx,hR,hd⟩)
    refine (ih (hL.mono fun st hs => hM n st hs)).mono I fun e a' w' q => ?_
    cases e with
    | normal =>
     obtain ⟨G,st,⟨m,hm,hMm⟩,hr⟩:=q
     exact ⟨m,hm,hwk ⟨G,st,hMm,hr⟩⟩
    | _ => exact q
   | succ u ihu =>
    intro a w hL
    refine loopJ_round I ((ih (hL.mono fun st hs => hs)).mono I fun e a' w' q => ?_)
    cases e with
    | normal => exact ihu a' w' q
    | _ => exact q
  exact key u a w ⟨G,st,hu,hx,hR,hd⟩
 | region id ops draw =>
  intro Q a w h
  cases draw with
  | false =>
   simp only [dwp,dtextS_text] at h
   exact wpJ_region I (dtext_sound hI hΓ _ (h.wk fun st hs => ⟨_,StWk.clean,hs⟩))
  | true => obtain ⟨G,st,⟨eff,pl,hok,hpl,hs⟩,hx,hR,hd⟩:=h; subst hpl; rw [runPlan_eq] at hs; exact draw_region (fuel:=ops.size + 1) hI hΓ hm hok (Lift.wk ⟨G,st,hs,hx,hR,hd⟩ fun st hs => ⟨_,StWk.clean,hs⟩) fun a w h => h
 | scope c ih => intro Q a w h; exact wpJ_scope I (ih h)
 | _ => intro Q a w h; obtain ⟨G,st,hs,_⟩:=h; exact hs.elim
/-! ### functions -/
def retQ (rs : List Nat) (K : List HObj→DV→Prop) : Exit→St→Prop
 | .normal,st | .ret,st => (rs.all fun r => (decide (r < st.t.length)) && (st.t.getD r .undef).flat) = true∧K st.H (resultD st.t rs)
 | _,_ => False
end Go.Ab
