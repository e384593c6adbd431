/- A part of the proof; no condition of its own. -/
import Derived.Test.YtoebbafmopdfbaaGreatDoorAcL3
set_option linter.unusedSimpArgs false
set_option linter.unusedVariables false
/- AcL4: Regions that draw their order,for 'simp'. -/
namespace Go.Ab
open Go Go.Conc Go.RowKit
section
variable {P : Program} {isObj : ObjT} {Γ : Env}
def ex (A F : DV→Prop) : Prop:=∃ dv,A dv∧F dv
theorem ex_eq {v : DV} {F : DV→Prop} : ex (fun dv => dv = v) F = F v:=by simp [ex]
theorem ex_and {p : Prop} {A F : DV→Prop} : ex (fun dv => p∧A dv) F = (p∧ex A F):=by simp [ex,and_assoc]
def rpQ (P : Program) (isObj : ObjT) (Γ : Env) (ds : List (Option Nat)) (l0 : List Oper) : List Oper→Nat→Plan→St→(St→Prop)→Prop
 | [],_,_,_,_ => False
 | o :: _,0,next,st,K => match o.dst with
  | some s => gstep ds o st (fun st => ex (fun dv => dq P o st fun x => dv = x) fun dv => runPlan P isObj Γ ds l0 next (st.put s dv) K) (fun st => runPlan P isObj Γ ds l0 next (st.put s (.tup [])) K)
  | none => False
 | _ :: r,k + 1,next,st,K => rpQ P isObj Γ ds l0 r k next st K
theorem rpQ_eq {ds : List (Option Nat)} {l0 : List Oper} {next : Plan} {st : St} {K : St→Prop} : ∀ (l : List Oper) (i : Nat),rpQ P isObj Γ ds l0 l i next st K = (match l[i]? with
  | some o => match o.dst with
   | some s => gstep ds o st (fun st => ∃ dv,dq P o st (dv = ·)∧runPlan P isObj Γ ds l0 next (st.put s dv) K) (fun st => runPlan P isObj Γ ds l0 next (st.put s (.tup [])) K)
   | none => False
  | none => False)
 | [],i => by simp [rpQ]
 | o :: r,0 => rfl
 | o :: r,k + 1 => by simp only [rpQ,List.getElem?_cons_succ,rpQ_eq r k]
def rcW (P : Program) (ds : List (Option Nat)) : List Oper→Nat→St→Prop
 | [],_,_ => True
 | o :: _,0,st => match o.dst with
  | some s => gstep ds o st (fun st' => dq P o st' (fun x => st.t.getD s .undef = x)) (fun _ => st.t.getD s .undef = .tup [])
  | none => True
 | _ :: r,k + 1,st => rcW P ds r k st
def rcA (P : Program) (ds : List (Option Nat)) (l0 : List Oper) : List Nat→St→Prop
 | [],_ => True
 | j :: r,st => rcW P ds l0 j st∧rcA P ds l0 r st
theorem rcW_eq {ops : Array Oper} {st : St} : ∀ (l : List Oper) (j k : Nat),ops.toList.drop k = l→rcW P (dsts ops) l j st = recheckAt P ops st (k + j)
 | [],j,k,h => by
  have : ops.size≤k:=by
   have:=congrArg List.length h
   simp at this; omega
  have e : ops[k + j]? = none:=Array.getElem?_eq_none (by omega)
  simp [rcW,recheckAt,e]
 | o :: r,0,k,h => by
  have ho : ops[k]? = some o:=by
   have : (ops.toList.drop k)[0]? = some o:=by rw [h]; rfl
   simpa using this
  simp only [rcW,recheckAt,Nat.add_zero,ho]
  cases hs : o.dst with
  | none => rfl
  | some s => simp only [gstep_eq,dqw]; rfl
 | o :: r,j + 1,k,h => by
  have hr : ops.toList.drop (k + 1) = r:=by rw [← List.tail_drop,h]; rfl
  simp only [rcW,rcW_eq r j (k + 1) hr]
  congr 1; omega
theorem rcA_eq {ops : Array Oper} {st : St} : ∀ (fl : List Nat),rcA P (dsts ops) ops.toList fl st = allP (recheckAt P ops st) fl
 | [] => rfl
 | j :: r => by simp only [rcA,allP,rcA_eq r,rcW_eq ops.toList j 0 rfl,Nat.zero_add]
def slW : List Oper→Nat→Option Nat
 | [],_ => none
 | o :: _,0 => o.dst
 | _ :: r,k + 1 => slW r k
def slL (l : List Oper) : List Nat→List Nat
 | [] => []
 | j :: r => match slW l j with
  | some s => s :: slL l r
  | none => slL l r
theorem slW_eq : ∀ (l : List Oper) (j : Nat),slW l j = (l[j]?).bind (·.dst)
 | [],j => by simp [slW]
 | o :: r,0 => rfl
 | o :: r,j + 1 => by simp only [slW,List.getElem?_cons_succ,slW_eq r j]
theorem slL_eq (l : List Oper) : ∀ fl : List Nat,slL l fl = slotsOf l.toArray fl
 | [] => rfl
 | j :: r => by
  have:=slL_eq l r
  simp only [slL,slW_eq,this,slotsOf,List.filterMap_cons,List.getElem?_toArray]
  cases (l[j]?).bind (·.dst) <;> rfl
def rpA (P : Program) (isObj : ObjT) (Γ : Env) (ds : List (Option Nat)) (l0 : List Oper) : List Oper→Nat→List Nat→Plan→St→(St→Prop)→Prop
 | [],_,_,_,_,_ => False
 | o :: _,0,fl,next,st,K => gstep ds o st (fun st => dopC P isObj Γ o st fun st' => rcA P ds l0 fl st'∧runPlan P isObj Γ ds l0 next (unlinkS (slL l0 fl) st') K) (fun st => rcA P ds l0 fl (st.put? o.dst (.tup []))∧runPlan P isObj Γ ds l0 next (unlinkS (slL l0 fl) (st.put? o.dst (.tup []))) K)
 | _ :: r,k + 1,fl,next,st,K => rpA P isObj Γ ds l0 r k fl next st K
theorem rpA_eq {l0 : List Oper} {fl : List Nat} {next : Plan} {st : St} {K : St→Prop} : ∀ (l : List Oper) (i : Nat),rpA P isObj Γ (l0.map (·.dst)) l0 l i fl next st K = (match l[i]? with
  | some o => gstep (l0.map (·.dst)) o st (fun st => dopC P isObj Γ o st fun st' => allP (recheckAt P l0.toArray st') fl∧runPlan P isObj Γ (l0.map (·.dst)) l0 next (unlinkS (slotsOf l0.toArray fl) st') K) (fun st => allP (recheckAt P l0.toArray (st.put? o.dst (.tup []))) fl∧runPlan P isObj Γ (l0.map (·.dst)) l0 next (unlinkS (slotsOf l0.toArray fl) (st.put? o.dst (.tup []))) K)
  | none => False)
 | [],i => by simp [rpA]
 | o :: r,0 => by
  have h1 : ∀ st,rcA P (l0.map (·.dst)) l0 fl st = allP (recheckAt P l0.toArray st) fl:=fun st => rcA_eq (ops:=l0.toArray) fl
  simp only [rpA,h1,slL_eq,List.getElem?_cons_zero]
 | o :: r,k + 1 => by simp only [rpA,List.getElem?_cons_succ,rpA_eq r k]
variable {ds : List (Option Nat)} {l0 r : List Oper} {o : Oper} {i k j : Nat} {next : Plan} {st : St} {K : St→Prop} {fl : List Nat}
theorem rp_done : runPlan P isObj Γ ds l0 (hold .done (tag _)) st K = K st:=by simp only [hold,runPlan]
theorem rp_quiet : runPlan P isObj Γ ds (hold l0 (tag _)) (hold (.quiet i next) (tag _)) st K = rpQ P isObj Γ ds (hold l0 (tag _)) (hold l0 (tag _)) i (hold next (tag _)) st K:=by
 simp only [hold,runPlan]
 rw [rpQ_eq]
 cases l0[i]? with
 | none => rfl
 | some o =>
  dsimp only
  cases o.dst <;> rfl
theorem rpQ_succ : rpQ P isObj Γ ds l0 (hold (o :: r) (tag _)) (k + 1) next st K = rpQ P isObj Γ ds l0 (hold r (tag _)) k next st K:=_root_.id rfl
theorem rpQ_zero {s : Nat} {op : Op} {t : TypeId} {p : String} {af : Array Edge} {g : Option (Nat × Bool)} : rpQ P isObj Γ ds l0 (hold (⟨some s,op,t,p,af,g⟩ :: r) (tag _)) 0 next st K =
  gstep ds (hold ⟨some s,op,t,p,af,g⟩ (tag _)) st (hold (fun st => ex (fun dv => dq P (hold ⟨some s,op,t,p,af,g⟩ (tag _)) st fun x => dv = x) (hold (fun dv => runPlan P isObj Γ ds l0 next (st.put s dv) K) (tag _))) (tag _)) (hold (fun st => runPlan P isObj Γ ds l0 next (st.put s (.tup [])) K) (tag _)):=_root_.id rfl
theorem rp_acts {al : List (Nat × List Nat × Plan)} : runPlan P isObj Γ ds l0 (hold (.acts al) (tag _)) st K = runPlan.runAlts P isObj Γ ds l0 (hold al (tag _)) st K:=by simp only [hold,runPlan]
theorem ra_nil : runPlan.runAlts P isObj Γ ds l0 (hold [] (tag _)) st K = True:=by simp only [hold,runPlan.runAlts]
theorem ra_cons {al : List (Nat × List Nat × Plan)} : runPlan.runAlts P isObj Γ (hold (l0.map (·.dst)) (tag _)) (hold l0 (tag _)) (hold ((i,fl,next) :: al) (tag _)) st K =
  (rpA P isObj Γ (hold (l0.map (·.dst)) (tag _)) (hold l0 (tag _)) (hold l0 (tag _)) i fl (hold next (tag _)) st K∧runPlan.runAlts P isObj Γ (hold (l0.map (·.dst)) (tag _)) (hold l0 (tag _)) (hold al (tag _)) st K):=by
 simp only [hold,runPlan.runAlts]
 rw [rpA_eq]
 cases l0[i]? <;> rfl
theorem rpA_succ : rpA P isObj Γ ds l0 (hold (o :: r) (tag _)) (k + 1) fl next st K = rpA P isObj Γ ds l0 (hold r (tag _)) k fl next st K:=_root_.id rfl
theorem rpA_zero : rpA P isObj Γ ds l0 (hold (o :: r) (tag _)) 0 fl next st K = gstep ds (hold o (tag _)) st (hold (fun st => dopC P isObj Γ (hold o (tag _)) st (hold (fun st' => rcA P ds l0 fl st'∧runPlan P isObj Γ ds l0 next (unlinkS (slL l0 fl) st') K) (tag _))) (tag _))
  (hold (fun st => rcA P ds l0 fl (st.put? o.dst (.tup []))∧runPlan P isObj Γ ds l0 next (unlinkS (slL l0 fl) (st.put? o.dst (.tup []))) K) (tag _)):=_root_.id rfl
theorem rcA_nil : rcA P ds l0 [] st = True:=_root_.id rfl
theorem rcA_cons : rcA P ds l0 (j :: fl) st = (rcW P ds l0 j st∧rcA P ds l0 fl st):=_root_.id rfl
theorem rcW_succ : rcW P ds (hold (o :: r) (tag _)) (k + 1) st = rcW P ds (hold r (tag _)) k st:=_root_.id rfl
theorem rcW_zero {s : Nat} {op : Op} {t : TypeId} {p : String} {af : Array Edge} {g : Option (Nat × Bool)} : rcW P ds (hold (⟨some s,op,t,p,af,g⟩ :: r) (tag _)) 0 st =
  gstep ds (hold ⟨some s,op,t,p,af,g⟩ (tag _)) st (hold (fun st' => dq P (hold ⟨some s,op,t,p,af,g⟩ (tag _)) st' (fun x => st.t.getD s .undef = x)) (tag _)) (hold (fun _ => st.t.getD s .undef = .tup []) (tag _)):=_root_.id rfl
theorem slL_nil {l : List Oper} : slL l [] = []:=_root_.id rfl
theorem slL_cons {l : List Oper} : slL l (j :: fl) = (match slW l j with | some s => s :: slL l fl | none => slL l fl):=_root_.id rfl
theorem slW_succ : slW (hold (o :: r) (tag _)) (k + 1) = slW (hold r (tag _)) k:=_root_.id rfl
theorem slW_zero : slW (hold (o :: r) (tag _)) 0 = o.dst:=_root_.id rfl
theorem w_draw {Q : Exit→St→Prop} {id : Nat} (eff : List Nat) (pl : Plan) (hok : drawOk l0.toArray eff = true) (hpl : planOf l0.toArray eff (l0.length + 1) [] = pl)
  (h : runPlan P isObj Γ (hold (l0.map (·.dst)) (tag _)) (hold l0 (tag _)) (hold pl (tag _)) st.clean (hold (Q .normal) (tag _))) : dwp P isObj Γ (hold (.region id l0.toArray true) (tag _)) Q st:=⟨eff,pl,hok,by simpa using hpl,h⟩
end
/-! ### quiet operations,spelt out -/
section
variable {P : Program} {s : Nat} {t xt yt : TypeId} {p : String} {af : Array Edge} {g : Option (Nat × Bool)} {st : St} {K : DV→Prop} {x y c a i m k : Operand} {dst : Option Nat}
theorem q_move : dq P (hold ⟨dst,.move x,t,p,af,g⟩ (tag _)) st K = K (rho P st t x).roA:=_root_.id rfl
theorem q_assign : dq P (hold ⟨dst,.assign x,t,p,af,g⟩ (tag _)) st K = K (rho P st t x).roA:=_root_.id rfl
theorem q_pick : dq P (hold ⟨dst,.pick c x y,t,p,af,g⟩ (tag _)) st K = dpick (rho P st t c) (rho P st t x) (rho P st t y) K:=by
 simp only [dq,hold]
 cases rho P st t c <;> rfl
theorem q_load {e : TypeId} : dq P (hold ⟨dst,.load e a,t,p,af,g⟩ (tag _)) st K = dload P st e (rho P st 0 a) K:=_root_.id rfl
theorem q_nilCheck : dq P (hold ⟨dst,.nilCheck x,t,p,af,g⟩ (tag _)) st K = dnil (rho P st 0 x) K:=by
 simp only [dq,hold]
 cases rho P st 0 x <;> rfl
theorem q_bin {op : BinOp} : dq P (hold ⟨dst,.binOp op xt x y yt,t,p,af,g⟩ (tag _)) st K = dbin P op xt (rho P st xt x) (rho P st yt y) K:=_root_.id rfl
theorem q_un {op : UnOp} : dq P (hold ⟨dst,.unOp op xt x,t,p,af,g⟩ (tag _)) st K = dun op (rho P st xt x) K:=_root_.id rfl
theorem q_conv : dq P (hold ⟨dst,.convert xt yt x,t,p,af,g⟩ (tag _)) st K = dconv P st xt yt (rho P st xt x) K:=_root_.id rfl
theorem q_fieldAddr {f : Nat} : dq P (hold ⟨dst,.fieldAddr xt x f,t,p,af,g⟩ (tag _)) st K = dfieldAddr P xt (rho P st 0 x) f K:=_root_.id rfl
theorem q_field {f : Nat} : dq P (hold ⟨dst,.field xt x f,t,p,af,g⟩ (tag _)) st K = dfield P xt (rho P st xt x) f K:=_root_.id rfl
theorem q_indexAddr : dq P (hold ⟨dst,.indexAddr xt x i,t,p,af,g⟩ (tag _)) st K = dindexAddr P xt (rho P st xt x) (rho P st 3 i) K:=_root_.id rfl
theorem q_index : dq P (hold ⟨dst,.index xt x i,t,p,af,g⟩ (tag _)) st K = dindex P xt (rho P st xt x) (rho P st 3 i) K:=_root_.id rfl
theorem q_lookup {ok : Bool} : dq P (hold ⟨dst,.lookup xt m k ok,t,p,af,g⟩ (tag _)) st K = ((rho P st 0 k).plain∧dlookup P st xt (rho P st xt m) (rho P st 0 k) ok K):=_root_.id rfl
theorem q_extract {n : Nat} : dq P (hold ⟨dst,.extract x n,t,p,af,g⟩ (tag _)) st K = dextract (rho P st 0 x) n K:=_root_.id rfl
theorem q_len : dq P (hold ⟨dst,.call ⟨.builtin .len,#[x],#[xt]⟩,t,p,af,g⟩ (tag _)) st K = dlen P st xt (rho P st xt x) K:=_root_.id rfl
theorem q_max {ts : Array TypeId} : dq P (hold ⟨dst,.call ⟨.builtin .max,#[x,y],ts⟩,t,p,af,g⟩ (tag _)) st K = dminmax true [rho P st 0 x,rho P st 0 y] K:=_root_.id rfl
theorem q_min {ts : Array TypeId} : dq P (hold ⟨dst,.call ⟨.builtin .min,#[x,y],ts⟩,t,p,af,g⟩ (tag _)) st K = dminmax false [rho P st 0 x,rho P st 0 y] K:=_root_.id rfl
end
/-! ### calls -/
section
variable {P : Program} {isObj : ObjT} {Γ : Env} {t : TypeId} {p : String} {af : Array Edge} {g : Option (Nat × Bool)} {st : St} {K : St→Prop} {dst : Option Nat} {f h : FuncId} {S : Spec} {as : List DV}
def extD (P : Program) (f : FuncId) (st : St) (args : List Operand) (F : DV→Prop) : Prop:=match args with
 | [x,y] => isOver P f∧overD st.H (rho P st 0 x) (rho P st 0 y) F
 | _ => False
def dcl (X : Prop) (as : List DV) (H : List HObj) : Option Spec→(List HObj→DV→Prop)→Prop
 | some S,K => as.all DV.flat = true∧app S H (as.map DV.ro) K
 | none,_ => X
theorem o_fn {args : List Operand} {ats : List TypeId} : dopC P isObj Γ (hold ⟨dst,.call ⟨.value (.func f),args.toArray,ats.toArray⟩,t,p,af,g⟩ (tag _)) st K = dcl (hold (extD P f st args (fun dv => K (st.put? dst dv))) (tag _)) (argsD P st args ats) st.H (Γ f) (hold (fun H dv => K ((st.called H).put? dst dv)) (tag _)):=by
 simp only [dopC,callD,hold,dop,extD]
 cases Γ f <;> rfl
theorem dcl_none {X : Prop} {F : List HObj→DV→Prop} {H : List HObj} : dcl (hold X (tag _)) as H none F = X:=_root_.id rfl
theorem extD_two {x y : Operand} {F : DV→Prop} : extD P f st [x,y] F = (isOver P f∧overD st.H (rho P st 0 x) (rho P st 0 y) F):=_root_.id rfl
theorem overD_h {ix sx ox lx cx iy sy oy ly cy : Nat} {H : List HObj} {F : DV→Prop} : overD H (.hsl ix sx ox lx cx) (.hsl iy sy oy ly cy) F = (ix ≠ iy∧cx ≠ 0∧cy ≠ 0∧(∃ c1,H[ix]? = some (.cells c1))∧(∃ c2,H[iy]? = some (.cells c2)∧c2 ≠ [])∧F (.bool false)):=_root_.id rfl
def cloD (Γ : Env) (as : List DV) (H : List HObj) (v : DV) (F : List HObj→DV→Prop) : Prop :=
 match v with
 | .fn f caps => match Γ f with
  | some S => as.all DV.flat = true∧app S H (as.map DV.ro ++ caps.map DV.ro) F
  | none => False
 | _ => False
theorem o_clo {q : Nat} {args : List Operand} {ats : List TypeId} : dopC P isObj Γ (hold ⟨dst,.call ⟨.value (.tmp q),args.toArray,ats.toArray⟩,t,p,af,g⟩ (tag _)) st K = cloD Γ (argsD P st args ats) st.H (st.t.getD q .undef) (hold (fun H dv => K ((st.called H).put? dst dv)) (tag _)):=by
 simp only [dopC,callC,hold,cloD]
 cases st.t.getD q .undef <;> try rfl
def dcl2 (as caps : List DV) (H : List HObj) : Option Spec→(List HObj→DV→Prop)→Prop
 | some S,F => as.all DV.flat = true∧app S H (as.map DV.ro ++ caps.map DV.ro) F
 | none,_ => False
theorem clo_fn {as caps : List DV} {H : List HObj} {F : List HObj→DV→Prop} : cloD Γ as H (.fn f caps) F = dcl2 as caps H (Γ f) F:=by
 simp only [cloD,dcl2]
 cases Γ f <;> rfl
theorem dcl2_some {as caps : List DV} {H : List HObj} {S : Spec} {F : List HObj→DV→Prop} : dcl2 as caps H (some S) F = (as.all DV.flat = true∧app S H (as.map DV.ro ++ caps.map DV.ro) F):=_root_.id rfl
theorem o_makeFunc {caps : List Operand} : dopC P isObj Γ (hold ⟨dst,.makeFunc (.func f) #[] caps.toArray,t,p,af,g⟩ (tag _)) st K = ((∀ x∈caps,(rho P st 0 x).plain)∧K (st.put? dst (.fn f (caps.map fun x => (rho P st 0 x).ro)))):=by
 simp only [dopC,dop,hold,St.laid,true_and]
theorem dcl_some {X : Prop} {H : List HObj} {F : List HObj→DV→Prop} : dcl X as H (some S) F = (as.all DV.flat = true∧app S H (as.map DV.ro) F):=_root_.id rfl
theorem env_cons {r : List (FuncId × Spec)} : envOf ((f,S) :: r) h = if h = f then some S else envOf r h:=_root_.id rfl
theorem args_nil {ts : List TypeId} : argsD P st [] ts = []:=by cases ts <;> rfl
theorem args_cons {x : Operand} {xs : List Operand} {u : TypeId} {ts : List TypeId} : argsD P st (x :: xs) (u :: ts) = rho P st u x :: argsD P st xs ts:=_root_.id rfl
theorem filter_isHp_nil : ([] : List (Nat × Pos)).filter (fun x => !x.2.isHp) = []:=_root_.id rfl
end
/-! ### appends,literals of slices,rights -/
section
variable {P : Program} {isObj : ObjT} {Γ : Env} {n : Nat} {l : List (Nat × DV)} {B : List (Nat × Nat × List DV)} {H : List HObj} {lk : List (Nat × Pos)} {t t2 e e2 : TypeId} {st : St} {K : St→Prop} {s c b sz id off g : Nat} {x : Operand} {xs ys : List DV} {own : Bool} {cs : List DV}
def apd (c b s : Nat) (ys : List DV) : DV × St→(St→Prop)→Prop
 | (.sl true sz xs,st),K => sz = c∧(xs.length + ys.length) * b≤140737488355328∧xs.length + ys.length≤4611686018427387904∧K (st.put s (.sl true sz (xs ++ ys)))
 | _,_ => False
theorem apd_own : apd c b s ys (.sl true c xs,st) K = ((xs.length + ys.length) * b≤140737488355328∧xs.length + ys.length≤4611686018427387904∧K (st.put s (.sl true c (xs ++ ys)))):=by simp [apd]
theorem ap_sl (hu : P.underlying t = some (.slice e)) (hu2 : P.underlying t2 = some (.slice e2)) (h1 : (P.underlying e).isSome = true) (h2 : 0 < c) (hc : P.cellsOf e = c) (hb : P.bytesOf e = b) (hz : zeroOk P e (zeroDV P 4 e) = true) :
  appendD P st s t t2 x (.sl own c ys) K = apd c b s ys (take P st t x) K:=by
 subst hc hb
 simp only [appendD,hu,h1,h2,hz,true_and,srcD,hu2]
 generalize take P st t x = pr
 obtain ⟨dv,st'⟩:=pr
 cases dv <;> try rfl
 rename_i o sz xs
 cases o
 ·rfl
 ·simp only [apd,eq_iff_iff]
  constructor
  ·rintro ⟨a,b,c,d,e⟩; exact ⟨a,c,d,e⟩
  ·rintro ⟨a,c,d,e⟩; exact ⟨a,a.symm,c,d,e⟩
def ohp (off : Nat) : Option HObj→Option Nat
 | some (.cells cs) => ownSz cs[off]?
 | _ => none
theorem own_hp : ownAt (mk n l B H lk) (.hp id off) = ohp off (H[id]?):=by
 simp only [ownAt,mk]
 cases h : H[id]? with
 | none => rfl
 | some o => cases o <;> rfl
theorem ohp_some : ohp off (some (.cells cs)) = ownSz cs[off]?:=_root_.id rfl
theorem ownSz_t : ownSz (some (.sl true sz xs)) = some sz:=_root_.id rfl
theorem ownSz_f : ownSz (some (.sl false sz xs)) = none:=_root_.id rfl
theorem own_slot {q i : Nat} (h : q < n) : ownAt (mk n l B H lk) (.slot q i) = ownSz (DV.part i 0 (look q l)):=by
 simp only [ownAt,mk,dense_get,h,if_true,Option.bind_some]
theorem part_sl : DV.part 0 0 (.sl own sz xs) = some (.sl own sz xs):=_root_.id rfl
theorem part_tup0 {ds : List DV} {c : DV} {i : Nat} : DV.part (i + 1) 0 (.tup ds) = (ds[i]?).bind fun c => c.cells[0]?:=by simp [DV.part]
def unh (n : Nat) (l : List (Nat × DV)) (B : List (Nat × Nat × List DV)) (H : List HObj) (lk : List (Nat × Pos)) (id off : Nat) : Option HObj→St
 | some (.cells cs) => mk n l B (H.set id (.cells (listRo cs off))) lk
 | _ => mk n l B H lk
theorem un_hp : unown (mk n l B H lk) (.hp id off) = unh n l B H lk id off (H[id]?):=by
 simp only [unown,mk]
 cases h : H[id]? with
 | none => rfl
 | some o => cases o <;> rfl
theorem unh_some : unh n l B H lk id off (some (.cells cs)) = mk n l B (H.set id (.cells (listRo cs off))) lk:=_root_.id rfl
theorem un_slot {q i : Nat} (h : q < n) : unown (mk n l B H lk) (.slot q i) = mk n ((q,(look q l).roA) :: l) B H lk:=by
 simp only [unown,mk_t h]
 simp only [mk,dense_set]
theorem listRo_eq : listRo cs off = cs.set off (cs.getD off .undef).ro1:=_root_.id rfl
def bsl (o : Bool) (c len s : Nat) (vs : List DV) (st : St) (K : St→Prop) : Prop :=
 vs.all (fun v => v.cells.length == c && v.cells.all DV.scalar) = true∧(if o = true then K ({ st with H:=st.H ++ [HObj.cells ((vs.flatMap DV.cells).map DV.ro1)] }.put s (.hsl st.H.length c 0 len len)) else K (st.put s (.sl true c vs)))
theorem bsl_t {vs : List DV} : bsl true c g s vs (mk n l B H lk) K = (vs.all (fun v => v.cells.length == c && v.cells.all DV.scalar) = true∧K (mk n ((s,.hsl H.length c 0 g g) :: l) B (H ++ [HObj.cells ((vs.flatMap DV.cells).map DV.ro1)]) (dropLk s lk))):=by
 simp only [bsl,if_true]
 rw [show ({ mk n l B H lk with H:=(mk n l B H lk).H ++ [HObj.cells ((vs.flatMap DV.cells).map DV.ro1)] } : St) = mk n l B (H ++ [HObj.cells ((vs.flatMap DV.cells).map DV.ro1)]) lk from rfl,mk_put]
 rfl
theorem bsl_f {vs : List DV} : bsl false c g s vs (mk n l B H lk) K = (vs.all (fun v => v.cells.length == c && v.cells.all DV.scalar) = true∧K (mk n ((s,.sl true c vs) :: l) B H (dropLk s lk))):=by
 simp only [bsl,Bool.false_eq_true,if_false,mk_put]
theorem bs_any {u : TypeId} {len : Nat} {parts : List (Nat × Operand)} {p : String} {af : Array Edge} {g : Option (Nat × Bool)} (hu : P.underlying e = some (.slice u)) (h1 : (P.underlying u).isSome = true) (hc : P.cellsOf u = c) (h2 : 0 < c) (h3 : len * c≤16777216) (h4 : (P.info? u).any (·.zero.isSome) = true) (h5 : parts.map (·.1) = List.range len) (h6 : 0 < len) :
  dopC P isObj Γ (hold ⟨some s,.buildSlice e len parts.toArray,t,p,af,g⟩ (tag _)) st K = bsl (isObj e) c len s (parts.map fun x => (rho P st u x.2).ro) st K:=by
 subst hc
 simp only [hold,dopC,dop,hu,h1,h2,h3,h4,h5,h6,true_and,and_true,bsl,List.all_map,List.all_eq_true,Function.comp,Bool.and_eq_true,beq_iff_eq]
theorem bs_1 {u : TypeId} {x : Operand} {p : String} {af : Array Edge} {g : Option (Nat × Bool)} (hu : P.underlying e = some (.slice u)) (h1 : (P.underlying u).isSome = true) (hc : P.cellsOf u = c) (h2 : 0 < c) (h3 : c≤4194304) (h4 : (P.info? u).any (·.zero.isSome) = true) :
  dopC P isObj Γ (hold ⟨some s,.buildSlice e 1 #[(0,x)],t,p,af,g⟩ (tag _)) st K = bsl (isObj e) c 1 s [(rho P st u x).ro] st K:=bs_any (parts:=[(0,x)]) hu h1 hc h2 (by omega) h4 rfl (by omega)
theorem bs_2 {u : TypeId} {x y : Operand} {p : String} {af : Array Edge} {g : Option (Nat × Bool)} (hu : P.underlying e = some (.slice u)) (h1 : (P.underlying u).isSome = true) (hc : P.cellsOf u = c) (h2 : 0 < c) (h3 : c≤4194304) (h4 : (P.info? u).any (·.zero.isSome) = true) :
  dopC P isObj Γ (hold ⟨some s,.buildSlice e 2 #[(0,x),(1,y)],t,p,af,g⟩ (tag _)) st K = bsl (isObj e) c 2 s [(rho P st u x).ro,(rho P st u y).ro] st K:=bs_any (parts:=[(0,x),(1,y)]) hu h1 hc h2 (by omega) h4 rfl (by omega)
end
def dropLks : List Nat→List (Nat × Pos)→List (Nat × Pos)
 | [],lk => lk
 | s :: r,lk => dropLks r (dropLk s lk)
theorem dropLks_eq : ∀ (ss : List Nat) (lk : List (Nat × Pos)),(lk.filter fun x => ss.all fun s => !(x.1 == s) && !x.2.atSlot s) = dropLks ss lk
 | [],lk => by simp [dropLks]
 | s :: r,lk => by
  simp only [dropLks,← dropLks_eq r,← dropLk_eq,List.filter_filter,List.all_cons]
  congr 1
  funext x
  rw [Bool.and_comm]
theorem mk_unlink {n : Nat} {l : List (Nat × DV)} {B : List (Nat × Nat × List DV)} {H : List HObj} {lk : List (Nat × Pos)} {ss : List Nat} : unlinkS ss (mk n l B H lk) = mk n l B H (dropLks ss lk):=by
 simp only [unlinkS,mk,dropLks_eq]
section
variable {P : Program} {isObj : ObjT} {Γ : Env} {t e u : TypeId} {st : St} {K : St→Prop} {s c : Nat}
theorem bs_zero {p : String} {af : Array Edge} {g : Option (Nat × Bool)} (hu : P.underlying e = some (.slice u)) (h1 : (P.underlying u).isSome = true) (hc : P.cellsOf u = c) (h2 : 0 < c) (h4 : (P.info? u).any (·.zero.isSome) = true) :
  dopC P isObj Γ (hold ⟨some s,.buildSlice e 0 #[],t,p,af,g⟩ (tag _)) st K = K (st.put s (.sl true c [])):=by
 subst hc
 simp only [hold,dopC,dop,hu,h1,h2,h4,true_and]
 simp
def apH (P : Program) (t2 : TypeId) (c b s : Nat) (y : DV) (st : St) (K : St→Prop) (id off len cap : Nat) : Option HObj→Prop
 | some (.cells cs) => off + len * c≤cs.length∧((cs.drop off).take (len * c)).all DV.scalar = true∧srcC P st t2 y c fun n cells => (len + n) * b≤140737488355328∧len + n≤4611686018427387904 ∧
   (len + n≤cap→off = 0∧(len + n) * c≤cs.length∧K ((st.setH id (.cells (putAt cs (len * c) cells))).put s (.hsl id c off (len + n) cap))) ∧
   (cap < len + n→newRowK st s c (len + n) (((cs.drop off).take (len * c)).map DV.ro1 ++ cells) K)
 | _ => False
def apdO (P : Program) (t2 : TypeId) (c b s : Nat) (y : DV) : DV × St→(St→Prop)→Prop
 | (.sl true sz [],st),K => sz = c∧srcC P st t2 y sz fun n cells => n * b≤140737488355328∧n≤4611686018427387904∧(n = 0→K (st.put s (.sl true sz [])))∧(n ≠ 0→newRowK st s sz n cells K)
 | (.hsl id sz off len cap,st),K => sz = c∧(cap = 0→srcC P st t2 y sz fun n cells => n * b≤140737488355328∧n≤4611686018427387904∧(n = 0→K (st.put s (.hsl id sz off 0 0)))∧(n ≠ 0→newRowK st s sz n cells K))∧(cap ≠ 0→apH P t2 c b s y st K id off len cap (st.H[id]?))
 | _,_ => False
theorem ap_obj {t2 : TypeId} {y : DV} {x : Operand} {b : Nat} (hu : P.underlying t = some (.slice e)) (h1 : (P.underlying e).isSome = true) (h2 : 0 < c) (hc : P.cellsOf e = c) (hb : P.bytesOf e = b) (hz : zeroOk P e (zeroDV P 4 e) = true) :
  appendObjD0 P st s t t2 x y K = apdO P t2 c b s y (take P st t x) K:=by
 subst hc hb
 simp only [appendObjD0,hu,h1,h2,hz,true_and]
 generalize take P st t x = pr
 obtain ⟨dv,st'⟩:=pr
 cases dv <;> try rfl
 case sl o sz xs =>
  cases o
  ·rfl
  ·cases xs <;> rfl
 case hsl id sz off len cap =>
  simp only [apdO,eq_iff_iff]
  constructor
  ·rintro ⟨rfl,h0,h⟩
   refine ⟨rfl,h0,fun hc => ?_⟩
   have h:=h hc
   cases ho : st'.H[id]? with
   | none => rw [ho] at h; exact h.elim
   | some ob => rw [ho] at h; cases ob <;> exact h
  ·rintro ⟨rfl,h0,h⟩
   refine ⟨rfl,h0,fun hc => ?_⟩
   have h:=h hc
   cases ho : st'.H[id]? with
   | none => rw [ho] at h; exact h.elim
   | some ob => rw [ho] at h; cases ob <;> exact h
theorem ap_objS {t2 : TypeId} {x : Operand} {b : Nat} {own : Bool} {sz : Nat} {ys : List DV} (hu : P.underlying t = some (.slice e)) (h1 : (P.underlying e).isSome = true) (h2 : 0 < c) (hc : P.cellsOf e = c) (hb : P.bytesOf e = b) (hz : zeroOk P e (zeroDV P 4 e) = true) :
  appendObjD P st s t t2 x (.sl own sz ys) K = apdO P t2 c b s (.sl own sz ys) (take P st t x) K:=by
 rw [appendObjD,if_neg (by simp [DV.isInt])]; exact ap_obj hu h1 h2 hc hb hz
theorem ap_objH {t2 : TypeId} {x : Operand} {b : Nat} {id sz off len cap : Nat} (hu : P.underlying t = some (.slice e)) (h1 : (P.underlying e).isSome = true) (h2 : 0 < c) (hc : P.cellsOf e = c) (hb : P.bytesOf e = b) (hz : zeroOk P e (zeroDV P 4 e) = true) :
  appendObjD P st s t t2 x (.hsl id sz off len cap) K = apdO P t2 c b s (.hsl id sz off len cap) (take P st t x) K:=by
 rw [appendObjD,if_neg (by simp [DV.isInt])]; exact ap_obj hu h1 h2 hc hb hz
def azH (st : St) (K : St→Prop) (zs : List DV) (s c b : Nat) (n : Int) (off len cap : Nat) : Option HObj→Prop
 | some (.cells cs) => off + len * c≤cs.length∧newRowK st s c (len + n.toNat) (((cs.drop off).take (len * c)).map DV.ro1 ++ (List.replicate n.toNat zs).flatten) K
 | _ => False
def apZ (zs : List DV) (c b s : Nat) (n : Int) : DV × St→(St→Prop)→Prop
 | (.hsl id sz off len cap,st),K => 0≤n∧sz = c∧len≤cap∧cap < len + n.toNat∧(len + n.toNat) * b≤140737488355328∧len + n.toNat≤4611686018427387904∧azH st K zs s c b n off len cap (st.H[id]?)
 | _,_ => False
theorem ap_objZ {t2 : TypeId} {x : Operand} {b : Nat} {k k2 : IntKind} {n : Int} {zs : List DV} (hu : P.underlying t = some (.slice e)) (hu2 : P.underlying t2 = some (.int k2)) (h1 : (P.underlying e).isSome = true) (h2 : 0 < c) (hc : P.cellsOf e = c) (hb : P.bytesOf e = b) (hz : zeroOk P e (zeroDV P 4 e) = true) (hs : (zeroDV P 4 e).all DV.scalar = true) (hzs : (zeroDV P 4 e).map DV.ro1 = zs) :
  appendObjD P st s t t2 x (.int k n) K = apZ zs c b s n (take P st t x) K:=by
 subst hc hb hzs
 have e1 : ∃ k,P.underlying t2 = some (.int k):=⟨k2,hu2⟩
 rw [appendObjD,if_pos (by rfl)]
 simp only [appendZD,hu,e1,h1,h2,hz,hs,true_and]
 generalize take P st t x = pr
 obtain ⟨dv,st'⟩:=pr
 cases dv <;> try rfl
 case hsl id sz off len cap =>
  simp only [apZ,h1,h2,hz,hs,true_and,eq_iff_iff]
  constructor
  ·rintro ⟨h0,rfl,a1,a2,a3,a4,h⟩
   refine ⟨h0,rfl,a1,a2,a3,a4,?_⟩
   cases ho : st'.H[id]? with
   | none => rw [ho] at h; exact h.elim
   | some ob => rw [ho] at h; cases ob <;> exact h
  ·rintro ⟨h0,rfl,a1,a2,a3,a4,h⟩
   refine ⟨h0,rfl,a1,a2,a3,a4,?_⟩
   cases ho : st'.H[id]? with
   | none => rw [ho] at h; exact h.elim
   | some ob => rw [ho] at h; cases ob <;> exact h
section
variable {n : Nat} {l : List (Nat × DV)} {B : List (Nat × Nat × List DV)} {H : List HObj} {lk : List (Nat × Pos)} {b id off len cap m : Nat} {y : DV} {F : Nat→List DV→Prop} {cs cells ys : List DV} {t2 e2 : TypeId} {own : Bool}
theorem apdO_new : apdO P t2 c b s y (.sl true c [],st) K = srcC P st t2 y c fun n cells => n * b≤140737488355328∧n≤4611686018427387904∧(n = 0→K (st.put s (.sl true c [])))∧(n ≠ 0→newRowK st s c n cells K):=by simp only [apdO,true_and]
theorem apdO_h : apdO P t2 c b s y (.hsl id c off len cap,mk n l B H lk) K = ((cap = 0→srcC P (mk n l B H lk) t2 y c fun n' cells => n' * b≤140737488355328∧n'≤4611686018427387904∧(n' = 0→K ((mk n l B H lk).put s (.hsl id c off 0 0)))∧(n' ≠ 0→newRowK (mk n l B H lk) s c n' cells K)) ∧
  (cap ≠ 0→apH P t2 c b s y (mk n l B H lk) K id off len cap (H[id]?))):=by simp only [apdO,true_and]; rfl
theorem apZ_h {zs : List DV} {q : Int} : apZ zs c b s q (.hsl id c off len cap,mk n l B H lk) K = (0≤q∧len≤cap∧cap < len + q.toNat∧(len + q.toNat) * b≤140737488355328∧len + q.toNat≤4611686018427387904∧azH (mk n l B H lk) K zs s c b q off len cap (H[id]?)):=by simp only [apZ,true_and]; rfl
theorem azH_some {zs : List DV} {q : Int} : azH st K zs s c b q off len cap (some (.cells cs)) = (off + len * c≤cs.length∧newRowK st s c (len + q.toNat) (((cs.drop off).take (len * c)).map DV.ro1 ++ (List.replicate q.toNat zs).flatten) K):=_root_.id rfl
theorem apH_some : apH P t2 c b s y st K id off len cap (some (.cells cs)) = (off + len * c≤cs.length∧((cs.drop off).take (len * c)).all DV.scalar = true∧srcC P st t2 y c fun n cells => (len + n) * b≤140737488355328∧len + n≤4611686018427387904 ∧
   (len + n≤cap→off = 0∧(len + n) * c≤cs.length∧K ((st.setH id (.cells (putAt cs (len * c) cells))).put s (.hsl id c off (len + n) cap))) ∧
   (cap < len + n→newRowK st s c (len + n) (((cs.drop off).take (len * c)).map DV.ro1 ++ cells) K)):=_root_.id rfl
theorem newRow_mk : newRowK (mk n l B H lk) s c m cells K = ∀ q,m≤q→K (mk n ((s,.hsl H.length c 0 m q) :: l) B (H ++ [HObj.cells (cells ++ List.replicate ((q - m) * c) DV.undef)]) (dropLk s lk)):=by
 simp only [newRowK]
 have : ∀ q,({ mk n l B H lk with H:=(mk n l B H lk).H ++ [HObj.cells (cells ++ List.replicate ((q - m) * c) DV.undef)] } : St) = mk n l B (H ++ [HObj.cells (cells ++ List.replicate ((q - m) * c) DV.undef)]) lk:=fun q => rfl
 simp only [this,mk_put]
 rfl
theorem srcC_sl (hu : P.underlying t2 = some (.slice e2)) : srcC P st t2 (.sl own c ys) c F = F ys.length ((ys.flatMap DV.cells).map DV.ro1):=by simp only [srcC,srcD,hu,true_and]
def schh (off len c : Nat) (F : Nat→List DV→Prop) : Option HObj→Prop
 | some (.cells cs) => off + len * c≤cs.length∧((cs.drop off).take (len * c)).all DV.scalar = true∧F len (((cs.drop off).take (len * c)).map DV.ro1)
 | _ => len = 0∧F 0 []
theorem schh_some : schh off len c F (some (.cells cs)) = (off + len * c≤cs.length∧((cs.drop off).take (len * c)).all DV.scalar = true∧F len (((cs.drop off).take (len * c)).map DV.ro1)):=_root_.id rfl
theorem schh_z {o : Option HObj} : schh 0 0 c F o = F 0 []:=by
 cases o with
 | none => simp [schh]
 | some ob => cases ob <;> simp [schh]
theorem srcC_h (hu : P.underlying t2 = some (.slice e2)) : srcC P (mk n l B H lk) t2 (.hsl id c off len cap) c F = schh off len c F (H[id]?):=by
 simp only [srcC,hu,mk]
 cases ho : H[id]? with
 | none => simp [schh]
 | some ob => cases ob <;> simp [schh]
theorem srcS_sl {lim : Nat} : srcS st (.sl own c ys) c lim F = F ys.length ((ys.flatMap DV.cells).map DV.ro1):=by simp only [srcS,true_and]
def schS (off len c lim : Nat) (F : Nat→List DV→Prop) : Option HObj→Prop
 | some (.cells cs) => off + len * c≤cs.length∧((cs.drop off).take (min len lim * c)).all DV.scalar = true∧F len (((cs.drop off).take (len * c)).map DV.ro1)
 | _ => False
theorem schS_some {lim : Nat} : schS off len c lim F (some (.cells cs)) = (off + len * c≤cs.length∧((cs.drop off).take (min len lim * c)).all DV.scalar = true∧F len (((cs.drop off).take (len * c)).map DV.ro1)):=_root_.id rfl
theorem srcS_h {lim : Nat} : srcS (mk n l B H lk) (.hsl id c off len cap) c lim F = schS off len c lim F (H[id]?):=by
 simp only [srcS,mk]
 cases ho : H[id]? with
 | none => simp [schS]
 | some ob => cases ob <;> simp [schS]
def cpH (off len c id : Nat) (y : DV) (st : St) (F : Int→St→Prop) : Option HObj→Prop
 | some (.cells cs) => srcS st y c len fun n cells => off + (min n len) * c≤cs.length∧F (min n len : Nat) (st.setH id (.cells (putAt cs off (cells.take (min n len * c)))))
 | _ => False
theorem cpH_some {F : Int→St→Prop} : cpH off len c id y st F (some (.cells cs)) = srcS st y c len fun n cells => off + (min n len) * c≤cs.length∧F (min n len : Nat) (st.setH id (.cells (putAt cs off (cells.take (min n len * c))))):=_root_.id rfl
theorem cp_h {F : Int→St→Prop} (hu : P.underlying t = some (.slice e)) (h1 : (P.underlying e).isSome = true) (h2 : 0 < c) (hc : P.cellsOf e = c) : copyD P (mk n l B H lk) t (.hsl id c off len cap) y F = cpH off len c id y (mk n l B H lk) F (H[id]?):=by
 subst hc
 simp only [copyD,hu,h1,h2,true_and,mk]
 cases ho : H[id]? with
 | none => rfl
 | some ob => cases ob <;> rfl
theorem o_copy {dst : Option Nat} {x y : Operand} {p : String} {af : Array Edge} {g : Option (Nat × Bool)} {u : TypeId} : dopC P isObj Γ (hold ⟨dst,.call ⟨.builtin .copy,#[x,y],#[u,t2]⟩,t,p,af,g⟩ (tag _)) st K = copyD P st u (rho P st u x) (rho P st t2 y) (hold (fun n st' => K (st'.put? dst (.int .i64 n))) (tag _)):=_root_.id rfl
theorem o_cap {dst : Option Nat} {x : Operand} {p : String} {af : Array Edge} {g : Option (Nat × Bool)} {u : TypeId} : dopC P isObj Γ (hold ⟨dst,.call ⟨.builtin .cap,#[x],#[u]⟩,t,p,af,g⟩ (tag _)) st K = dcap P u (rho P st u x) (hold (fun dv => K (st.put? dst dv)) (tag _)):=_root_.id rfl
theorem cap_h {F : DV→Prop} (hu : P.underlying t = some (.slice e)) : dcap P t (.hsl id c off len cap) F = F (.int .i64 cap):=by simp only [dcap,hu]
def clH (zs : List DV) (off len c id : Nat) (st : St) (K : St→Prop) : Option HObj→Prop
 | some (.cells cs) => off + len * c≤cs.length∧K (st.setH id (.cells (putAt cs off (List.replicate len zs).flatten)))
 | _ => False
theorem clH_some {zs : List DV} : clH zs off len c id st K (some (.cells cs)) = (off + len * c≤cs.length∧K (st.setH id (.cells (putAt cs off (List.replicate len zs).flatten)))):=_root_.id rfl
theorem cl_h {zs : List DV} (hu : P.underlying t = some (.slice e)) (h1 : (P.underlying e).isSome = true) (h2 : 0 < c) (hc : P.cellsOf e = c) (hz : zeroOk P e (zeroDV P 4 e) = true) (hs : (zeroDV P 4 e).all DV.scalar = true) (hzs : (zeroDV P 4 e).map DV.ro1 = zs) : clearD P (mk n l B H lk) t (.hsl id c off len cap) K = clH zs off len c id (mk n l B H lk) K (H[id]?):=by
 subst hc hzs
 simp only [clearD,hu,h1,h2,hz,hs,true_and,mk]
 cases ho : H[id]? with
 | none => rfl
 | some ob => cases ob <;> rfl
theorem o_clear {dst : Option Nat} {x : Operand} {p : String} {af : Array Edge} {g : Option (Nat × Bool)} {u : TypeId} : dopC P isObj Γ (hold ⟨dst,.call ⟨.builtin .clear,#[x],#[u]⟩,t,p,af,g⟩ (tag _)) st K = clearD P st u (rho P st u x) (hold (fun st' => K (st'.put? dst (.tup []))) (tag _)):=_root_.id rfl
def mkS (o : Bool) (c b s : Nat) (zs : List DV) (z : DV) : DV→DV→St→(St→Prop)→Prop
 | .int _ n,.int _ m,st,K => n = m∧0≤n∧n≤9223372036854775807∧n.toNat * b≤281474976710656 ∧
  (if o = true then K ({ st with H:=st.H ++ [HObj.cells ((List.replicate n.toNat zs).flatten)] }.put s (.hsl st.H.length c 0 n.toNat n.toNat)) else K (st.put s (.sl true c (List.replicate n.toNat z))))
 | _,_,_,_ => False
theorem o_mk {x y : Operand} {p : String} {af : Array Edge} {g : Option (Nat × Bool)} {zs : List DV} {z : DV} (hu : P.underlying e = some (.slice u)) (hc : P.cellsOf u = c) (h2 : 0 < c) (hb : P.bytesOf u = b) (hz : zeroOk P u (zeroDV P 4 u) = true) (hs : (zeroDV P 4 u).all DV.scalar = true)
  (h5 : (zeroDV P 4 u).map DV.ro1 = zs) (h6 : ofCells P u zs = z) :
  dopC P isObj Γ (hold ⟨some s,.makeSlice e x y,t,p,af,g⟩ (tag _)) st K = mkS (isObj e) c b s zs z (rho P st 3 x) (rho P st 3 y) st K:=by
 subst h6 h5 hc hb
 simp only [hold,dopC,dop]
 cases rho P st 3 x <;> try rfl
 cases rho P st 3 y <;> try rfl
 simp only [mkS,madeD,hu,h2,hz,hs,true_and]
theorem mkS_t {zs : List DV} {z : DV} {j k : IntKind} {q r : Int} : mkS true c b s zs z (.int j q) (.int k r) (mk n l B H lk) K = (q = r∧0≤q∧q≤9223372036854775807∧q.toNat * b≤281474976710656∧K (mk n ((s,.hsl H.length c 0 q.toNat q.toNat) :: l) B (H ++ [HObj.cells ((List.replicate q.toNat zs).flatten)]) (dropLk s lk))):=by
 simp only [mkS,if_true]
 rw [show ({ mk n l B H lk with H:=(mk n l B H lk).H ++ [HObj.cells ((List.replicate q.toNat zs).flatten)] } : St) = mk n l B (H ++ [HObj.cells ((List.replicate q.toNat zs).flatten)]) lk from rfl,mk_put]
 rfl
theorem mkS_f {zs : List DV} {z : DV} {j k : IntKind} {q r : Int} : mkS false c b s zs z (.int j q) (.int k r) (mk n l B H lk) K = (q = r∧0≤q∧q≤9223372036854775807∧q.toNat * b≤281474976710656∧K (mk n ((s,.sl true c (List.replicate q.toNat z)) :: l) B H (dropLk s lk))):=by
 simp only [mkS,Bool.false_eq_true,if_false,mk_put]
def mkC (P : Program) (b s : Nat) : DV→St→(St→Prop)→Prop
 | .int _ n,st,K => 0≤n∧n≤9223372036854775807∧b * n.toNat≤281474976710544∧K (st.put s .any)
 | _,_,_ => False
theorem o_mc {x : Operand} {dr : ChanDir} {p : String} {af : Array Edge} {g : Option (Nat × Bool)} (hu : P.underlying e = some (.chan dr u)) (h1 : (P.info? u).isSome = true) (hb : P.bytesOf u = b) :
  dopC P isObj Γ (hold ⟨some s,.makeChan e x,t,p,af,g⟩ (tag _)) st K = mkC P b s (rho P st 3 x) st K:=by
 subst hb
 simp only [hold,dopC,dop,hu]
 cases rho P st 3 x <;> try rfl
 simp only [mkC,h1,true_and]
theorem mkC_int {k : IntKind} {q : Int} : mkC P b s (.int k q) (mk n l B H lk) K = (0≤q∧q≤9223372036854775807∧b * q.toNat≤281474976710544∧K (mk n ((s,.any) :: l) B H (dropLk s lk))):=by simp only [mkC,mk_put]
end
theorem nv_if {n : Nat} {l : List (Nat × DV)} {B : List (Nat × Nat × List DV)} {H : List HObj} {lk : List (Nat × Pos)} {dv : DV} : newVarD isObj (mk n l B H lk) s t dv = (if isObj t = true then mk n ((s,.ptr H.length 0) :: l) B (H ++ [HObj.cells dv.cells]) (dropLk s lk) else mk n ((s,.lptr s (bgen s B) 0) :: l) (bset s (bgen s B) dv.cells B) H (dropLk s lk)):=by
 split
 ·rename_i h; exact nv_obj h
 ·rename_i h; exact nv_box (by simpa using h)
theorem o_al {zs : List DV} {p : String} {af : Array Edge} {g : Option (Nat × Bool)} (hf : funT P e = false) (hz : zeroDVo P isObj 6 e = zs) (ho : zeroOk P e zs = true) (hs : (ofCells P e zs).cells.all DV.scalar = true) : dopC P isObj Γ (hold ⟨some s,.alloc e,t,p,af,g⟩ (tag _)) st K = K (newVarD isObj st s e (ofCells P e zs)):=by
 subst hz
 simp only [o_alloc hf,ho,hs,true_and]
theorem ag_neq {xs ys : List DV} {b : Bool} {K : DV→Prop} (h1 : P.underlying t = some (.struct (P.fieldsOf t))) (h2 : P.stoodInHeld t = false) (h3 : P.eqGuardType P.depth t = false) (h : eqAgg P (P.fieldsOf t).toList xs ys = some b) : dbin P .neq t (.agg xs) (.agg ys) K = K (.bool !b):=by
 simp only [dbin,dbinAgg,h2,h3,h,true_and,eq_iff_iff]
 exact ⟨fun x => x.2,fun x => ⟨h1,x⟩⟩
theorem lfin_t {z : DV} {r : Option DV} {K : DV→Prop} (h1 : zeroOk P e (zeroDV P 4 e) = true) (h2 : (ofCells P e (zeroDV P 4 e)).ro = z) : lookFin P e true K r = K (.tup [(r.map DV.ro).getD z,.bool r.isSome]):=by
 cases r <;> simp [lookFin,h1,h2]
theorem lfin_f {z : DV} {r : Option DV} {K : DV→Prop} (h1 : zeroOk P e (zeroDV P 4 e) = true) (h2 : (ofCells P e (zeroDV P 4 e)).ro = z) : lookFin P e false K r = K ((r.map DV.ro).getD z):=by
 cases r <;> simp [lookFin,h1,h2]
theorem kt_int {j : IntKind} {i : Int} (h : P.underlying t = some (.int j)) : keyT P t (.int j i) = True:=by simp [keyT,h]
theorem cv_ii {t2 : TypeId} {j k : IntKind} {i : Int} {ds : TypeDesc} {K : DV→Prop} (h1 : P.underlying t = some ds) (h2 : P.underlying t2 = some (.int j)) : dconv P st t t2 (.int k i) K = K (.int j (j.wrap i)):=by simp [dconv,h1,h2]
theorem cv_bs {t2 : TypeId} {o : Bool} {xs : List DV} {K : DV→Prop} (h1 : P.underlying t = some (.slice e)) (h2 : P.underlying t2 = some .string) (h3 : P.underlying e = some (.int .u8)) : dconv P st t t2 (.sl o 1 xs) K = (∃ x,bytesOf xs = some x∧K (.str x)):=by simp [dconv,h1,h2,h3]
def cvh (off len : Nat) (K : DV→Prop) : Option HObj→Prop
 | some (.cells cs) => off + len≤cs.length∧∃ l,bytesOf ((cs.drop off).take len) = some l∧K (.str l)
 | _ => False
theorem cvh_some {off len : Nat} {cs : List DV} {K : DV→Prop} : cvh off len K (some (.cells cs)) = (off + len≤cs.length∧∃ l,bytesOf ((cs.drop off).take len) = some l∧K (.str l)):=_root_.id rfl
theorem cv_bh {t2 : TypeId} {n : Nat} {l : List (Nat × DV)} {B : List (Nat × Nat × List DV)} {H : List HObj} {lk : List (Nat × Pos)} {id off len cap : Nat} {K : DV→Prop} (h1 : P.underlying t = some (.slice e)) (h2 : P.underlying t2 = some .string) (h3 : P.underlying e = some (.int .u8)) :
  dconv P (mk n l B H lk) t t2 (.hsl id 1 off len cap) K = cvh off len K (H[id]?):=by
 simp only [dconv,h1,h2,mk_H]
 cases H[id]? with
 | none => rfl
 | some o => cases o <;> simp [cvh,h3]
theorem sl_sl {o : Bool} {xs : List DV} {lo hi : Option DV} {K : DV→Prop} (h1 : P.underlying t = some (.slice e)) (h2 : P.cellsOf e = c) (h3 : (P.underlying e).isSome = true) : dslice P t (.sl o c xs) lo hi K = dbound xs.length hi xs.length fun h => dbound h lo 0 fun l => K (.sl false c ((xs.take h).drop l)):=by simp [dslice,h1,h2,h3]
theorem sl_hsl {id off len cap : Nat} {lo hi : Option DV} {K : DV→Prop} (h1 : P.underlying t = some (.slice e)) (h2 : P.cellsOf e = c) (h3 : (P.underlying e).isSome = true) : dslice P t (.hsl id c off len cap) lo hi K = dbound cap hi len fun h => dbound h lo 0 fun l => K (.hsl id c (off + l * c) (h - l) (cap - l)):=by simp [dslice,h1,h2,h3]
theorem sl_str {x : List UInt8} {lo hi : Option DV} {K : DV→Prop} (h1 : P.underlying t = some .string) : dslice P t (.str x) lo hi K = dbound x.length hi x.length fun h => dbound h lo 0 fun l => K (.str ((x.take h).drop l)):=by simp [dslice,h1]
theorem ia_arrl {k : IntKind} {i : Int} {s g o m : Nat} {K : DV→Prop} (hu : P.underlying t = some (.array m e)) (hs : P.cellsOf e = c) (he : (P.underlying e).isSome = true) : dindexAddr P t (.lptr s g o) (.int k i) K = (0≤i∧i < m∧K (.lptr s g (o + i.toNat * c))):=by simp [dindexAddr,hu,hs,he]
/-! ### slices of objects -/
theorem nz_t {q : Nat} : nz true q = .hsl 0 q 0 0 0:=_root_.id rfl
theorem nz_f {q : Nat} : nz false q = .sl true q []:=_root_.id rfl
theorem dl_hsl {n : Nat} {l : List (Nat × DV)} {B : List (Nat × Nat × List DV)} {H : List HObj} {lk : List (Nat × Pos)} {id sz off len cap : Nat} {K : DV→Prop} (h : P.underlying t = some (.slice e)) : dlen P (mk n l B H lk) t (.hsl id sz off len cap) K = K (.int .i64 len):=by simp only [dlen,h]
theorem ia_hsl {k : IntKind} {i : Int} {id off len cap : Nat} {K : DV→Prop} (hu : P.underlying t = some (.slice e)) (hs : P.cellsOf e = c) (he : (P.underlying e).isSome = true) :
  dindexAddr P t (.hsl id c off len cap) (.int k i) K = (0≤i∧i < len∧K (.ptr id (off + i.toNat * c))):=by simp [dindexAddr,hu,hs,he]
theorem n_eqlh {id sz off len cap : Nat} {F : DV→Prop} (h : P.underlying t = some (.slice e)) : dnilSl P .eql t (.hsl id sz off len cap) F = (F (.bool false)∧(cap = 0→F (.bool true))):=by simp only [dnilSl,h]
theorem lo_hsl {n : Nat} {l : List (Nat × DV)} {B : List (Nat × Nat × List DV)} {H : List HObj} {lk : List (Nat × Pos)} {a : DV} {id sz off len cap : Nat} : loadD P (mk n l B H lk) s t a (.hsl id sz off len cap) = mk n ((s,.hsl id sz off len cap) :: l) B H (dropLk s lk):=by simp only [loadD,mk_put]
theorem lo_any {n : Nat} {l : List (Nat × DV)} {B : List (Nat × Nat × List DV)} {H : List HObj} {lk : List (Nat × Pos)} {a : DV} : loadD P (mk n l B H lk) s t a .any = mk n ((s,.any) :: l) B H (dropLk s lk):=by simp only [loadD,mk_put]
theorem lo_fn {n : Nat} {l : List (Nat × DV)} {B : List (Nat × Nat × List DV)} {H : List HObj} {lk : List (Nat × Pos)} {a : DV} {f : FuncId} {cs : List DV} : loadD P (mk n l B H lk) s t a (.fn f cs) = mk n ((s,.fn f cs) :: l) B H (dropLk s lk):=by simp only [loadD,mk_put]
end
/-! ### struct literals -/
section
variable {P : Program} {isObj : ObjT} {Γ : Env} {t e ft : TypeId} {st : St} {K : St→Prop} {s c i off : Nat} {x : Operand} {cs : List DV} {p : String} {af : Array Edge} {g : Option (Nat × Bool)} {fs : Array Field} {r parts : List (Nat × Operand)}
def bdk (off c : Nat) (cs : List DV) : DV × St→(List DV→St→Prop)→Prop
 | (dv,st),F => dv.cells.length = c∧off + dv.cells.length≤cs.length∧dv.cells.all DV.scalar = true∧F (putAt cs off dv.cells) st
theorem bdk_eq {dv : DV} {F : List DV→St→Prop} : bdk off c cs (dv,st) F = (dv.cells.length = c∧off + dv.cells.length≤cs.length∧dv.cells.all DV.scalar = true∧F (putAt cs off dv.cells) st):=_root_.id rfl
theorem bd_nil {F : List DV→St→Prop} : buildD P fs [] cs st F = F cs st:=_root_.id rfl
theorem bd_cons {F : List DV→St→Prop} (h : (fs[i]?).map (fun f => (f.type,f.offset)) = some (ft,off)) (hc : P.cellsOf ft = c) : buildD P fs ((i,x) :: r) cs st F = bdk off c cs (take P st ft x) (hold (fun cs st => buildD P fs r cs st F) (tag _)):=by
 obtain ⟨f,h1,h2⟩:=Option.map_eq_some_iff.1 h
 obtain ⟨rfl,rfl⟩:=Prod.mk.inj h2
 subst hc
 simp only [buildD,h1]
 rfl
theorem o_bd {zs : List DV} (hu : P.underlying e = some (.struct fs)) (h1 : isAggT P e = true) (h2 : zeroDVo P isObj 6 e = zs) (h3 : zeroOk P e zs = true) (h4 : (fs.toList.all fun f => (P.underlying f.type).isSome) = true) :
  dopC P isObj Γ (hold ⟨some s,.build e parts.toArray,t,p,af,g⟩ (tag _)) st K = buildD P fs parts zs (st.put s .undef) (hold (fun cs st' => K (st'.put s (.agg cs))) (tag _)):=by
 subst h2
 simp only [dopC,dop,hu,hold,h1,h3,h4,true_and]
theorem bq_nil {F : List DV→Prop} : buildQ P fs st [] cs F = F cs:=_root_.id rfl
end
end Go.Ab
