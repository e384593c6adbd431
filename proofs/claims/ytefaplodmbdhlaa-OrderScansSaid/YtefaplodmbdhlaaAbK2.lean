/- A part of the proofs that a law function returns true at every input; it has no condition of its own. -/
import Derived.Test.YtefaplodmbdhlaaAbK
set_option linter.unusedSimpArgs false
set_option linter.unusedVariables false
/- AbK2: A contract that is the callee's own code: a call walked in place. -/
namespace Go.Ab
open Go Go.Conc Go.RowKit
/-- What the code does at these arguments. -/
def byCode (P : Program) (isObj : ObjT) (Γ : Env) (c : Code) (rs : List Nat) (n : Nat) : Spec := fun H args K =>
  args.length ≤ n ∧ args.all (fun d => match d with | .tup _ => false | _ => true) = true ∧ dwp P isObj Γ (hold c (tag _)) (hold (retQ rs K) (tag _)) (mk n (argSlots 0 args) [] H [])
variable {P : Program} {isObj : ObjT} {Γ : Env}
theorem rc_byCode {I : Jd P} (hm : P.follows .mixedOrders = true) (hI : ∀ w e, I.Ok w e) (hΓ : ∀ f S, Γ f = some S → RC I f S) {f : FuncId} {fn : Func} {c : Code} {n : Nat} {rs : List Nat} (hf : P.funcs[f]? = some fn) (hn : (fn.name == "runtime.NumGoroutine") = false) (hb : fn.body = some c)
    (hr : fn.results = (rs.map ResultVar.tmp).toArray) (hnt : fn.ntmps = n) (hnd : rs.Nodup) : RC I f (byCode P isObj Γ c rs n) :=
  rc_of_code (isObj := isObj) (Γ := Γ) hm hI hΓ hf hn hb hr hnt hnd fun _ _ _ h => h
theorem app_byCode {c : Code} {rs : List Nat} {n : Nat} {H : List HObj} {args : List DV} {K : List HObj → DV → Prop} (h1 : args.length ≤ n) (h2 : args.all (fun d => match d with | .tup _ => false | _ => true) = true)
    (h : dwp P isObj Γ (hold c (tag _)) (hold (retQ rs K) (tag _)) (mk n (argSlots 0 args) [] H [])) : app (byCode P isObj Γ c rs n) H args K := ⟨h1, h2, h⟩
end Go.Ab
