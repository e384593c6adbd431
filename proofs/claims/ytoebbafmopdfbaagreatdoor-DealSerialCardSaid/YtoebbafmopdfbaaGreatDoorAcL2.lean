/- A part of the proof; no condition of its own. -/
import Derived.Test.YtoebbafmopdfbaaGreatDoorAcL
set_option linter.unusedSimpArgs false
set_option linter.unusedVariables false
/- AcL2: A function's contract out of its code. -/
namespace Go.Ab
open Go Go.Conc Go.RowKit
variable {P : Program} {isObj : ObjT} {Γ : Env}
theorem rc_of_code {I : Jd P} (hm : P.follows .mixedOrders = true) (hI : ∀ w e,I.Ok w e) (hΓ : ∀ f S,Γ f = some S→RC I f S) {f : FuncId} {fn : Func} {c : Code} {n : Nat} {rs : List Nat} {S : Spec} (hf : P.funcs[f]? = some fn) (hn : (fn.name == "runtime.NumGoroutine") = false) (hb : fn.body = some c)
  (hr : fn.results = (rs.map ResultVar.tmp).toArray) (hnt : fn.ntmps = n) (hnd : rs.Nodup)
  (h : ∀ H args K,S H args K→args.length≤n∧args.all (fun d => match d with | .tup _ => false | _ => true) = true∧dwp P isObj Γ (hold c (tag _)) (hold (retQ rs K) (tag _)) (mk n (argSlots 0 args) [] H [])) : RC I f S:=by
 subst hnt
 refine ⟨⟨fn,hf,hn,by rw [hb]; rfl⟩,fun N0 w0 d G w H args vs K hS hW hF => ?_⟩
 obtain ⟨hlen,hnt,hS⟩:=h H args K hS
 obtain ⟨hR,hx⟩:=Rel.init (d:=d) (n:=fn.ntmps) hW hF hnt
 have hL : Lift N0 w0 (d + 1) G w (dwp P isObj Γ c (retQ rs K)) { tmps:=vs ++ Array.replicate (fn.ntmps - vs.size) undef,defers:=[] } w :=
  Lift.wk (K:=fun st => st = St.init fn.ntmps args H) ⟨_,_,rfl,hx,hR,rfl⟩ fun st e => ⟨_,by rw [e]; exact init_wk hlen,hS⟩
 refine callJ_of_wpJ I hf hb ((dwp_sound hm hI hΓ c hL).mono I fun e a' w' q => ?_)
 have fin : Lift N0 w0 (d + 1) G w (fun st => (rs.all fun r => (decide (r < st.t.length)) && (st.t.getD r .undef).flat) = true∧K st.H (resultD st.t rs)) a' w'→a'.defers = []∧∃ v,ResultsC P fn a'.tmps v∧Back N0 w0 d G w K v w':=by
  rintro ⟨G',st,⟨h1,h2⟩,h3,h4,h5⟩
  obtain ⟨G2,k1,k2,k3,k4⟩:=h4.back h1 hnd
  exact ⟨h5,_,resultsC_eq hr _,G2,st.H,_,h2,h3.trans k1,k2,k3,k4⟩
 cases e with
 | normal => exact fin q
 | ret => exact fin q
 | _ => obtain ⟨_,_,h,_⟩:=q; exact h.elim
section
variable {n : Nat} {l : List (Nat × DV)} {B : List (Nat × Nat × List DV)} {H : List HObj} {lk : List (Nat × Pos)} {K : List HObj→DV→Prop}
theorem ret_none : retQ [] K .ret (mk n l B H lk) = K H (.tup []):=by simp [retQ,mk,resultD]
theorem ret_none' : retQ [] K .normal (mk n l B H lk) = K H (.tup []):=by simp [retQ,mk,resultD]
theorem ret_one {r : Nat} (h : r < n) : retQ [r] K .ret (mk n l B H lk) = ((look r l).flat = true∧K H (look r l)):=by simp only [retQ,mk,resultD,List.all_cons,List.all_nil,Bool.and_true,dense_length,dense_getD l h,h,decide_true,Bool.true_and]
theorem ret_one' {r : Nat} (h : r < n) : retQ [r] K .normal (mk n l B H lk) = ((look r l).flat = true∧K H (look r l)):=by simp only [retQ,mk,resultD,List.all_cons,List.all_nil,Bool.and_true,dense_length,dense_getD l h,h,decide_true,Bool.true_and]
theorem ret_two {r q : Nat} (h : r < n) (h2 : q < n) : retQ [r,q] K .ret (mk n l B H lk) = (((look r l).flat = true∧(look q l).flat = true)∧K H (.tup [look r l,look q l])):=by
 simp only [retQ,mk,resultD,List.all_cons,List.all_nil,Bool.and_true,dense_length,dense_getD l h,dense_getD l h2,h,h2,decide_true,Bool.true_and,List.map_cons,List.map_nil,Bool.and_eq_true]
end
/-! ### memory,spelt out -/
section
variable {n : Nat} {l : List (Nat × DV)} {B : List (Nat × Nat × List DV)} {H : List HObj} {lk : List (Nat × Pos)} {t : TypeId} {K : DV→Prop}
theorem ld_vptr {cs : List DV} : dload P (mk n l B H lk) t (.vptr cs) K = loadAs P t cs K:=_root_.id rfl
theorem la_cell {c : DV} {r : List DV} (h : isAggT P t = false) (hu : (P.underlying t).isSome = true) : loadAs P t (c :: r) K = K c.ro:=by simp [loadAs,h,hu]
theorem la_agg {cs : List DV} (h : isAggT P t = true) : loadAs P t cs K = (P.cellsOf t≤cs.length∧K (.agg ((cs.take (P.cellsOf t)).map DV.ro1))):=by simp [loadAs,h]
theorem rho_tmp {s : Nat} (h : s < n) : rho P (mk n l B H lk) t (.tmp s) = look s l:=dense_getD l h
theorem rho_const {v : Value} {st : St} : rho P st t (.const v) = constDV P t v:=_root_.id rfl
theorem move_const {s : Nat} {v : Value} : moveD P (mk n l B H lk) s t (.const v) = mk n ((s,(constDV P t v).roA) :: l) B H (dropLk s lk):=by simp only [moveD,rho,mk_put]
def movK (n : Nat) (l : List (Nat × DV)) (B : List (Nat × Nat × List DV)) (H : List HObj) (lk : List (Nat × Pos)) (s q : Nat) : DV→St
 | .sl true sz xs => if q = s then mk n ((s,.sl false sz xs) :: l) B H (dropLk s lk) else mk n ((s,.sl false sz xs) :: l) B H ((s,.slot q 0) :: dropLk s lk)
 | .sl false sz xs => match lkGet q lk with
  | some p => if p.atSlot s then mk n ((s,.sl false sz xs) :: l) B H (dropLk s lk) else mk n ((s,.sl false sz xs) :: l) B H ((s,p) :: dropLk s lk)
  | none => mk n ((s,.sl false sz xs) :: l) B H (dropLk s lk)
 | dv => mk n ((s,dv.roA) :: l) B H (dropLk s lk)
theorem move_tmp {s q : Nat} (h : q < n) : moveD P (mk n l B H lk) s t (.tmp q) = movK n l B H lk s q (look q l):=by
 simp only [moveD,rho,mk_t h,mk_put]
 cases look q l <;> try rfl
 rename_i own sz xs
 cases own <;> simp only [movK,DV.roA,DV.ro] <;> rfl
def takK (n : Nat) (l : List (Nat × DV)) (B : List (Nat × Nat × List DV)) (H : List HObj) (lk : List (Nat × Pos)) (s : Nat) : DV→DV × St
 | .sl false sz xs => match lkGet s lk with
  | some p => if ownAt (mk n l B H lk) p = some sz then (.sl true sz xs,unown (mk n l B H lk) p) else (.sl false sz xs,mk n l B H lk)
  | none => (.sl false sz xs,mk n l B H lk)
 | .sl true sz xs => (.sl true sz xs,mk n ((s,.sl false sz xs) :: l) B H lk)
 | .agg cs => (.agg cs,mk n ((s,.agg (cs.map DV.ro1)) :: l) B H lk)
 | dv => (dv.roA,mk n l B H lk)
theorem take_tmp {s : Nat} (h : s < n) : take P (mk n l B H lk) t (.tmp s) = takK n l B H lk s (look s l):=by
 simp only [take,mk_t h]
 cases look s l <;> try rfl
 ·rename_i own sz xs
  cases own <;> simp only [takK]
  ·rfl
  ·simp only [mk,dense_set]
 ·simp only [takK,mk,dense_set]
theorem take_const {v : Value} : take P (mk n l B H lk) t (.const v) = (constDV P t v,mk n l B H lk):=_root_.id rfl
theorem lo_sl {s : Nat} {a : DV} {own : Bool} {sz : Nat} {xs : List DV} : loadD P (mk n l B H lk) s t a (.sl own sz xs) = (match addrPos a with
  | some p => if isAggT P t then mk n ((s,.sl own sz xs) :: l) B H (dropLk s lk) else mk n ((s,.sl own sz xs) :: l) B H ((s,p) :: dropLk s lk)
  | none => mk n ((s,.sl own sz xs) :: l) B H (dropLk s lk)):=by
 simp only [loadD,mk_put]
 cases addrPos a <;> rfl
end
end Go.Ab
