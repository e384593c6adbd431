/- A part of the proof; no condition of its own. -/
import Derived.Test.YtoebbafmopdfbaaGreatDoorAcY3
set_option linter.unusedSimpArgs false
set_option linter.unusedVariables false
/- AcX2: Regions by lists of operations and by plans: what 'simp' runs. -/
namespace Go.Ab
open Go Go.Conc Go.RowKit
def St.setT (st : St) (s : Nat) (dv : DV) : St:={ st with t:=st.t.set s dv }
theorem setT_same {st : St} {s : Nat} {dv : DV} (h : st.t.getD s .undef = dv) : st.setT s dv = st:=by
 obtain ⟨t,B,H,lk⟩:=st
 simp only [St.setT,St.mk.injEq,and_true]
 apply List.ext_getElem?
 intro k
 rw [List.getElem?_set]
 split
 ·rename_i e; subst e
  split
  ·rename_i hl
   subst h
   simp [List.getD,hl]
  ·rename_i hl; simp at hl; simp [hl]
 ·rfl
section
variable (P : Program) (isObj : ObjT) (Γ : Env)
def gstep (ds : List (Option Nat)) (o : Oper) (st : St) (f : St→Prop) (g : St→Prop) : Prop :=
 match o.guard with
 | none => f st
 | some (j,want) => match ds.getD j none with
  | some s => match st.t.getD s .undef with
   | .bool b => (b = want→f (st.setT s (.bool want)))∧(b = !want→g (st.setT s (.bool !want)))
   | .tup [] => g st
   | _ => False
  | none => False
def dtextS (ds : List (Option Nat)) : List Oper→St→(St→Prop)→Prop
 | [],st,K => K st
 | o :: r,st,K => gstep ds o st (fun st => dopC P isObj Γ o st fun st' => dtextS ds r st' K) (fun st => dtextS ds r (st.put? o.dst (.tup [])) K)
inductive Plan where
 | bad
 | done
 | quiet (i : Nat) (next : Plan)
 | acts (l : List (Nat × List Nat × Plan))
def runPlan (ds : List (Option Nat)) (ops : List Oper) : Plan→St→(St→Prop)→Prop
 | .bad,_,_ => False
 | .done,st,K => K st
 | .quiet i next,st,K => match ops[i]? with
  | some o => match o.dst with
   | some s => gstep ds o st (fun st => ∃ dv,dq P o st (dv = ·)∧runPlan ds ops next (st.put s dv) K) (fun st => runPlan ds ops next (st.put s (.tup [])) K)
   | none => False
  | none => False
 | .acts l,st,K => runAlts l st K
where runAlts : List (Nat × List Nat × Plan)→St→(St→Prop)→Prop
 | [],_,_ => True
 | (i,fl,next) :: r,st,K => (match ops[i]? with
  | some o => gstep ds o st (fun st => dopC P isObj Γ o st fun st' => allP (recheckAt P ops.toArray st') fl∧runPlan ds ops next (unlinkS (slotsOf ops.toArray fl) st') K) (fun st => allP (recheckAt P ops.toArray (st.put? o.dst (.tup []))) fl∧runPlan ds ops next (unlinkS (slotsOf ops.toArray fl) (st.put? o.dst (.tup []))) K)
  | none => False)∧runAlts r st K
def planOf (ops : Array Oper) (eff : List Nat) : Nat→List Nat→Plan
 | 0,_ => .bad
 | n + 1,C => match (List.range ops.size).find? (fun i => !eff.contains i && readyD ops C i) with
  | some i => .quiet i (planOf ops eff n (i :: C))
  | none => match (List.range ops.size).filter (fun i => eff.contains i && readyD ops C i) with
   | [] => .done
   | x :: r => .acts ((x :: r).map fun i => (i,floaters ops eff i C,planOf ops eff n (i :: C)))
end
def dsts (ops : Array Oper) : List (Option Nat):=ops.toList.map (·.dst)
theorem dsts_get (ops : Array Oper) (j : Nat) : (dsts ops).getD j none = (ops[j]?).bind (·.dst):=by
 simp only [dsts,List.getD_eq_getElem?_getD,List.getElem?_map,Array.getElem?_toList]
 cases ops[j]? <;> rfl
section
variable {P : Program} {isObj : ObjT} {Γ : Env} {ops : Array Oper} {eff : List Nat}
theorem gstep_eq {o : Oper} {st : St} {f g : St→Prop} : gstep (dsts ops) o st f g = (match dwant ops o st with | some b => (b = true→f st)∧(b = false→g st) | none => False):=by
 unfold gstep dwant
 cases hg : o.guard with
 | none => simp
 | some jw =>
  obtain ⟨j,want⟩:=jw
  dsimp only
  rw [dsts_get]
  cases hs : (ops[j]?).bind (·.dst) with
  | none => rfl
  | some s =>
   dsimp only
   cases hb : st.t.getD s .undef with
   | bool b =>
    dsimp only
    have e1 : b = want→st.setT s (.bool want) = st:=fun e => setT_same (by rw [hb,e])
    have e2 : b = !want→st.setT s (.bool !want) = st:=fun e => setT_same (by rw [hb,e])
    apply propext
    cases b <;> cases want <;> simp_all
   | tup ds => cases ds <;> simp
   | _ => rfl
theorem dtextS_eq {K : St→Prop} : ∀ (l : List Oper) (k : Nat) (st : St),ops.toList.drop k = l→dtextS P isObj Γ (dsts ops) l st K = dtext P isObj Γ ops (List.range' k l.length) st K
 | [],k,st,_ => rfl
 | o :: r,k,st,hk => by
  have ho : ops[k]? = some o:=by
   have : (ops.toList.drop k)[0]? = some o:=by rw [hk]; rfl
   simpa using this
  have hr : ops.toList.drop (k + 1) = r:=by rw [← List.tail_drop,hk]; rfl
  have ih : (fun st => dtextS P isObj Γ (dsts ops) r st K) = fun st => dtext P isObj Γ ops (List.range' (k + 1) r.length) st K:=funext fun st => dtextS_eq r (k + 1) st hr
  have ih' : ∀ st,dtextS P isObj Γ (dsts ops) r st K = dtext P isObj Γ ops (List.range' (k + 1) r.length) st K:=fun st => congrFun ih st
  simp only [List.length_cons,List.range'_succ,dtext,ho,dtextS,gstep_eq,dstep,ih']
  rfl
theorem dtextS_text {st : St} {K : St→Prop} : dtextS P isObj Γ (dsts ops) ops.toList st K = dtext P isObj Γ ops (List.range ops.size) st K:=by
 rw [dtextS_eq ops.toList 0 st rfl,List.range_eq_range']
 simp
theorem runPlan_eq {K : St→Prop} : ∀ (n : Nat) (C : List Nat) (st : St),runPlan P isObj Γ (dsts ops) ops.toList (planOf ops eff n C) st K = ddraw P isObj Γ ops eff n C st K
 | 0,C,st => rfl
 | n + 1,C,st => by
  have ih : ∀ C st,runPlan P isObj Γ (dsts ops) ops.toList (planOf ops eff n C) st K = ddraw P isObj Γ ops eff n C st K:=fun C st => runPlan_eq n C st
  unfold planOf ddraw
  cases hf : (List.range ops.size).find? (fun i => !eff.contains i && readyD ops C i) with
  | some i =>
   simp only [runPlan,Array.getElem?_toList]
   cases ho : ops[i]? with
   | none => rfl
   | some o =>
    dsimp only
    cases hs : o.dst with
    | none => rfl
    | some s => simp only [gstep_eq,dqs,ih]; rfl
  | none =>
   dsimp only
   cases hl : (List.range ops.size).filter (fun i => eff.contains i && readyD ops C i) with
   | nil => rfl
   | cons x r =>
    have key : ∀ l : List Nat,runPlan.runAlts P isObj Γ (dsts ops) ops.toList (l.map fun i => (i,floaters ops eff i C,planOf ops eff n (i :: C))) st K = allP (fun i => match ops[i]? with
      | some o => dstep P isObj Γ ops o st fun st' => allP (recheckAt P ops st') (floaters ops eff i C)∧ddraw P isObj Γ ops eff n (i :: C) (unlinkS (slotsOf ops (floaters ops eff i C)) st') K
      | none => False) l:=by
     intro l
     induction l with
     | nil => rfl
     | cons y l ihl =>
      simp only [List.map_cons,runPlan.runAlts,allP,ihl,Array.getElem?_toList]
      congr 1
      cases ho : ops[y]? with
      | none => rfl
      | some o => simp only [gstep_eq,dstep,ih,Array.toArray_toList]; rfl
    simp only [runPlan,key]
    rfl
end
end Go.Ab
