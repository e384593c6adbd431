/- A part of the proof; no condition of its own. -/
import Derived.Orders
import Derived.Test.YtoebbafmopdfbaaGreatDoorAcY
set_option linter.unusedSimpArgs false
set_option linter.unusedVariables false
/- AcY2: Regions that draw their order: quiet operations as early as can be,the others in each order that the edges leave open. -/
namespace Go.Ab
open Go Go.Conc Go.RowKit
def preds (o : Oper) : List Nat:=o.after.toList.filterMap fun e => if Region.binds .any e then some e.on else none
def readyD (ops : Array Oper) (C : List Nat) (i : Nat) : Bool:=!C.contains i && match ops[i]? with
 | some o => (preds o).all fun p => C.contains p
 | none => false
def down (ops : Array Oper) : Nat→List Nat→List Nat→List Nat
 | 0,vis,_ => vis
 | _ + 1,vis,[] => vis
 | n + 1,vis,x :: r => if vis.contains x then down ops n vis r else down ops n (x :: vis) (match ops[x]? with | some o => preds o ++ r | none => r)
def surely (ops : Array Oper) (i : Nat) : List Nat:=match ops[i]? with
 | some o => down ops 400 [] (preds o)
 | none => []
def apartB (ops : Array Oper) (eff : List Nat) (i j : Nat) : Bool:=match ops[i]?,ops[j]? with
 | some oi,some oj => match oj.dst with
  | none => true
  | some s => if i = j then eff.contains i || !(oi.looksAt ops).contains s else
   oi.dst != some s && (!(oi.looksAt ops).contains s || (surely ops i).contains j || (eff.contains j && (surely ops j).contains i))
 | _,_ => true
def noSelect (o : Oper) : Bool:=match o.op with | .select .. => false | _ => true
def drawOk (ops : Array Oper) (eff : List Nat) : Bool:=(ops.toList.all noSelect) && (List.range ops.size).all fun i => (List.range ops.size).all fun j => apartB ops eff i j
def floaters (ops : Array Oper) (eff : List Nat) (i : Nat) (C : List Nat) : List Nat:=C.filter fun j => !eff.contains j && !(surely ops i).contains j
def unlinkS (ss : List Nat) (st : St) : St:={ st with lk:=st.lk.filter fun x => ss.all fun s => !(x.1 == s) && !x.2.atSlot s }
def slotsOf (ops : Array Oper) (l : List Nat) : List Nat:=l.filterMap fun j => (ops[j]?).bind (·.dst)
def allP (f : Nat→Prop) : List Nat→Prop
 | [] => True
 | x :: r => f x∧allP f r
theorem allP_mem {f : Nat→Prop} : ∀ {l : List Nat},allP f l→∀ x∈l,f x
 | [],_,x,hx => by cases hx
 | y :: r,h,x,hx => by
  rcases List.mem_cons.1 hx with rfl | hx
  ·exact h.1
  ·exact allP_mem h.2 x hx
section defs
variable (P : Program) (isObj : ObjT) (Γ : Env)
def recheckAt (ops : Array Oper) (st : St) (j : Nat) : Prop:=match ops[j]? with
 | some o => match o.dst with
  | some s => dqw P ops o st (st.t.getD s .undef)
  | none => True
 | none => True
def dqs (ops : Array Oper) (o : Oper) (st : St) (f : DV→Prop) : Prop:=match dwant ops o st with
 | some b => (b = true→∃ dv,dq P o st (dv = ·)∧f dv)∧(b = false→f (.tup []))
 | none => False
def ddraw (ops : Array Oper) (eff : List Nat) : Nat→List Nat→St→(St→Prop)→Prop
 | 0,_,_,_ => False
 | n + 1,C,st,K => match (List.range ops.size).find? (fun i => !eff.contains i && readyD ops C i) with
  | some i => match ops[i]? with
   | some o => match o.dst with
    | some s => dqs P ops o st fun dv => ddraw ops eff n (i :: C) (st.put s dv) K
    | none => False
   | none => False
  | none => match (List.range ops.size).filter (fun i => eff.contains i && readyD ops C i) with
   | [] => K st
   | x :: r => allP (fun i => match ops[i]? with
    | some o => dstep P isObj Γ ops o st fun st' => allP (recheckAt P ops st') (floaters ops eff i C)∧ddraw ops eff n (i :: C) (unlinkS (slotsOf ops (floaters ops eff i C)) st') K
    | none => False) (x :: r)
end defs
variable {P : Program} {isObj : ObjT} {Γ : Env} {N0 : Nat} {w0 : World} {d : Nat} {G : Gh} {w : World} {st : St} {a : Act}
theorem dqs_out {ops : Array Oper} {o : Oper} {f : DV→Prop} (h : dqs P ops o st f) : ∃ dv,dqw P ops o st dv∧f dv:=by
 unfold dqs at h
 unfold dqw
 split at h
 ·rename_i b hb
  rw [hb]
  cases b with
  | true => obtain ⟨dv,h1,h2⟩:=h.1 rfl; exact ⟨dv,⟨fun _ => h1,fun h => by cases h⟩,h2⟩
  | false => exact ⟨.tup [],⟨fun h => (by cases h),fun _ => rfl⟩,h.2 rfl⟩
 ·exact h.elim
theorem down_sub {ops : Array Oper} {D : Nat→Prop} (hD : ∀ x,D x→∀ o,ops[x]? = some o→∀ p∈preds o,D p) : ∀ (n : Nat) (vis todo : List Nat),(∀ x∈vis,D x)→(∀ x∈todo,D x)→∀ x∈down ops n vis todo,D x
 | 0,vis,todo,h1,h2 => h1
 | n + 1,vis,[],h1,h2 => h1
 | n + 1,vis,x :: r,h1,h2 => by
  unfold down
  split
  ·exact down_sub hD n vis r h1 fun y hy => h2 y (by simp [hy])
  ·have hx:=h2 x (by simp)
   refine down_sub hD n (x :: vis) _ (fun y hy => ?_) fun y hy => ?_
   ·rcases List.mem_cons.1 hy with rfl | hy
    ·exact hx
    ·exact h1 y hy
   ·split at hy
    ·rename_i o ho
     rcases List.mem_append.1 hy with hy | hy
     ·exact hD x hx o ho y hy
     ·exact h2 y (by simp [hy])
    ·exact h2 y (by simp [hy])
theorem surely_sub {ops : Array Oper} {D : Nat→Prop} (hD : ∀ x,D x→∀ o,ops[x]? = some o→∀ p∈preds o,D p) {i : Nat} {o : Oper} (ho : ops[i]? = some o) (hp : ∀ p∈preds o,D p) : ∀ j∈surely ops i,D j:=by
 unfold surely
 rw [ho]
 exact down_sub hD _ _ _ (by simp) hp
def Topo (ops : Array Oper) : List Nat→Prop
 | [] => True
 | j :: C => (∃ o,ops[j]? = some o∧∀ p∈preds o,p∈C)∧Topo ops C
theorem Topo.closed {ops : Array Oper} : ∀ {C : List Nat},Topo ops C→∀ j∈C,∀ o,ops[j]? = some o→∀ p∈preds o,p∈C
 | [],_,j,hj,_,_,_,_ => by cases hj
 | x :: C,h,j,hj,o,ho,p,hp => by
  rcases List.mem_cons.1 hj with rfl | hj
  ·obtain ⟨o',ho',h'⟩:=h.1
   rw [ho] at ho'
   cases ho'
   exact List.mem_cons_of_mem _ (h' p hp)
  ·exact List.mem_cons_of_mem _ (Topo.closed h.2 j hj o ho p hp)
theorem dwant_congr {ops : Array Oper} {o : Oper} {st st' : St} (h : ∀ s∈o.looksAt ops,st.t.getD s .undef = st'.t.getD s .undef) : dwant ops o st = dwant ops o st':=by
 unfold dwant
 split
 ·rfl
 ·rename_i j b hg
  split
  ·rename_i s hs
   rw [h s (by simp [Oper.looksAt,hg,hs])]
  ·rfl
theorem dqw_congr {ops : Array Oper} {o : Oper} {st st' : St} {dv : DV} (h : ∀ s∈o.looksAt ops,st.t.getD s .undef = st'.t.getD s .undef) (hB : st.B = st'.B) (hH : st.H = st'.H) : dqw P ops o st dv = dqw P ops o st' dv:=by
 unfold dqw
 rw [dwant_congr h,dq_congr (fun x hx t => rho_congr fun s hs => h s ?_) hB hH]
 subst hs
 exact List.mem_append_left _ (List.mem_filterMap.2 ⟨.tmp s,by simpa using hx,rfl⟩)
theorem mem_preds {o : Oper} {p : Nat} : p∈preds o ↔ ∃ e∈o.after.toList,Region.binds .any e = true∧e.on = p:=by
 unfold preds
 rw [List.mem_filterMap]
 constructor
 ·rintro ⟨e,he,h⟩
  split at h
  ·exact ⟨e,he,by assumption,by simpa using h⟩
  ·cases h
 ·rintro ⟨e,he,h1,h2⟩
  exact ⟨e,he,by rw [if_pos h1,h2]⟩
def ReadyL (ops : Array Oper) (listed : Array Bool) (i : Nat) : Prop:=i < ops.size∧listed.getD i true = false∧∃ o,ops[i]? = some o∧∀ p∈preds o,listed.getD p false = true
theorem mem_ready {ops : Array Oper} {listed : Array Bool} {i : Nat} : i∈Region.ready .any ops listed ↔ ReadyL ops listed i:=by
 unfold Region.ready ReadyL
 rw [List.mem_filter,List.mem_range]
 constructor
 ·rintro ⟨h1,h2⟩
  rw [Bool.and_eq_true] at h2
  refine ⟨h1,by simpa using h2.1,ops[i],by simp [h1],fun p hp => ?_⟩
  obtain ⟨e,he,hb,rfl⟩:=mem_preds.1 hp
  have h3:=h2.2
  simp only [Array.getElem?_eq_getElem h1,Option.map_some,Option.getD_some] at h3
  rw [Array.all_eq_true_iff_forall_mem] at h3
  have:=h3 e (by simpa using he)
  simpa [hb] using this
 ·rintro ⟨h1,h2,o,ho,hp⟩
  refine ⟨h1,?_⟩
  rw [Bool.and_eq_true]
  refine ⟨by simp [h2],?_⟩
  simp only [ho,Option.map_some,Option.getD_some]
  rw [Array.all_eq_true_iff_forall_mem]
  intro e he
  cases hb : Region.binds .any e with
  | false => simp
  | true => simp [hp e.on (mem_preds.2 ⟨e,by simpa using he,hb,rfl⟩)]
end Go.Ab
