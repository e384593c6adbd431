/- A part of the proof; no condition of its own. -/
import Derived.Laws.Cover1
import Derived.Test.YtoebbafmopdfbaaGreatDoorEnCI
set_option linter.unusedSimpArgs false
set_option linter.unusedVariables false
namespace Go.Ab.En
open Go Go.Conc Go.RowKit Go.Ab
theorem ft96 : funT pp 96 = false := by kernel_rfl
theorem oc96 : ofCells pp 96 [.str [], .str []] = (.agg [.str [], .str []]) := by simp [ofCells, ia96]
theorem al96 {isObj : ObjT} {Γ : Env} {s : Nat} {t : TypeId} {p : String} {af : Array Edge} {g : Option (Nat × Bool)} {st : St} {K : St → Prop} : dopC pp isObj Γ (hold ⟨some s, .alloc 96, t, p, af, g⟩ (tag _)) st K = K (newVarD isObj st s 96 (.agg [.str [], .str []])) := by rw [o_al ft96 zp96 zo96 (by rw [oc96]; rfl), oc96]
theorem fl96_0 {s g o : Nat} {K : DV → Prop} : dfieldAddr pp 96 (.lptr s g o) 0 K = K (.lptr s g (o + 0)) := by
  have h := fa_lptr (P := pp) (K := K) (s := s) (g := g) (o := o) Go.Proofs.Tryz.underlying96 (f := 0) rfl
  exact h (by show pp.cellsOf 9 ≠ 0; rw [cn9]; decide)
theorem fl96_1 {s g o : Nat} {K : DV → Prop} : dfieldAddr pp 96 (.lptr s g o) 1 K = K (.lptr s g (o + 1)) := by
  have h := fa_lptr (P := pp) (K := K) (s := s) (g := g) (o := o) Go.Proofs.Tryz.underlying96 (f := 1) rfl
  exact h (by show pp.cellsOf 9 ≠ 0; rw [cn9]; decide)
theorem dlh64 {n : Nat} {l : List (Nat × DV)} {B : List (Nat × Nat × List DV)} {H : List HObj} {lk : List (Nat × Pos)} {K : DV → Prop} {id sz off len cap : Nat} : dlen pp (mk n l B H lk) 64 (.hsl id sz off len cap) K = K (.int .i64 len) := dl_hsl Go.Proofs.Tryz.underlying64
theorem sc9 {x : List UInt8} {lo hi : Option DV} {K : DV → Prop} : dslice pp 9 (.str x) lo hi K = dbound x.length hi x.length fun h => dbound h lo 0 fun l => K (.str ((x.take h).drop l)) := sl_str Go.Proofs.Tryz.underlying9
theorem sc64 {o : Bool} {xs : List DV} {lo hi : Option DV} {K : DV → Prop} : dslice pp 64 (.sl o 2 xs) lo hi K = dbound xs.length hi xs.length fun h => dbound h lo 0 fun l => K (.sl false 2 ((xs.take h).drop l)) := sl_sl Go.Proofs.Tryz.underlying64 cn96 us96
theorem sch64 {id off len cap : Nat} {lo hi : Option DV} {K : DV → Prop} : dslice pp 64 (.hsl id 2 off len cap) lo hi K = dbound cap hi len fun h => dbound h lo 0 fun l => K (.hsl id 2 (off + l * 2) (h - l) (cap - l)) := sl_hsl Go.Proofs.Tryz.underlying64 cn96 us96
theorem bs33_2 {isObj : ObjT} {Γ : Env} {s : Nat} {t : TypeId} {p : String} {af : Array Edge} {g : Option (Nat × Bool)} {st : St} {K : St → Prop} {x y : Operand} : dopC pp isObj Γ (hold ⟨some s, .buildSlice 33 2 #[(0, x), (1, y)], t, p, af, g⟩ (tag _)) st K = bsl (isObj 33) 3 2 s [(rho pp st 32 x).ro, (rho pp st 32 y).ro] st K := bs_2 Go.Proofs.Tryz.underlying33 us32 cn32 (by decide) (by decide) zi32
theorem bd148_1 {st : St} {cs : List DV} {x : Operand} {r : List (Nat × Operand)} {F : List DV → St → Prop} : buildD pp fs148 ((1, x) :: r) cs st F = bdk 1 1 cs (take pp st 4 x) (hold (fun cs st => buildD pp fs148 r cs st F) (tag _)) := bd_cons (by kernel_rfl) cn4
theorem bd148_3 {st : St} {cs : List DV} {x : Operand} {r : List (Nat × Operand)} {F : List DV → St → Prop} : buildD pp fs148 ((3, x) :: r) cs st F = bdk 3 1 cs (take pp st 9 x) (hold (fun cs st => buildD pp fs148 r cs st F) (tag _)) := bd_cons (by kernel_rfl) cn9
theorem bd148_4 {st : St} {cs : List DV} {x : Operand} {r : List (Nat × Operand)} {F : List DV → St → Prop} : buildD pp fs148 ((4, x) :: r) cs st F = bdk 4 1 cs (take pp st 64 x) (hold (fun cs st => buildD pp fs148 r cs st F) (tag _)) := bd_cons (by kernel_rfl) cn64
end Go.Ab.En
namespace Go.Proofs
open Go.Shelf Go.RowKit Go.Lib Go.Sort Go.Ab.En
instance : Inhabited Pr := ⟨⟨[], []⟩⟩
def encP (p : Pr) : List Value := [.string ⟨p.key.toArray⟩, .string ⟨p.val.toArray⟩]
set_option maxRecDepth 100000 in
set_option maxHeartbeats 2000000 in
theorem cmpLtS (a b : ByteArray) (W : World) (h : Op.bytesLess a.toList b.toList = true) : Calls Tryz.prog 159 #[.string a, .string b] W fun e w' => e = .returned (.int .i64 (-1)) ∧ w' = W := by
  go_enter Tryz.func159, Tryz.ntmps159
  go_wp2
  go_ret
  exact ⟨rfl, rfl⟩
set_option maxRecDepth 100000 in
set_option maxHeartbeats 2000000 in
theorem cmpGtS (a b : ByteArray) (W : World) (h : Op.bytesLess a.toList b.toList = false) (h2 : (a.toList == b.toList) = false) : Calls Tryz.prog 159 #[.string a, .string b] W fun e w' => e = .returned (.int .i64 1) ∧ w' = W := by
  go_enter Tryz.func159, Tryz.ntmps159
  go_wp2
  go_ret
  exact ⟨rfl, rfl⟩
set_option maxRecDepth 100000 in
set_option maxHeartbeats 2000000 in
theorem cmpEqS (a b : ByteArray) (W : World) (h : Op.bytesLess a.toList b.toList = false) (h2 : (a.toList == b.toList) = true) : Calls Tryz.prog 159 #[.string a, .string b] W fun e w' => e = .returned (.int .i64 0) ∧ w' = W := by
  go_enter Tryz.func159, Tryz.ntmps159
  go_wp2
  go_ret
  exact ⟨rfl, rfl⟩
theorem cmpAllS (a b : List UInt8) (W : World) : Calls Tryz.prog 159 #[.string ⟨a.toArray⟩, .string ⟨b.toArray⟩] W fun e w' => e = .returned (.int .i64 (cmpS a b)) ∧ w' = W := by
  have ea : (ByteArray.mk a.toArray).toList = a := by rw [ByteArray.toList_eq]
  have eb : (ByteArray.mk b.toArray).toList = b := by rw [ByteArray.toList_eq]
  cases h : Op.bytesLess a b
  · cases h2 : (a == b)
    · have h3 : ¬ a = b := by simpa using h2
      rw [bytesLess_cmp, decide_eq_false_iff_not] at h
      have h4 : cmpS a b = 1 := by
        rcases cmpS_range a b with h' | h' | h'
        · omega
        · exact absurd (cmpS_eq_iff.1 h') h3
        · exact h'
      rw [h4]
      exact cmpGtS _ _ W (by rw [ea, eb, bytesLess_cmp, decide_eq_false_iff_not]; exact h) (by rw [ea, eb]; exact h2)
    · have h3 : a = b := by simpa using h2
      have h4 : cmpS a b = 0 := by rw [h3, cmpS_refl]
      rw [h4]
      exact cmpEqS _ _ W (by rw [ea, eb]; exact h) (by rw [ea, eb]; exact h2)
  · have h4 : cmpS a b = -1 := by
      have h5 := h
      rw [bytesLess_cmp, decide_eq_true_eq] at h5
      rcases cmpS_range a b with h' | h' | h'
      · exact h'
      · omega
      · omega
    rw [h4]
    exact cmpLtS _ _ W (by rw [ea, eb]; exact h)
set_option maxRecDepth 100000 in
set_option maxHeartbeats 2000000 in
theorem closureP (x y : Pr) (W : World) : Calls Tryz.prog 158 #[.agg #[.string ⟨x.key.toArray⟩, .string ⟨x.val.toArray⟩], .agg #[.string ⟨y.key.toArray⟩, .string ⟨y.val.toArray⟩]] W fun e w' => e = .returned (.int .i64 (cmpS x.key y.key)) ∧ ∃ q os', w' = grow (W.drewN q) os' := by
  have hcon := fun W' => cmpAllS x.key y.key W'
  generalize cmpS x.key y.key = r at hcon ⊢
  go_enter Tryz.func158, Tryz.ntmps158
  go_wp2_with (go_at_call 159; refine (hcon _).mono ?_; rintro e w' ⟨rfl, rfl⟩)
  go_ret
  exact ⟨rfl, 0, _, by rw [alloc_eq_grow, alloc_eq_grow, grow_grow]; rfl⟩
theorem cmpLaysP (blk off size : Nat) (w : World) : CmpLays Tryz.prog 158 #[] encP 2 (fun x y => cmpS x.key y.key) blk off size w := fun _ _ _ _ x y => closureP x y _
theorem swoP : SWO (ltOf fun x y : Pr => cmpS x.key y.key) where
  irrefl x := by simp [ltOf, cmpS_refl]
  trans x y z h1 h2 := by simp only [ltOf, decide_eq_true_eq] at *; exact cmpS_trans _ _ _ h1 h2
  ntrans x y z h1 h2 := by
    simp only [ltOf, decide_eq_false_iff_not] at *
    intro h3
    rcases cmpS_range x.key y.key with h | h | h
    · omega
    · rw [cmpS_eq_iff.1 h] at h3; exact h2 h3
    · have h4 := cmpS_swap x.key y.key
      have := cmpS_trans y.key x.key z.key (by omega) h3
      exact h2 this
end Go.Proofs
namespace Go.Ab.En
open Go Go.Conc Go.RowKit Go.Ab
def Pr.cells (p : Pr) : List DV := [.str p.key, .str p.val]
def flatP (ps : List Pr) : List DV := ps.flatMap Pr.cells
theorem flatk_get {α β : Type} (k : Nat) (hk : 0 < k) (f : α → List β) (hf : ∀ x, (f x).length = k) : ∀ (l : List α) (j : Nat), (l.flatMap f)[j]? = (l[j / k]?).bind fun x => (f x)[j % k]?
  | [], j => by simp
  | x :: r, j => by
    rw [List.flatMap_cons]
    by_cases h : j < k
    · rw [List.getElem?_append_left (by rw [hf]; exact h), Nat.div_eq_of_lt h, Nat.mod_eq_of_lt h]; rfl
    · have hle : k ≤ j := Nat.le_of_not_lt h
      rw [List.getElem?_append_right (by rw [hf]; exact hle), hf, flatk_get k hk f hf r (j - k)]
      have e1 : j / k = (j - k) / k + 1 := by rw [← Nat.add_div_right _ hk, Nat.sub_add_cancel hle]
      have e2 : j % k = (j - k) % k := by rw [Nat.mod_eq_sub_mod hle]
      rw [e1, e2]; rfl
theorem flatk_len {α β : Type} (k : Nat) (f : α → List β) (hf : ∀ x, (f x).length = k) (l : List α) : (l.flatMap f).length = l.length * k := by
  induction l with
  | nil => simp
  | cons x r ih => rw [List.flatMap_cons, List.length_append, hf, ih, List.length_cons, Nat.succ_mul, Nat.add_comm]
theorem flatP_len (ps : List Pr) : (flatP ps).length = ps.length * 2 := flatk_len 2 Pr.cells (fun _ => rfl) ps
theorem flatKP_list (d : Array Pr) : (Go.Sort.flatK Go.Proofs.encP 2 d).toList = d.toList.flatMap Go.Proofs.encP := by
  refine List.ext_getElem? fun j => ?_
  rw [flatk_get 2 (by omega) _ (fun _ => rfl)]
  by_cases h : j < d.size * 2
  · have hj : j / 2 < d.size := by omega
    rw [Array.getElem?_toList, Array.getElem?_eq_getElem (by simpa using h)]
    have := Go.Sort.get_flatK Go.Proofs.encP 2 d j h
    rw [getElem!_pos _ j (by simpa using h)] at this
    rw [this, Array.getElem?_toList, Array.getElem?_eq_getElem hj, getElem!_pos d _ hj]
    have hm : j % 2 < 2 := Nat.mod_lt _ (by omega)
    simp only [Option.bind_some]
    rw [List.getElem?_eq_getElem (by simpa [Go.Proofs.encP] using hm), getElem!_pos _ _ (by simpa [Go.Proofs.encP] using hm)]
  · rw [List.getElem?_eq_none (by simpa using h), Array.getElem?_toList, Array.getElem?_eq_none (by omega)]; rfl
theorem prCell {G : Gh} {w : World} {a : Pr} {j : Nat} {c : DV} {v : Value} (hc : a.cells[j]? = some c) (h : VP G w c v) : (Go.Proofs.encP a)[j]? = some v := by
  match j, hc with
  | 0, hc => simp [Pr.cells] at hc; subst hc; rw [SV.str (d := 0) h]; rfl
  | 1, hc => simp [Pr.cells] at hc; subst hc; rw [SV.str (d := 0) h]; rfl
theorem prCell2 {G : Gh} {w : World} {a : Pr} {j : Nat} {c : DV} {v : Value} (hc : a.cells[j]? = some c) (h : (Go.Proofs.encP a)[j]? = some v) : VP G w c v ∧ ∀ sz xs, c ≠ .sl true sz xs := by
  match j, hc with
  | 0, hc => simp [Pr.cells] at hc; subst hc; simp [Go.Proofs.encP] at h; subst h; exact ⟨.str _, by simp⟩
  | 1, hc => simp [Pr.cells] at hc; subst hc; simp [Go.Proofs.encP] at h; subst h; exact ⟨.str _, by simp⟩
def SSortP : Spec := fun H args K => (∃ own : Bool, args = [.sl own 2 [], .fn 158 []] ∧ K H (.tup [])) ∨ ∃ (id q : Nat) (l : List Pr) (r : List DV), args = [.hsl id 2 0 l.length q, .fn 158 []] ∧ (l ≠ [] → H[id]? = some (.cells (flatP l ++ r))) ∧ l.length < 4611686018427387904 ∧
  (l = [] → K H (.tup [])) ∧ (l ≠ [] → ∀ l', l'.Perm l → K (H.set id (.cells (flatP l' ++ r))) (.tup []))
theorem rcSortP : RC (loneJ pp) 157 SSortP := by
  refine rc_of_calls ⟨_, Go.Proofs.Tryz.func157, by kernel_rfl, by kernel_rfl⟩ fun N0 w0 d G w H args vs K hS hW hF => ?_
  have fnEq : ∀ y, VP G w (.fn 158 []) y → y = .func (.func 158) #[] #[] := fun y hy => by
    cases hy with
    | @fn _ _ us h1 h2 =>
      obtain rfl : us = #[] := Array.eq_empty_of_size_eq_zero h1.symm
      rfl
  rcases hS with ⟨own, rfl, hK⟩ | ⟨id, q, l, r, rfl, hl, hlen, hK0, hK⟩
  · have hsz : vs.size = 2 := hF.1.symm
    obtain ⟨x, y, rfl⟩ : ∃ x y, vs = #[x, y] := by
      match vs, hsz with
      | ⟨[x, y]⟩, _ => exact ⟨x, y, rfl⟩
    have hx : VP G w (.sl own 2 []) x := hF.2 0 _ _ rfl rfl
    obtain rfl := fnEq y (hF.2 1 _ _ rfl rfl)
    obtain ⟨p, q, rfl⟩ : ∃ p q, x = .slice p 0 q := by
      cases hx with
      | sl0 => exact ⟨_, _, rfl⟩
      | sl f h1 h2 h3 h4 h5 h6 => subst h1; exact ⟨_, _, rfl⟩
    refine (Go.Proofs.AnyF.slices_SortFunc_none { Go.Proofs.Tryz.sortP_lay with } p q _ w).mono fun e w' ⟨he, hw⟩ => ?_
    subst he hw
    exact ⟨_, rfl, G, H, .tup [], hK, Ext.refl _ _ _, hW, ⟨#[], rfl, rfl, by simp⟩, sown_of_noOwn rfl⟩
  have hsz : vs.size = 2 := hF.1.symm
  obtain ⟨x, y, rfl⟩ : ∃ x y, vs = #[x, y] := by
    match vs, hsz with
    | ⟨[x, y]⟩, _ => exact ⟨x, y, rfl⟩
  have hx : VP G w (.hsl id 2 0 l.length q) x := hF.2 0 _ _ rfl rfl
  have hy : VP G w (.fn 158 []) y := hF.2 1 _ _ rfl rfl
  obtain rfl := fnEq y hy
  by_cases hl0 : l = []
  · subst hl0
    obtain ⟨p, rfl⟩ : ∃ p, x = .slice p 0 q := by
      cases hx with
      | hsl h1 h2 h3 => exact ⟨_, rfl⟩
      | hsl0 => exact ⟨_, rfl⟩
    refine (Go.Proofs.AnyF.slices_SortFunc_none { Go.Proofs.Tryz.sortP_lay with } p q _ w).mono fun e w' ⟨he, hw⟩ => ?_
    subst he hw
    exact ⟨_, rfl, G, H, .tup [], hK0 rfl, Ext.refl _ _ _, hW, ⟨#[], rfl, rfl, by simp⟩, sown_of_noOwn rfl⟩
  have hpos : 0 < l.length := List.length_pos_iff.2 hl0
  obtain ⟨b, rfl, hb, hq⟩ : ∃ b, x = .slice (some ⟨b, 0, none⟩) l.length q ∧ G.bl id = some b ∧ l.length ≤ q := by
    generalize l.length = n at hx hpos
    cases hx with
    | hsl h1 h2 h3 =>
      rcases h3 with h3 | rfl
      · omega
      · exact ⟨_, rfl, h1, h2⟩
    | hsl0 => exact absurd rfl (Nat.ne_of_gt hpos)
  obtain ⟨b', us, e, g1, g2, g3, g4, g5⟩ := hW.objs id _ (hl hl0)
  obtain rfl : b = b' := by rw [hb] at g1; exact Option.some.inj g1
  have hbl : b < w.heap.size := (Array.getElem?_eq_some_iff.1 g3).1
  have fl : (flatP l).length = l.length * 2 := flatk_len 2 Pr.cells (fun _ => rfl) l
  have hus : l.length * 2 + r.length = us.size := by rw [← g4, List.length_append, fl]
  have hcell : ∀ j, j < l.length * 2 → us[j]? = (l.flatMap Go.Proofs.encP)[j]? := by
    intro j hj
    have hju : j < us.size := by omega
    have hj2' : j / 2 < l.length := by omega
    have h1 : (flatP l)[j]? = (l[j / 2]).cells[j % 2]? := by
      unfold flatP
      rw [flatk_get 2 (by omega) Pr.cells (fun _ => rfl), List.getElem?_eq_getElem hj2']; rfl
    have hm : j % 2 < (l[j / 2]).cells.length := by simp [Pr.cells]; omega
    have h2 := (g5 j ((l[j / 2]).cells[j % 2]) us[j] (by rw [List.getElem?_append_left (by omega), h1, List.getElem?_eq_getElem hm]) (Array.getElem?_eq_getElem hju)).1
    rw [Array.getElem?_eq_getElem hju, flatk_get 2 (by omega) _ (fun _ => rfl), List.getElem?_eq_getElem hj2', Option.bind_some]
    exact (prCell (List.getElem?_eq_getElem hm) h2).symm
  have hfl := flatKP_list l.toArray
  have hH : Go.Sort.HoldsK Go.Proofs.encP 2 w b 0 l.toArray := by
    intro j hj
    rw [Go.Sort.size_flatK] at hj
    have hj2 : j < l.length * 2 := by simpa using hj
    have h1 := hcell j hj2
    have h2 : (Go.Sort.flatK Go.Proofs.encP 2 l.toArray)[j]? = (l.flatMap Go.Proofs.encP)[j]? := by rw [← Array.getElem?_toList, hfl]
    have h3 : (Go.Sort.flatK Go.Proofs.encP 2 l.toArray)[j]! = (Go.Sort.flatK Go.Proofs.encP 2 l.toArray)[j]'(by simpa using hj) := getElem!_pos _ j (by simpa using hj)
    rw [Array.getElem?_eq_getElem (by simpa using hj)] at h2
    have h4 : us[j]? = some (Go.Sort.flatK Go.Proofs.encP 2 l.toArray)[j]! := by rw [h1, ← h2, h3]
    refine ⟨?_, ?_⟩
    · unfold World.cell?
      simp only [g3, Option.isSome_none, Bool.false_eq_true, if_false, Nat.zero_add]
      simpa using h4
    · unfold World.frozen?
      simp [g3]
  have ent : Go.Proofs.Enters Go.Proofs.Tryz.prog 158 := Go.Proofs.enters_of Go.Proofs.Tryz.func158 (by kernel_rfl) rfl
  have hcon := Go.Proofs.AnyQ.slices_SortFunc Go.Proofs.Tryz.sortP_lay 2 Go.Proofs.Tryz.isAgg96 Go.Proofs.Tryz.sizeOf96 Go.Proofs.encP (fun _ => rfl) (fun x v hv => by simp [Go.Proofs.encP] at hv; rcases hv with rfl | rfl <;> rfl) (fun x y => cmpS x.key y.key) Go.Proofs.swoP 158 #[] b 0 q l.toArray w ent (Go.Proofs.cmpLaysP b 0 l.toArray.size w) hH hbl (by simpa using hlen)
  refine Calls.mono (P := Go.Proofs.Tryz.prog) hcon fun e2 w' ⟨he, d', n, os, hp, hs, hw⟩ => ?_
  have hds : d'.size = l.length := by have := hp.1; simpa using this
  have hp2 : d'.toList.Perm l := by
    obtain ⟨hsz, _, hperm⟩ := hp
    have e1 : d'.extract 0 l.toArray.size = d' := by rw [← hsz]; exact Array.extract_size
    rw [e1, Array.extract_size] at hperm
    exact hperm
  obtain ⟨l', hd⟩ : ∃ l', d'.toList = l' := ⟨_, rfl⟩
  rw [hd] at hp2
  have hfl2 := flatKP_list d'
  rw [hd] at hfl2
  have hsl : l'.length = l.length := hp2.length_eq
  generalize hw1 : Go.Sort.putRowK Go.Proofs.encP 2 (Go.Sort.ahead w n) b 0 d' = w1 at *
  have hw2 : w' = Go.Sort.grow w1 os := by rw [hw, ← hw1]; rfl
  have hb1 : w1.heap[b]? = some (.cells (Go.Sort.putCells _root_.id 0 (Go.Sort.flatK Go.Proofs.encP 2 d') us) e (0, 0)) := by
    rw [← hw1]
    simp only [Go.Sort.putRowK, Go.Sort.putRow, Go.Sort.mapBlock, Go.Sort.ahead]
    rw [Array.getElem?_modify, if_pos rfl, g3]
    rfl
  have hm : Mod b G w G w1 := by
    rw [← hw1]
    refine ⟨rfl, rfl, rfl, ?_, hbl, fun x hx => ⟨?_, rfl⟩, rfl, rfl, ⟨fun x o v h => ?_, fun _ _ h => h⟩⟩
    · simp [Go.Sort.putRowK, Go.Sort.putRow, Go.Sort.mapBlock, Go.Sort.ahead]
    · simp [Go.Sort.putRowK, Go.Sort.putRow, Go.Sort.mapBlock, Go.Sort.ahead, Array.getElem?_modify, Ne.symm hx]
    · have hne : x ≠ b := by rintro rfl; exact not_still_obj _ _ (g2 ▸ h.1)
      refine ⟨h.1, ?_⟩
      have := h.2
      rw [Go.Sort.cell?_putRowK_other _ _ _ _ _ _ _ hne]
      exact this
  have hput : ∀ j v, (Go.Sort.putCells _root_.id 0 (Go.Sort.flatK Go.Proofs.encP 2 d') us)[j]? = some v → (j < l.length * 2 ∧ (l'.flatMap Go.Proofs.encP)[j]? = some v) ∨ (l.length * 2 ≤ j ∧ us[j]? = some v) := by
    intro j v hv
    unfold Go.Sort.putCells at hv
    rw [Array.getElem?_mapIdx] at hv
    obtain ⟨u, hu, hv⟩ := Option.map_eq_some_iff.1 hv
    rw [Go.Sort.size_flatK, hds] at hv
    by_cases h : j < l.length * 2
    · rw [if_pos ⟨by omega, by omega⟩] at hv
      refine .inl ⟨h, ?_⟩
      rw [← hfl2, Array.getElem?_toList, Array.getElem?_eq_getElem (by simpa [hds] using h)]
      rw [Nat.sub_zero, getElem!_pos _ j (by simpa [hds] using h)] at hv
      exact congrArg some hv
    · rw [if_neg (by omega)] at hv
      exact .inr ⟨by omega, by rw [hu, hv]⟩
  have fl2 : (flatP l').length = l.length * 2 := by rw [show (flatP l').length = l'.length * 2 from flatk_len 2 Pr.cells (fun _ => rfl) _, hsl]
  have hnarr : ∀ o wm, G.role b ≠ .arr o wm := fun o wm h => by rw [g2] at h; cases h
  have hW1 : WRel N0 w0 G w1 (H.set id (.cells (flatP l' ++ r))) := by
    refine hW.mod hm (by rw [g2]; exact ⟨by simp, by simp⟩) (by simp) fun i ob hi => ?_
    by_cases e' : i = id
    · subst e'
      have hil : i < H.length := by simpa using (List.getElem?_eq_some_iff.1 hi).1
      rw [List.getElem?_set_self hil] at hi
      obtain rfl := Option.some.inj hi
      refine ⟨b, _, e, hb, g2, hb1, by rw [List.length_append, fl2, hus]; simp [Go.Sort.putCells], fun j c v hc hv => ?_⟩
      rcases hput j v hv with ⟨hj, h⟩ | ⟨hj, h⟩
      · have hj2' : j / 2 < l'.length := by omega
        rw [List.getElem?_append_left (by omega)] at hc
        unfold flatP at hc
        rw [flatk_get 2 (by omega) Pr.cells (fun _ => rfl), List.getElem?_eq_getElem hj2'] at hc
        rw [flatk_get 2 (by omega) _ (fun _ => rfl), List.getElem?_eq_getElem hj2'] at h
        obtain ⟨k1, k2⟩ := prCell2 (G := G) (w := w1) hc h
        exact ⟨k1, fun sz xs e => absurd e (k2 sz xs)⟩
      · rw [List.getElem?_append_right (by omega), fl2] at hc
        have := g5 j c v (by rw [List.getElem?_append_right (by omega), fl]; exact hc) h
        exact ⟨this.1.keep hm.keep, this.2.mod hm (hnarr _)⟩
    · rw [List.getElem?_set_ne (Ne.symm e')] at hi
      exact (hW.objs i ob hi).mod hm (fun h => e' (by rw [g2] at h; exact (Role.obj.inj h).symm)) (fun _ _ => hnarr _ _)
  have hn : Neu G w1 G w' := by
    rw [hw2]
    refine ⟨rfl, rfl, rfl, by simp [Go.Sort.grow], fun x hx => ⟨?_, rfl⟩, rfl, rfl, fun h x hx => h x ?_⟩
    · simp [Go.Sort.grow, Array.getElem?_append_left hx]
    · simp [Go.Sort.grow] at hx; omega
  subst he
  exact ⟨_, rfl, G, _, .tup [], hK hl0 l' hp2, (hm.ext _ (fun _ _ _ h => by rw [g2] at h; cases h) (fun _ _ _ => hnarr _ _)).trans (hn.ext hW1.fresh _), hW1.neu hn, ⟨#[], rfl, rfl, by simp⟩, sown_of_noOwn rfl⟩
end Go.Ab.En
namespace Go.Ab.En
open Go Go.Conc Go.RowKit Go.Ab
set_option maxRecDepth 10000
def isP : ObjT := fun t => t == 64
theorem isP_eq {t : TypeId} : isP t = (t == 64) := _root_.id rfl
def isU : ObjT := fun t => t == 64 || t == 32
def HRowFP (H : List HObj) (id cap : Nat) (ps : List Pr) : Prop := ps.length ≤ cap ∧ (cap ≠ 0 → ∃ sp, H[id]? = some (.cells (flatP ps ++ sp)) ∧ sp.length = (cap - ps.length) * 2)
def OutP (H H' : List HObj) (v : DV) (ps : List Pr) : Prop := (∃ own, v = .sl own 2 [] ∧ ps = []) ∨ ∃ id cap, v = .hsl id 2 0 ps.length cap ∧ cap ≠ 0 ∧ HRowFP H' id cap ps ∧ H.length ≤ id
theorem HRowFP.fr {S : List Nat} {H H' : List HObj} {id cap : Nat} {ps : List Pr} (h : HRowFP H id cap ps) (f : Fr S H H') (hs : cap ≠ 0 → id ∉ S) : HRowFP H' id cap ps := by
  refine ⟨h.1, fun hc => ?_⟩
  obtain ⟨sp, h3, h4⟩ := h.2 hc
  exact ⟨sp, f.get h3 (hs hc), h4⟩
theorem OutP.fr {H H1 H2 : List HObj} {v : DV} {ps : List Pr} (h : OutP H H1 v ps) (f : Fr [] H1 H2) : OutP H H2 v ps := by
  rcases h with h | ⟨id, cap, h1, h2, h3, h4⟩
  · exact .inl h
  · exact .inr ⟨id, cap, h1, h2, h3.fr f (by simp), h4⟩
theorem flatP_app (a b : List Pr) : flatP (a ++ b) = flatP a ++ flatP b := by simp [flatP]
theorem flatP_ro : ∀ ps : List Pr, (flatP ps).map DV.ro1 = flatP ps
  | [] => rfl
  | p :: r => by
    have := flatP_ro r
    simp only [flatP, List.flatMap_cons, List.map_append] at this ⊢
    rw [this]; rfl
def SClQ : Spec := fun H args K => ∃ (own : Bool) (ps : List Pr), args = [.sl own 2 (ps.map prD)] ∧ ps.length < 100000 ∧ ∀ H' v, Fr [] H H' → OutP H H' v ps → K H' v
theorem rcClQ {I : Jd pp} (hI : ∀ w e, I.Ok w e) : RC I 92 SClQ := by
  refine rc_of_code (isObj := isP) (Γ := envOf []) (rs := [2]) mixed hI (envOf_rc (by simp)) Go.Proofs.Tryz.func92 (by kernel_rfl) hb92 Go.Proofs.Tryz.results92 Go.Proofs.Tryz.ntmps92 (by decide) ?_
  rintro H args K ⟨own, ps, rfl, h2, hK⟩
  refine ⟨by simp, rfl, ?_⟩
  unfold b92 Go.Proofs.Tryz.f92
  cases ps with
  | nil =>
    simp only [Option.getD_some, argSlots, List.map_nil, BB1, BB0, constDV, Proofs.Tryz.underlying64, cn96, dropLk, Nat.reduceLT, movK, Nat.reduceBEq, BB3, lkGet, BB4, n_eql Go.Proofs.Tryz.underlying64, cd_f, bs64_0, isP_eq, beq_self_eq_true, apo64_64, takK, BB6, true_and, ne_eq, srcC_sl Go.Proofs.Tryz.underlying64, List.length_nil, Nat.zero_mul, Nat.reduceLeDiff, true_implies, not_true_eq_false, List.flatMap_nil, List.nil_append, false_implies, and_true, ap64_64, Nat.add_zero, List.append_nil, if_true, cd_t]
    exact ⟨hK H _ (Fr.refl _ _) (.inl ⟨true, rfl, rfl⟩), hK H _ (Fr.refl _ _) (.inl ⟨true, rfl, rfl⟩)⟩
  | cons p ps =>
    simp only [Option.getD_some, argSlots, List.map_cons, BB1, BB0, constDV, Proofs.Tryz.underlying64, cn96, dropLk, Nat.reduceLT, movK, Nat.reduceBEq, BB3, lkGet, BB4, n_eql Go.Proofs.Tryz.underlying64, cd_f, bs64_0, isP_eq, beq_self_eq_true, apo64_64, takK, BB6, true_and, ne_eq, srcC_sl Go.Proofs.Tryz.underlying64, List.length_cons, Nat.reduceLeDiff, reduceCtorEq, false_implies, not_false_eq_true, List.flatMap_cons, true_implies, ap64_64, List.length_nil, Nat.zero_add, List.nil_append, if_true, cd_t, and_true]
    have e1 : (List.map prD ps).length + 1 = (p :: ps).length := by simp
    have e2 : List.map DV.ro1 ((prD p).cells ++ List.flatMap DV.cells (List.map prD ps)) = flatP (p :: ps) := by
      have h : ∀ l : List Pr, List.flatMap DV.cells (List.map prD l) = flatP l := fun l => by
        rw [List.flatMap_map]; rfl
      rw [h, show (prD p).cells = p.cells from rfl, show p.cells ++ flatP ps = flatP (p :: ps) from rfl, flatP_ro]
    rw [e1, e2]
    simp at h2
    refine ⟨by simp; omega, by simp; omega, fun q hq => hK _ _ (Fr.app [] _ _) (.inr ⟨H.length, q, rfl, by simp at hq; omega, ⟨hq, fun _ => ⟨List.replicate ((q - (p :: ps).length) * 2) .undef, by simp, by simp⟩⟩, Nat.le_refl _⟩)⟩
theorem cap {A R : Prop} (h : A) (g : A → R) : R := g h
noncomputable def b91 : Code := (Go.Proofs.Tryz.f91.body).getD .skip
theorem hb91 : Go.Proofs.Tryz.f91.body = some b91 := by kernel_rfl
def SUpN : Spec := fun H args K => ∃ (D : DealS) (own : Bool) (ps : List Pr) (a b : Str), args = [.ptr D.d 0, .sl own 2 (ps.map prD), .str a, .str b] ∧ D.At H ∧ D.ws = [] ∧ ps.length < 100000 ∧
  ∀ H' v (l' : List Pr), Fr [] H H' → l'.Perm ps → OutP H H' v (l'.take 64) → K H' v
def MUp (H : List HObj) (D : DealS) (ps : List Pr) (k : Nat) (st : St) : Prop := ∃ (v : DV) (H' : List HObj), k = 0 ∧ Fr [] H H' ∧ OutP H H' v ps ∧
  st = mk 59 [(9, v), (17, .hsl D.wi 3 0 0 D.cap), (18, .int .i64 0), (19, .int .i64 0)] [] H' []
set_option maxHeartbeats 8000000 in
theorem rcUpN {I : Jd pp} (hI : ∀ w e, I.Ok w e) (hS : RC I 157 SSortP) : RC I 91 SUpN := by
  refine rc_of_code (isObj := isU) (Γ := envOf [(92, SClQ), (157, SSortP)]) (rs := [8]) mixed hI (envOf_rc (by simpa using ⟨rcClQ hI, hS⟩)) Go.Proofs.Tryz.func91 (by kernel_rfl) hb91 Go.Proofs.Tryz.results91 Go.Proofs.Tryz.ntmps91 (by decide) ?_
  rintro H args K ⟨D, own, ps, a, b, rfl, h1, h2, h3, hK⟩
  refine ⟨by simp, rfl, ?_⟩
  unfold b91 Go.Proofs.Tryz.f91
  simp only [Option.getD_some, argSlots, BB2, Nat.zero_add, BB1, Nat.reduceAdd, BB0, constDV, Proofs.Tryz.underlying64, cn96, dropLk, Nat.reduceLT, movK, Nat.reduceBEq, BB3, lkGet, BB4, BB5, Nat.reduceEqDiff, if_false, if_true, List.all_cons, List.all_nil, Bool.and_self, List.map_cons, List.map_nil, true_and]
  refine ⟨_, ps, rfl, h3, fun H1 v1 f1 o1 => ?_⟩
  have d1 := h1.fr f1 (by simp)
  have t1 := d1.top
  rw [h2] at t1
  refine' cap (A := ∀ (v1 : DV) (l : List (Nat × DV)), OutP H H1 v1 ps → (look 9 l = v1 ∧ look 17 l = .hsl D.wi 3 0 0 D.cap ∧ look 18 l = .int .i64 0 ∧ look 19 l = .int .i64 0) → dwp pp isU _ _ _ (mk 59 l [] H1 [])) ?h ?g
  case g =>
    intro key
    have oo := o1
    rcases o1 with ⟨own1, rfl, e⟩ | ⟨id, cap, rfl, o⟩
    · replace oo : ∀ o, OutP H H1 (.sl o 2 []) ps := fun o => .inl ⟨o, rfl, e⟩
      cases own1
      all_goals
        simp only [BB1, BB5, Pos.isHp, List.filter_nil, dropLk, BB0, Nat.reduceLT, takK, BB3, lkGet, movK, Nat.reduceBEq, BB2, dnil, fp143_4, Nat.zero_add, t1, List.length_nil, List.drop_succ_cons, List.drop_zero, la33, dlh33, BB4, constDV]
        first
          | (with_reducible refine key _ _ (oo true) ?_; exact ⟨rfl, rfl, rfl, rfl⟩)
          | (with_reducible refine key _ _ (oo false) ?_; exact ⟨rfl, rfl, rfl, rfl⟩)
    · simp only [BB1, BB5, Pos.isHp, List.filter_nil, dropLk, BB0, Nat.reduceLT, takK, BB3, movK, Nat.reduceBEq, BB2, dnil, fp143_4, Nat.zero_add, t1, List.length_nil, List.drop_succ_cons, List.drop_zero, la33, dlh33, BB4, constDV]
      with_reducible refine key _ _ oo ?_
      exact ⟨rfl, rfl, rfl, rfl⟩
  clear o1
  rintro v1 l o1 ⟨k9, k17, k18, k19⟩
  refine w_loop [9, 17, 18, 19] (MUp H D ps) 0 ?_ ?_
  · exact ⟨v1, H1, rfl, f1, o1, by simp only [BB1, List.map_cons, k9, k17, k18, k19, List.map_nil]; try rfl⟩
  · rintro k st ⟨v, H2, rfl, f2, o2, rfl⟩
    have e1 : ¬ (0 : Int) < 0 := by omega
    rcases o2 with ⟨own2, rfl, e3⟩ | ⟨id, cap, rfl, hc, hr, hid⟩
    · cases own2
      all_goals
        simp only [BB0, BB1, BB4, Bool.false_eq_true, Nat.reduceLT, Nat.reduceBEq, BB3, e1, decide_false, dropLk, cd_f, movK, lkGet, rho_fn, BB5, Nat.reduceEqDiff, if_true, if_false, List.all_cons, List.all_nil, Bool.and_self, List.map_cons, List.map_nil, true_and]
        refine .inl ⟨_, rfl, ?_⟩
        simp only [BB1, BB5, Pos.isHp, List.filter_nil, dropLk, BB0, Nat.reduceLT, movK, Nat.reduceBEq, BB3, lkGet, dl64, List.length_nil, BB4, constDV, Int.reduceLT, if_false, Option.map_none, Option.map_some, sc64, dbound, Int.reduceLE, Int.reduceToNat, List.take_zero, List.drop_nil, takK, BB6, true_and, List.filter_cons, Bool.not_false, if_true, Pos.atSlot, Bool.or_self, Bool.false_eq_true, Nat.reduceEqDiff]
        exact hK H2 _ [] f2 (by rw [e3]) (.inl ⟨_, rfl, rfl⟩)
    · obtain ⟨sp, ho, hsp⟩ := hr.2 hc
      simp only [BB0, BB1, BB4, Bool.false_eq_true, Nat.reduceLT, Nat.reduceBEq, BB3, e1, decide_false, dropLk, cd_f, movK, rho_fn, BB5, Nat.reduceEqDiff, if_true, if_false, List.all_cons, List.all_nil, Bool.and_self, List.map_cons, List.map_nil, true_and]
      have hrl := hr.1
      have key : ∀ (H3 : List HObj) (l' : List Pr), Fr [] H H3 → l'.Perm ps → H3[id]? = some (.cells (flatP l' ++ sp)) → OutP H H3 (.hsl id 2 0 (l'.take 64).length cap) (l'.take 64) := fun H3 l' f3 hp h3 => by
        refine .inr ⟨id, cap, rfl, hc, ⟨by have := hp.length_eq; rw [List.length_take]; omega, fun _ => ⟨flatP (l'.drop 64) ++ sp, ?_, ?_⟩⟩, hid⟩
        · rw [h3, ← List.append_assoc, ← flatP_app, List.take_append_drop]
        · rw [List.length_append, flatP_len, hsp, List.length_take, List.length_drop]
          have := hp.length_eq
          omega
      refine .inr ⟨id, cap, ps, sp, rfl, fun _ => ho, by omega, fun hd => ?_, fun hd l' hp => ?_⟩
      · subst hd
        simp only [List.length_nil, BB1, BB5, Pos.isHp, List.filter_nil, dropLk, BB0, Nat.reduceLT, movK, Nat.reduceBEq, BB3, dlh64, BB4, constDV, Int.reduceLT, if_false, Option.map_none, Option.map_some, sch64, dbound, Int.reduceLE, Nat.zero_mul, Nat.add_zero, Int.reduceToNat, Nat.reduceSub, takK, BB6, true_and]
        exact ⟨by omega, hK H2 _ [] f2 (.refl _) (key H2 [] f2 (.refl _) ho)⟩
      · have hpl := hp.length_eq
        have hm : (if (64 : Int) < (ps.length : Int) then 64 else (ps.length : Int)) = (((l'.take 64).length : Nat) : Int) := by
          rw [List.length_take]
          split <;> omega
        have hlt : (l'.take 64).length ≤ ps.length := by rw [List.length_take]; omega
        simp only [BB1, BB5, Pos.isHp, List.filter_nil, dropLk, BB0, Nat.reduceLT, movK, Nat.reduceBEq, BB3, dlh64, constDV, BB4, hm, Option.map_none, Option.map_some, sch64, dbound, Nat.zero_mul, Nat.add_zero, Int.toNat_natCast, takK, BB6, true_and]
        refine ⟨by omega, by omega, ?_⟩
        have f3 : Fr [] H (H2.set id (.cells (flatP l' ++ sp))) := f2.setNew hid
        exact hK _ _ l' f3 hp (key _ l' f3 hp (List.getElem?_set_self (List.getElem?_eq_some_iff.1 ho).1))
end Go.Ab.En
namespace Go.Ab.En
open Go Go.Conc Go.RowKit Go.Ab
set_option maxRecDepth 10000
theorem gE_mem (n : Int) : ∀ (f : Nat) (es : List Ent) (e : Ent), e ∈ (gE f es).filterMap (visG n) → e ∈ es
  | 0, _, e, h => by simp [gE] at h
  | _ + 1, [], e, h => by simp [gE] at h
  | f + 1, x :: r, e, h => by
    obtain ⟨g, hg, hv⟩ := List.mem_filterMap.1 h
    have hsub : ∀ y ∈ g, y ∈ x :: r ∨ y ∈ g := fun y hy => .inr hy
    rcases List.mem_cons.1 hg with rfl | hg
    · unfold visG at hv
      split at hv
      · rename_i y hy
        split at hv
        · cases hv
        · obtain rfl := Option.some.inj hv
          exact (List.takeWhile_prefix _).subset (List.mem_of_getElem? hy)
      · cases hv
    · exact (List.dropWhile_suffix _).subset (gE_mem n f _ e (List.mem_filterMap.2 ⟨g, hg, hv⟩))
theorem scan_key {es : List Ent} (hs : Sorted es) {a b : Str} (ha : a ≠ []) {n : Int} {p : Pr} (h : p ∈ scanE es a b n) : p.key ≠ [] := by
  unfold scanE at h
  obtain ⟨e, he, rfl⟩ := List.mem_map.1 h
  have h1 := gE_mem n _ _ _ (List.mem_of_mem_take he)
  have h2 := (List.takeWhile_prefix _).subset h1
  obtain ⟨i, hi, rfl⟩ := List.getElem_of_mem h2
  rw [List.getElem_drop]
  intro hk
  have h3 := firstE_ge hs (k := a) (n := 1000000) (j := firstE es a 1000000 + i) (Nat.le_add_right _ _) (by rw [List.length_drop] at hi; omega)
  rw [Bool.eq_false_iff, ne_eq, ltE_iff, not_or] at h3
  refine h3.1 ?_
  simp only at hk
  rw [hk]
  cases a with
  | nil => exact absurd rfl ha
  | cons x r => simp [cmpS, Lib.compareBytes]
def cutP (p : Pr) : Pr := ⟨p.key.drop 1, p.val⟩
def scdE (es : List Ent) (c : Int) (a b : Str) (n : Int) : List Pr := (scanE es (lowE c a) (highE c b) n).map cutP
noncomputable def b90 : Code := (Go.Proofs.Tryz.f90.body).getD .skip
theorem hb90 : Go.Proofs.Tryz.f90.body = some b90 := by kernel_rfl
def SScd : Spec := fun H args K => ∃ (D : DealS) (E : EngS) (m : Nat) (c : Int) (a b : Str), args = [.ptr D.d 0, .int .u8 c, .str a, .str b] ∧ D.At H ∧ D.over = false ∧ E.x = D.x ∧ E.At H ∧ E.Good m ∧ m < 300 ∧ 0 ≤ c ∧ c < 256 ∧ a.length < 4000000000000000000 ∧ b.length < 4000000000000000000 ∧
  ∀ H', Fr [] H H' → K H' (.tup [.sl true 2 ((scdE E.es c a b (min D.n m)).map prD), .int .i64 0])
def MSd2 (H : List HObj) (l : List Pr) (k : Nat) (st : St) : Prop := ∃ (i : Nat) (B : List (Nat × Nat × List DV)), i ≤ l.length ∧ k = l.length - i ∧ (B = [] ∨ ∃ g c, B = [(16, g, c)]) ∧
  st = mk 54 [(14, .sl true 2 (((l.take i).map cutP).map prD)), (37, .sl false 2 (l.map prD)), (38, .int .i64 l.length), (39, .int .i64 i)] B H []
set_option maxHeartbeats 4000000 in
theorem rcScd {I : Jd pp} (hI : ∀ w e, I.Ok w e) (hS : RC I 58 SSnScan) : RC I 90 SScd := by
  refine rc_of_code (isObj := noO) (Γ := envOf [(154, SEnds), (58, SSnScan)]) (rs := [8, 9]) mixed hI (envOf_rc (by simpa using ⟨rcEnds hI, hS⟩)) Go.Proofs.Tryz.func90 (by kernel_rfl) hb90 Go.Proofs.Tryz.results90 Go.Proofs.Tryz.ntmps90 (by decide) ?_
  rintro H args K ⟨D, E, m, c, a, b, rfl, h1, ho, hx, h2, hg, hm, c0, c1, la, lb, hK⟩
  have t0 := h1.top
  have sn := h1.snap
  rw [ho] at sn
  refine ⟨by simp, rfl, ?_⟩
  unfold b90 Go.Proofs.Tryz.f90
  simp only [Option.getD_some, argSlots, BB2, Nat.zero_add, BB1, Nat.reduceAdd, BB0, constDV, Proofs.Tryz.underlying64, cn96, dropLk, Nat.reduceLT, movK, Nat.reduceBEq, BB3, BB4, BB5, Nat.reduceEqDiff, if_false, if_true, List.all_cons, List.all_nil, Bool.and_self, List.map_cons, List.map_nil, true_and]
  refine appEnds c0 c1 la lb ?_
  simp only [BB1, BB5, Pos.isHp, List.filter_nil, dropLk, BB0, Nat.reduceLT, movK, BB3, BB2, List.map_cons, List.map_nil, extK, Nat.reduceBEq, takK, dnil, fp143_1, Nat.zero_add, t0, List.drop_succ_cons, List.drop_zero, la34, BB4, Nat.reduceEqDiff, if_true, if_false, List.all_cons, List.all_nil, Bool.and_self, true_and]
  refine appSnScanX hx sn h2 hg hm fun H1 f1 => ?_
  simp only [BB1, BB5, Pos.isHp, List.filter_nil, dropLk, BB0, Nat.reduceLT, movK, BB3, BB2, List.map_cons, List.map_nil, extK, Nat.reduceEqDiff, Nat.zero_add, if_false, Nat.reduceBEq, Pos.atSlot, Bool.or_self, Bool.false_eq_true, takK, lkGet, if_true, BB6, pt1, reduceCtorEq, BB4, constDV, ne_eq, not_true_eq_false, decide_false, cd_f, Proofs.Tryz.underlying64, cn96, dl64, List.length_map]
  have hkey : ∀ p ∈ scanE E.es (lowE c a) (highE c b) (min D.n m), p.key ≠ [] := fun p hp => scan_key h2.sorted (by simp [lowE, keyS]) hp
  have hll := scanE_len E.es (lowE c a) (highE c b) (min D.n m)
  have hfin := hK H1 f1
  unfold scdE at hfin
  generalize scanE E.es (lowE c a) (highE c b) (min D.n m) = l at *
  refine w_loop [14, 37, 38, 39] (MSd2 H1 l) l.length ?_ ?_
  · exact ⟨0, [], by omega, by omega, .inl rfl, by simp only [BB1, List.map_cons, Nat.reduceBEq, BB3, List.map_nil, List.take_zero, BB4]; try rfl⟩
  · rintro k st ⟨i, B, hi, rfl, hB, rfl⟩
    obtain ⟨g, hb1, hb2⟩ := box1 hB
    by_cases e : i < l.length
    · have e1 : (i : Int) < l.length := by omega
      have e2 : (0 : Int) ≤ i := by omega
      have wi : IntKind.i64.wrap ((i : Int) + 1) = ((i + 1 : Nat) : Int) := by rw [wrap_i64 (by omega) (by omega)]; omega
      have hx2 := prD_get e
      have hk := hkey _ (List.getElem_mem e)
      have hk1 : 1 ≤ (l[i]).key.length := List.length_pos_iff.2 hk
      have hk2 : (1 : Int) ≤ ((l[i]).key.length : Int) := by omega
      simp only [BB0, BB1, BB4, Bool.false_eq_true, Nat.reduceLT, Nat.reduceBEq, BB3, e1, decide_true, dropLk, cd_t, ix64, e2, List.length_map, Int.toNat_natCast, hx2, la96, List.length_cons, List.length_nil, Nat.zero_add, Nat.reduceAdd, Nat.reduceLeDiff, List.take_succ_cons, List.take_zero, List.map_cons, List.map_nil, al96, isO_eq, hb1, hb2, if_false, takK, if_true, Proofs.Tryz.underlying96, Option.isSome_some, cn96, List.all_cons, List.all_nil, Bool.and_self, List.nil_append, List.drop_succ_cons, List.drop_nil, List.append_nil, Pos.inBox, List.filter_nil, true_and]
      refine w_draw [0, 3, 6, 7, 8, 9] (.quiet 1 (.quiet 2 (.quiet 4 (.quiet 5 (.acts [(0, [5, 4, 2, 1], .acts [(3, [5, 4], .acts [(6, [], .acts [(7, [], .acts [(8, [], .acts [(9, [], .done)])])])])]), (3, [5, 4], .acts [(0, [5, 4, 2, 1], .acts [(6, [], .acts [(7, [], .acts [(8, [], .acts [(9, [], .done)])])])]), (6, [], .acts [(0, [5, 4, 2, 1], .acts [(7, [], .acts [(8, [], .acts [(9, [], .done)])])]), (7, [], .acts [(0, [5, 4, 2, 1], .acts [(8, [], .acts [(9, [], .done)])])])])])]))))) (by decide) (by kernel_rfl) ?_
      simp only [BB0, BB5, BB1, Nat.reduceLT, Nat.reduceBEq, BB3, fl96_0, Nat.add_zero, dropLk, if_true, List.drop_zero, la9, true_and, fl96_1, Nat.zero_add, List.drop_succ_cons, movK, Nat.reduceEqDiff, if_false, and_true, dropLks, Pos.atSlot, Bool.or_self, Bool.false_eq_true, Option.map_some, constDV, Option.map_none, sc9, dbound, Int.reduceLE, hk2, Int.reduceToNat, bd96, bd96_0, takK, BB6, List.length_cons, List.length_nil, Nat.reduceAdd, Nat.reduceLeDiff, List.all_cons, List.all_nil, Bool.and_self, BB4, List.take_zero, List.nil_append, List.cons_append, bd96_1, List.take_succ_cons, List.drop_nil, List.append_nil, bs64_1, isO_eq, List.map_cons, List.map_nil, beq_self_eq_true, apo64_64, lkGet, ap64_64, List.length_map, Bool.or_true, wi]
      have htk : ((l.take i).map cutP).map prD ++ [.agg [.str (List.drop 1 (List.take (List.length l[i].key) l[i].key)), .str l[i].val]] = ((l.take (i + 1)).map cutP).map prD := by
        rw [List.take_succ_eq_append_getElem e, List.map_append, List.map_append, List.take_length]; rfl
      have hit : (l.take i).length = i := by rw [List.length_take]; omega
      rw [htk, hit]
      repeat' with_reducible apply And.intro
      all_goals
        first
          | omega
          | (refine ⟨_, ?_, i + 1, _, by omega, rfl, .inr ⟨_, _, rfl⟩, rfl⟩; omega)
    · obtain rfl : i = l.length := by omega
      have e1 : ¬ (l.length : Int) < l.length := by omega
      simp only [List.take_length, BB0, BB1, BB4, Bool.false_eq_true, Nat.reduceLT, Nat.reduceBEq, BB3, e1, decide_false, dropLk, cd_f, movK, Nat.reduceEqDiff, if_false, takK, lkGet, if_true, BB6, Pos.atSlot, Bool.or_self, constDV, and_true, true_and]
      exact hfin
noncomputable def b35 : Code := (Go.Proofs.Tryz.f35.body).getD .skip
theorem hb35 : Go.Proofs.Tryz.f35.body = some b35 := by kernel_rfl
def SDScan : Spec := fun H args K => ∃ (D : DealS) (E : EngS) (m : Nat) (c : Int) (a b : Str), args = [.ptr D.d 0, .int .u8 c, .str a, .str b] ∧ c = D.home ∧ D.At H ∧ D.over = false ∧ E.x = D.x ∧ E.At H ∧ E.Good m ∧ m < 300 ∧ 0 ≤ c ∧ c < 256 ∧ a.length < 4000000000000000000 ∧ b.length < 4000000000000000000 ∧ D.ws = [] ∧ D.reads.length < 100000 ∧
  ∀ H' v (l' : List Pr), Fr [D.d] H H' → DealS.At { D with reads := D.reads ++ [⟨c, true, a, b, scdE E.es c a b (min D.n m)⟩] } H' → l'.Perm (scdE E.es c a b (min D.n m)) → OutP H H' v (l'.take 64) → K H' (.tup [v, .int .i64 0])
set_option maxHeartbeats 4000000 in
theorem rcDScan {I : Jd pp} (hI : ∀ w e, I.Ok w e) (hS : RC I 58 SSnScan) (hP : RC I 157 SSortP) : RC I 35 SDScan := by
  refine rc_of_code (isObj := noO) (Γ := envOf [(90, SScd), (91, SUpN)]) (rs := [8, 9]) mixed hI (envOf_rc (by simpa using ⟨rcScd hI hS, rcUpN hI hP⟩)) Go.Proofs.Tryz.func35 (by kernel_rfl) hb35 Go.Proofs.Tryz.results35 Go.Proofs.Tryz.ntmps35 (by decide) ?_
  rintro H args K ⟨D, E, m, c, a, b, rfl, hc, h1, ho, hx, h2, hg, hm, c0, c1, la, lb, hwl, hrl, hK⟩
  subst hc
  have t0 := h1.top
  rw [ho] at t0
  refine ⟨by simp, rfl, ?_⟩
  unfold b35 Go.Proofs.Tryz.f35
  simp only [Option.getD_some, argSlots, BB2, Nat.zero_add, BB1, Nat.reduceAdd, BB0, constDV, Proofs.Tryz.underlying64, cn96, dropLk, Nat.reduceLT, movK, Nat.reduceBEq, BB3, dnil, fp143_5, t0, List.drop_succ_cons, List.drop_zero, la4, cd_f, BB4, BB5, Nat.reduceEqDiff, if_false, if_true, List.all_cons, List.all_nil, Bool.and_self, List.map_cons, List.map_nil, true_and]
  refine ⟨D, E, m, D.home, a, b, rfl, h1, ho, hx, h2, hg, hm, c0, c1, la, lb, fun H1 f1 => ?_⟩
  have d1 := h1.fr f1 (by simp)
  have t1 := d1.top
  rw [ho] at t1
  have w2 : IntKind.i64.wrap D.home = D.home := wrap_i64 (by omega) (by omega)
  obtain ⟨sc, hsc⟩ : ∃ sc, scdE E.es D.home a b (min D.n m) = sc := ⟨_, rfl⟩
  rw [hsc] at hK
  have lt1 := (List.getElem?_eq_some_iff.1 t1).1
  have g1 : ∀ X, (H1.set D.d X)[D.d]? = some X := fun X => List.getElem?_set_self lt1
  simp only [hsc, BB1, BB5, Pos.isHp, List.filter_nil, dropLk, BB0, Nat.reduceLT, movK, BB3, BB2, List.map_cons, List.map_nil, extK, Nat.reduceEqDiff, Nat.zero_add, if_false, Nat.reduceBEq, Pos.atSlot, Bool.or_self, Bool.false_eq_true, takK, lkGet, if_true, BB6, pt1, reduceCtorEq, BB4, constDV, ne_eq, not_true_eq_false, decide_false, cd_f, dnil, fp143_3, t1, List.drop_succ_cons, List.drop_zero, la67, addrPos, ia67, cv5_3, w2, bd148, isO_eq, BB7, bd148_0, List.length_cons, List.length_nil, Nat.reduceAdd, Nat.reduceLeDiff, List.all_cons, List.all_nil, Bool.and_self, List.take_zero, List.nil_append, List.cons_append, bd148_1, List.take_succ_cons, bd148_2, bd148_3, bd148_4, List.drop_nil, List.append_nil, bs67_1, beq_self_eq_true, apo67_67, List.getElem?_cons_succ, List.getElem?_cons_zero, List.getD_cons_succ, List.getD_cons_zero, List.set_cons_succ, List.set_cons_zero, ap67_67, g1, Proofs.Tryz.underlying67, Option.isSome_some, cn67, List.set_set, Pos.inHp, List.filter_cons, Bool.not_true, fp143_2, la5, decide_true, cd_t, true_and]
  have hup : DealS.At { D with reads := D.reads ++ [⟨D.home, true, a, b, sc⟩] } (H1.set D.d (.cells [.ptr D.x 0, .ptr D.s 0, .int .u8 D.home, .sl true 5 (D.reads.map rdD ++ [.agg [.int .i64 D.home, .bool true, .str a, .str b, .sl false 2 (sc.map prD)]]), .hsl D.wi 3 0 D.ws.length D.cap, .bool false])) :=
    h1.readUp f1 (D.reads ++ [⟨D.home, true, a, b, sc⟩]) _ (by rw [ho, List.map_append]; rfl)
  have hsl : sc.length < 100000 := by
    rw [← hsc]
    unfold scdE scanE
    rw [List.length_map, List.length_map, List.length_take]; omega
  refine ⟨by rw [List.length_map]; omega, by rw [List.length_map]; omega, ?_⟩
  refine ⟨{ D with reads := D.reads ++ [⟨D.home, true, a, b, sc⟩] }, false, sc, a, b, rfl, hup, hwl, hsl, fun H2 v l' f2 hp o2 => ?_⟩
  have hfin := fun v' (o : OutP H H2 v' (l'.take 64)) => hK H2 v' l' (((f1.trans (Fr.set _ D.d _)).trans f2).mono (by simp)) (hup.fr f2 (by simp)) hp o
  have hle : H.length ≤ (H1.set D.d (HObj.cells [.ptr D.x 0, .ptr D.s 0, .int .u8 D.home, .sl true 5 (D.reads.map rdD ++ [.agg [.int .i64 D.home, .bool true, .str a, .str b, .sl false 2 (sc.map prD)]]), .hsl D.wi 3 0 D.ws.length D.cap, .bool false])).length := by
    rw [List.length_set]; exact f1.1
  rcases o2 with ⟨own2, rfl, e⟩ | ⟨id, cap, rfl, q1, q2, q3⟩
  · cases own2
    all_goals
      simp only [BB1, BB5, Pos.isHp, List.filter_nil, dropLk, BB0, Nat.reduceLT, takK, BB3, lkGet, constDV, BB6, Nat.reduceBEq, and_true, true_and]
      exact hfin _ (.inl ⟨_, rfl, e⟩)
  · simp only [BB1, BB5, Pos.isHp, List.filter_nil, dropLk, BB0, Nat.reduceLT, takK, BB3, constDV, BB6, Nat.reduceBEq, and_true, true_and]
    exact hfin _ (.inr ⟨id, cap, rfl, q1, q2, Nat.le_trans hle q3⟩)
end Go.Ab.En
namespace Go.Ab.En
open Go Go.Conc Go.RowKit Go.Ab
set_option maxRecDepth 10000
theorem capQ {A R : Prop} (h : A) (g : A → R) : R := g h
theorem ex_trQ {k : List UInt8} : (∃ x, some k = some x ∧ DV.str k = DV.str x) = True := by simp
theorem ex_strQ {k : List UInt8} {F : DV → Prop} : ex (fun dv => ∃ x, some k = some x ∧ dv = DV.str x) F = F (.str k) := by simp [ex]
theorem L_dscan : RC (loneJ pp) 35 SDScan := rcDScan hI1 L_sscan rcSortP
section
variable {H : List HObj} {K : List HObj → DV → Prop} {E : EngS} {x m : Nat} {es : List Ent} {hd : Hd} {D : DealS}
theorem appScanX {a b : Str} {p : Nat} (hpd : D.d = p) (h : E.Is x m es hd H) (hD : D.On E H) (hm : m < 300) (ho : D.over = false) (hh : D.home = 97) (la : a.length < 4000000000000000000) (lb : b.length < 4000000000000000000) (hw : D.ws = []) (hr : D.reads.length < 100000)
    (hK : ∀ H' v (l' : List Pr) (D' : DealS), Fr [D.d] H H' → E.Is x m es hd H' → D'.On E H' → D' = { D with reads := D.reads ++ [⟨97, true, a, b, scdE es 97 a b (min D.n m)⟩] } → l'.Perm (scdE es 97 a b (min D.n m)) → OutP H H' v (l'.take 64) → K H' (.tup [v, .int .i64 0])) : app SDScan H [.ptr p 0, .int .u8 97, .str a, .str b] K := by
  subst hpd
  refine ⟨D, E, m, 97, a, b, rfl, hh.symm, hD.at', ho, hD.hx, h.at', h.good, hm, by omega, by omega, la, lb, hw, hr, fun H' v l' f a' hp o => ?_⟩
  rw [h.es'] at a' hp
  exact hK H' v l' _ f (h.fr f (fun y hy => by rw [List.mem_singleton.1 hy]; exact hD.ap _ (by simp [DealS.all]))) ⟨a', hD.hx, fun y hy => hD.ap y hy⟩ rfl hp o
end
theorem rd_okQ {a b : Str} {n : Int} {es : List Ent} (la : a.length < 4000000000000000000) (lb : b.length < 4000000000000000000) (h : (scdE es 97 a b n).length < 100000) : ∀ r ∈ [(⟨97, true, a, b, scdE es 97 a b n⟩ : Rd)], RdOk r := fun r hr => by
  rw [List.mem_singleton.1 hr]
  exact ⟨by show (0 : Int) ≤ 97; omega, by show (97 : Int) < 256; omega, la, lb, h⟩
section
variable {H : List HObj} {K : List HObj → DV → Prop} {E : EngS} {x m : Nat} {es : List Ent} {hd : Hd} {D : DealS}
theorem appComR {p : Nat} (hpd : D.d = p) (h : E.Is x m es hd H) (hD : D.On E H) (hm : m < 299) (c0 : 0 ≤ cntI hd D.n) (c1 : cntI hd D.n < 1000000000) (hrd : ∀ r ∈ D.reads, RdOk r) (hrl : D.reads.length < 100000) (hwl : D.ws.length < 100000) (hkl : ∀ w ∈ D.ws, w.key.length < 4000000000000000000) (hb : isBatch (neatW (homeW D.home D.ws)) = true)
    (hK : ∀ H' (r1 r2 : Int), r2 = (if comD D es m then 0 else readyC D.over es D.n m D.reads) → K H' (.tup [.int .i64 r1, .int .i64 r2])) : app SCommit H [.ptr p 0] K :=
  appComX hpd h hD hm c0 c1 hrd hrl hwl hkl hb fun H' _ _ _ _ _ _ _ _ _ _ _ _ _ => hK H' _ _ rfl
end
theorem scd_len (es : List Ent) (c : Int) (a b : Str) (n : Int) : (scdE es c a b n).length < 100000 := by
  unfold scdE scanE
  rw [List.length_map, List.length_map, List.length_take]; omega
theorem key_ofQ {a : Int} (h0 : 0 ≤ a) (_h1 : a < 256) : ∃ i : Fin 10, bytesOf [DV.int .u8 (IntKind.u8.wrap (97 + a.tmod 10))] = some (keyC i) := by
  have h2 : a.tmod 10 = a % 10 := Int.tmod_eq_emod_of_nonneg h0
  refine ⟨⟨(a % 10).toNat, by omega⟩, ?_⟩
  rw [h2, wrap_u8 (by omega) (by omega)]
  have h3 : (97 + a % 10).toNat = 97 + (a % 10).toNat := by omega
  simp [bytesOf, keyC, h3]
def wsP : List Wr := [⟨[97, 99], false, [49]⟩, ⟨[97, 102], false, [50]⟩]
def esP : List Ent := (entsB 1 (neatW wsP)).foldl putE []
def yW (k : Str) (del : Bool) : Wr := ⟨k, del, if del then [] else [110, 101, 119]⟩
def esY (k : Str) (del : Bool) : List Ent := (entsB 2 (neatW (homeW 97 [yW k del]))).foldl putE esP
def inK (k lo hi : Str) : Bool := !Op.bytesLess k lo && Op.bytesLess k hi
theorem phantom : ∀ (z i j : Fin 10) (del : Bool), movedE (esY (keyC z) del) 1 2 ⟨97, true, keyC i, keyC j, []⟩ = (inK (keyC z) (keyC i) (keyC j) && (!del || (decide (keyC z = [99]) || decide (keyC z = [102])))) := by decide +kernel
theorem phY : ∀ (z : Fin 10) (del : Bool), writeC false [] (yW (keyC z) del) = 0 ∧ writeW false [] (yW (keyC z) del) = [yW (keyC z) del] ∧ isBatch (neatW (homeW 97 [yW (keyC z) del])) = true := by decide +kernel
noncomputable def b28 : Code := (Go.Proofs.Tryz.f28.body).getD .skip
theorem hb28 : Go.Proofs.Tryz.f28.body = some b28 := by kernel_rfl
def SOpn : Spec := fun H args K => args = [] ∧ ∀ H' (E : EngS), Fr [] H H' → E.Is E.x 0 [] [] H' → K H' (.ptr E.x 0)
theorem rcOpn : RC (loneJ pp) 28 SOpn := by
  have hI := hI1
  refine rc_of_code (isObj := noO) (Γ := envOf [(17, S17), (16, SMade)]) (rs := [0]) mixed hI (envOf_rc (by simpa using ⟨L_new, L_open⟩)) Go.Proofs.Tryz.func28 (by kernel_rfl) hb28 Go.Proofs.Tryz.results28 Go.Proofs.Tryz.ntmps28 (by decide) ?_
  rintro H args K ⟨rfl, hK⟩
  refine ⟨by simp, rfl, ?_⟩
  unfold b28 Go.Proofs.Tryz.f28
  simp only [Option.getD_some, argSlots, BB0, BB1, constDV, dropLk, BB4, BB5, Nat.reduceEqDiff, if_false, if_true, List.all_cons, List.all_nil, Bool.and_self, List.map_cons, List.map_nil, true_and]
  refine capp17 fun H1 f1 l1 s1 => ?_
  simp only [BB1, BB5, Pos.isHp, List.filter_nil, dropLk, BB0, BB4, Nat.reduceLT, BB3, Nat.reduceEqDiff, if_true, if_false, List.all_cons, BB2, List.all_nil, Bool.and_self, List.map_cons, List.map_nil, true_and]
  refine appMadeX s1 (by decide) fun H2 E f2 a2 g2 es2 hd2 => ?_
  simp only [BB1, BB5, Pos.isHp, List.filter_nil, dropLk, BB0, Nat.reduceLT, movK, BB3, BB2, List.map_cons, List.map_nil, extK, Nat.reduceBEq, takK, BB4, Bool.false_eq_true, constDV, ne_eq, not_true_eq_false, decide_false, cd_f, BB6, true_and, if_false]
  exact hK H2 E ((f1.trans f2).mono fun j hj hm => by simp at hm; omega) ⟨rfl, a2, g2, es2, hd2⟩
noncomputable def b7 : Code := (Go.Proofs.Tryz.f7.body).getD .skip
theorem hb7 : Go.Proofs.Tryz.f7.body = some b7 := by kernel_rfl
set_option maxHeartbeats 8000000 in
theorem law6 {N0 : Nat} {w0 : World} {d : Nat} {G : Gh} {w : World} {vs : Array Value} (a b c : Int) (del : Bool) (ha : 0 ≤ a) (ha2 : a < 256) (hb : 0 ≤ b) (hb2 : b < 256) (hc : 0 ≤ c) (hc2 : c < 256) (hW : WRel N0 w0 G w []) (hF : Fits G w [.int .u8 a, .int .u8 b, .int .u8 c, .bool del] vs) :
    Calls pp 7 vs w fun e w' => ∃ v, e = .returned v ∧ Back N0 w0 d G w (fun _ dv => dv = .bool true) v w' := by
  refine calls_of_code (isObj := noO) (Γ := envOf [(27, SKn), (28, SOpn), (18, SDo), (29, SDOpen), (35, SDScan), (30, SPut), (31, SDel), (37, SCommit)]) (rs := [8]) mixed (envOf_rc (by simpa using ⟨rcKn17, rcOpn, L_do, L_dopen, L_dscan, L_put, L_del, L_commit⟩)) Go.Proofs.Tryz.func7 hb7 Go.Proofs.Tryz.results7 Go.Proofs.Tryz.ntmps7 (by decide) (args := [.int .u8 a, .int .u8 b, .int .u8 c, .bool del]) (by simp) rfl ?_ hW hF
  unfold b7 Go.Proofs.Tryz.f7
  simp only [List.append_eq, List.cons_append, List.nil_append, Option.getD_some, argSlots, BB1, Nat.zero_add, Nat.reduceAdd, BB0, constDV, dropLk, BB4, BB5, Nat.reduceEqDiff, if_false, if_true, List.all_nil, List.map_nil, true_and]
  refine ⟨rfl, fun H0 => ?_⟩
  simp only [BB1, BB5, Pos.isHp, List.filter_nil, dropLk, BB0, Nat.reduceLT, BB3, BB4, Bool.not_true, cd_f, Nat.reduceEqDiff, if_false, if_true, List.all_nil, List.map_nil, true_and]
  refine ⟨rfl, fun H1 E1 f1 i1 => ?_⟩
  obtain ⟨x, hx⟩ : ∃ x, E1.x = x := ⟨_, rfl⟩
  rw [hx] at i1
  simp only [hx, BB1, BB5, Pos.isHp, List.filter_nil, dropLk, BB0, Nat.reduceLT, takK, BB3, BB2, movK, BB4, Bool.false_eq_true, constDV, p_eql Go.Proofs.Tryz.underlying23, cd_f, Nat.reduceBEq, bd32, bd32_0, BB6, List.length_cons, List.length_nil, Nat.zero_add, Nat.reduceAdd, Nat.reduceLeDiff, List.all_cons, List.all_nil, Bool.and_self, List.take_zero, List.nil_append, List.drop_succ_cons, List.drop_zero, List.cons_append, bd32_2, List.take_succ_cons, List.drop_nil, List.append_nil, bs33_2, isO_eq, List.map_cons, List.map_nil, beq_self_eq_true, Nat.reduceEqDiff, if_false, if_true, true_and]
  refine appDoX wsP hx i1.at' i1.good (by omega) (.inl ⟨_, rfl⟩) (by decide) (by decide +kernel) fun H2 E2 f2 hx2 a2 g2 es2 hd2 al2 => ?_
  have i2 : E2.Is x 1 esP [] H2 := ⟨hx2, a2, g2, by rw [es2, i1.es']; rfl, by rw [hd2, i1.held]⟩
  simp only [Nat.zero_add, BB4, BB1, BB5, Pos.isHp, List.filter_nil, dropLk, BB0, Nat.reduceLT, movK, Nat.reduceBEq, BB3, BB2, constDV, Nat.reduceEqDiff, if_false, if_true, List.all_cons, List.all_nil, Bool.and_self, List.map_cons, List.map_nil, true_and]
  refine appDOpenX i2 (by decide) (by decide) fun H3 E3 X f3 i3 al3 X3 nX mX rX wX oX lX => ?_
  obtain ⟨p, hp⟩ : ∃ p, X.d = p := ⟨_, rfl⟩
  simp only [hp, BB1, BB5, Pos.isHp, List.filter_nil, dropLk, BB0, Nat.reduceLT, movK, Nat.reduceBEq, BB3, BB2, BB4, constDV, Nat.reduceEqDiff, if_false, if_true, List.all_cons, List.all_nil, Bool.and_self, List.map_cons, List.map_nil, true_and]
  refine appDOpenX i3 (by decide +kernel) (by decide +kernel) fun H4 E4 Y f4 i4 al4 Y4 nY mY rY wsY oY lY => ?_
  obtain ⟨q, hq⟩ : ∃ q, Y.d = q := ⟨_, rfl⟩
  have X4 : X.On E4 H4 := X3.move f4 X3.ap (by rw [i4.hx, i3.hx]) fun y hy => .inl (by rw [← al4]; exact hy)
  have hXY : ∀ y ∈ X.all, y ∉ Y.all := fun y hy hm => by
    have h1 := X3.at'.lt y hy
    have h2 := lY y hm
    omega
  simp only [hq, BB1, BB5, Pos.isHp, List.filter_nil, dropLk, BB0, Nat.reduceLT, takK, Nat.reduceBEq, BB3, BB2]
  refine w_draw [3, 8, 10, 11] (.quiet 0 (.quiet 1 (.quiet 2 (.quiet 5 (.quiet 6 (.quiet 7 (.acts [(3, [7, 6, 5], .quiet 4 (.acts [(8, [4, 2, 1, 0], .quiet 9 (.acts [(10, [9, 7, 6, 5], .acts [(11, [], .done)])])), (10, [7, 6, 5], .acts [(8, [4, 2, 1, 0], .quiet 9 (.acts [(11, [], .done)]))])])), (8, [2, 1, 0], .quiet 9 (.acts [(3, [9, 7, 6, 5], .quiet 4 (.acts [(10, [9, 7, 6, 5], .acts [(11, [], .done)])]))]))]))))))) (by decide) (by kernel_rfl) ?_
  obtain ⟨i, hi⟩ := key_ofQ hb hb2
  obtain ⟨j, hj⟩ := key_ofQ hc hc2
  obtain ⟨z, hz⟩ := key_ofQ ha ha2
  simp only [BZ1, BZ2, Nat.reduceLT, Nat.reduceBEq, dropLk, BZ3, constDV, ne_eq, Int.reduceEq, not_false_eq_true, true_and, bs36_1, isO_eq, List.all_cons, List.length_cons, List.length_nil, Nat.zero_add, beq_self_eq_true, List.all_nil, Bool.and_self, and_self, dropLks, q_conv, cv36_9, hi, ex_strQ, ex_trQ, hj, takK, and_true]
  obtain ⟨lo, hlo⟩ : ∃ lo, keyC i = lo := ⟨_, rfl⟩
  obtain ⟨hi', hhi⟩ : ∃ k, keyC j = k := ⟨_, rfl⟩
  simp only [hlo, hhi] at hi hj ⊢
  refine' capQ (A := ∀ l : List (Nat × DV), (look 0 l = .int .u8 a ∧ look 3 l = .bool del ∧ look 10 l = .ptr p 0 ∧ look 11 l = .ptr q 0 ∧ look 12 l = .str lo ∧ look 13 l = .str hi') → dwp pp noO _ _ _ (mk 110 l [] H4 [])) ?h ?g
  case g =>
    intro key
    repeat' with_reducible apply And.intro
    all_goals
      with_reducible refine key _ ?_
      exact ⟨rfl, rfl, rfl, rfl, rfl, rfl⟩
  rintro l ⟨k0, k3, k10, k11, k12, k13⟩
  have lol : lo.length < 4000000000000000000 := by rw [← hlo]; simp [keyC]
  have hil : hi'.length < 4000000000000000000 := by rw [← hhi]; simp [keyC]
  rw [w_seq]
  simp only [BB0, BB1, Nat.reduceLT, movK, k10, BB2, dropLk, Nat.reduceBEq, BB3, k12, k13, BB4, constDV, BB5, Nat.reduceEqDiff, if_false, if_true, List.all_cons, List.all_nil, Bool.and_self, List.map_cons, List.map_nil, true_and]
  refine appScanX hp i4 X4 (by decide) oX mX lol hil wX (by rw [rX]; decide) fun H5 v5 l5 X5 f5 i5 X5on e5 _ o5 => ?_
  refine' capQ (A := ∀ l : List (Nat × DV), (look 0 l = .int .u8 a ∧ look 3 l = .bool del ∧ look 10 l = .ptr p 0 ∧ look 11 l = .ptr q 0 ∧ look 12 l = .str lo ∧ look 13 l = .str hi') → dwp pp noO _ _ _ (mk 110 l [] H5 [])) ?h5 ?g5
  case g5 =>
    intro key
    rcases o5 with ⟨own5, rfl, _⟩ | ⟨id5, cap5, rfl, _⟩
    · cases own5
      all_goals
        simp only [hold_app2, mk_called, Pos.isHp, List.filter_nil, mk_put?_some, dropLk, hold_app, tS_nil]
        with_reducible refine key _ ?_
        exact ⟨k0, k3, k10, k11, k12, k13⟩
    · simp only [hold_app2, mk_called, Pos.isHp, List.filter_nil, mk_put?_some, dropLk, hold_app, tS_nil]
      with_reducible refine key _ ?_
      exact ⟨k0, k3, k10, k11, k12, k13⟩
  clear o5 k0 k3 k10 k11 k12 k13 l
  rintro l ⟨k0, k3, k10, k11, k12, k13⟩
  rw [w_seq]
  simp only [BB0, BB1, Nat.reduceLT, movK, k10, BB2, dropLk, BB4, BB3, constDV, BB5, Nat.reduceEqDiff, if_false, if_true, List.all_cons, List.all_nil, Bool.and_self, List.map_cons, List.map_nil, true_and]
  have p5 : X5.d = p := by rw [e5]; exact hp
  have a5 : X5.all = X.all := by rw [e5]; rfl
  have w5 : X5.ws = [] := by rw [e5]; exact wX
  have o5 : X5.over = false := by rw [e5]; exact oX
  have n5 : X5.n = 1 := by rw [e5]; exact nX
  have m5 : X5.home = 97 := by rw [e5]; exact mX
  have r5 : X5.reads = [⟨97, true, lo, hi', scdE esP 97 lo hi' (min X.n 1)⟩] := by rw [e5, rX]; rfl
  have Y5 := Y4.fr f5 fun y hy hm => hXY X.d (by simp [DealS.all]) (by rw [List.mem_singleton.1 hm] at hy; exact hy)
  refine appPutX p5 i5 X5on (by rw [w5]; decide) (by rw [w5]; exact List.nodup_nil) (by decide) fun H6 X6 f6 i6 X6on d6 s6 n6 m6 r6 o6 w6 l6 => ?_
  rw [o5, w5] at w6
  rw [n5] at n6
  rw [m5] at m6
  rw [r5] at r6
  rw [o5] at o6
  rw [p5] at d6
  rw [o5, w5, show writeC false [] ⟨[122, 122], false, [109, 105, 110, 101]⟩ = 0 by decide +kernel]
  replace w6 : X6.ws = [⟨[122, 122], false, [109, 105, 110, 101]⟩] := w6.trans (by decide +kernel)
  have Y6 := Y5.fr f6 fun y hy hm => hXY y (by rw [← a5]; exact DealS.sub hm) hy
  have hXY6 : ∀ y ∈ X6.all, y ∉ Y.all := fun y hy hm => by
    rcases l6 y hy with h | h
    · exact hXY y (by rw [← a5]; exact h) hm
    · have := Y5.at'.lt y hm; omega
  simp only [BB1, BB5, Pos.isHp, List.filter_nil, dropLk, BB0, Nat.reduceLT, movK, Nat.reduceBEq, BB3, k0, BB4, Bool.false_eq_true, constDV, ne_eq, Int.reduceEq, not_false_eq_true, bs36_1, isO_eq, List.all_cons, List.length_cons, List.length_nil, Nat.zero_add, beq_self_eq_true, List.all_nil, Bool.and_self, cv36_9, takK, k3, true_and, if_false]
  refine ⟨_, hz, ?_⟩
  cases del
  · simp only [cd_f, BB1, BB0, Nat.reduceLT, movK, Nat.reduceBEq, BB3, k11, BB2, dropLk, BB4, constDV, BB5, Nat.reduceEqDiff, if_false, if_true, List.all_cons, List.all_nil, Bool.and_self, List.map_cons, List.map_nil, true_and]
    refine appPutX hq i6 Y6 (by rw [wsY]; decide) (by rw [wsY]; exact List.nodup_nil) (by decide) fun H7 Y7 f7 i7 Y7on d7 s7 n7 m7 r7 o7 w7 l7 => ?_
    obtain ⟨c1, c2, c3⟩ := phY z false
    rw [oY, wsY, show (⟨keyC z, false, [110, 101, 119]⟩ : Wr) = yW (keyC z) false from rfl, c2] at w7
    rw [oY, wsY, show (⟨keyC z, false, [110, 101, 119]⟩ : Wr) = yW (keyC z) false from rfl, c1]
    rw [nY] at n7
    rw [mY] at m7
    rw [rY] at r7
    rw [oY] at o7
    rw [hq] at d7
    have X7 := X6on.fr f7 fun y hy hm => hXY6 y hy (DealS.sub hm)
    have hXY7 : ∀ y ∈ X6.all, y ∉ Y7.all := fun y hy hm => by
      rcases l7 y hm with h | h
      · exact hXY6 y hy h
      · have := X6on.at'.lt y hy; omega
    simp only [BB1, BB5, Pos.isHp, List.filter_nil, dropLk, BB0, Nat.reduceLT, movK, Nat.reduceBEq, BB3, k11, BB2, BB4, Nat.reduceEqDiff, if_true, if_false, List.all_cons, List.all_nil, Bool.and_self, List.map_cons, List.map_nil, true_and]
    have cmY : comD Y7 esP ((1 : Nat) : Int) = true := by unfold comD; rw [o7, r7, n7, w7]; rfl
    refine appComX d7 i7 Y7on (by decide) (by rw [n7]; decide +kernel) (by rw [n7]; decide +kernel) (by rw [r7]; intro r hr; cases hr) (by simp [r7]) (by simp [w7]) (by rw [w7]; intro w hw; rw [List.mem_singleton.1 hw]; simp [yW, keyC]) (by rw [w7, m7]; exact c3) fun H8 E8 Y8 m8 es8 hd8 f8 i8 Y8on e8 al8 hm8 hes8 hhd8 => ?_
    rw [cmY, if_pos rfl] at hm8 hes8
    rw [cmY, if_pos rfl, if_pos rfl]
    replace hes8 : es8 = esY (keyC z) false := by rw [hes8, w7, m7]; rfl
    rw [o7, n7] at hhd8
    subst hm8 hes8 hhd8
    have X8 := X7.move f8 (fun y hy hm => by
      rcases List.mem_append.1 hm with h | h
      · exact X7.ap y hy h
      · exact hXY7 y hy (by rcases List.mem_cons.1 h with rfl | h; simp [DealS.all]; rw [List.mem_singleton.1 h]; simp [DealS.all])) (by rw [i8.hx, i7.hx]) al8
    simp only [Nat.reduceAdd, BB4, BB1, BB5, Pos.isHp, List.filter_nil, dropLk, BB0, Nat.reduceLT, movK, BB3, BB2, List.map_cons, List.map_nil, extK, Nat.reduceBEq, takK, k10, Nat.reduceEqDiff, if_true, if_false, List.all_cons, List.all_nil, Bool.and_self, true_and]
    have ph := phantom z i j false
    rw [hlo, hhi] at ph
    have cr : readyC X6.over (esY (keyC z) false) X6.n ((1 + 1 : Nat) : Int) X6.reads = if (inK (keyC z) lo hi' && (!false || (decide (keyC z = [99]) || decide (keyC z = [102])))) then 21 else 0 := by
      rw [o6, r6, n6, ← ph]
      show (if (movedE (esY (keyC z) false) 1 2 ⟨97, true, lo, hi', _⟩ || false) = true then (21 : Int) else 0) = _
      rw [Bool.or_false]; rfl
    obtain ⟨k, hk⟩ : ∃ k, keyC z = k := ⟨_, rfl⟩
    obtain ⟨es8, hes8⟩ : ∃ es8, esY (keyC z) false = es8 := ⟨_, rfl⟩
    rw [hes8] at cr i8
    rw [hk] at cr
    have cm : comD X6 es8 ((1 + 1 : Nat) : Int) = !(inK k lo hi' && (!false || (decide (k = [99]) || decide (k = [102])))) := by
      unfold comD
      rw [cr, w6]
      cases inK k lo hi' && (!false || (decide (k = [99]) || decide (k = [102]))) <;> rfl
    have rdok := rd_okQ (es := esP) (n := min X.n 1) lol hil (scd_len _ _ _ _ _)
    obtain ⟨b1, hb1⟩ : ∃ b1, Op.bytesLess k lo = b1 := ⟨_, rfl⟩
    obtain ⟨b2, hb2⟩ : ∃ b2, Op.bytesLess k hi' = b2 := ⟨_, rfl⟩
    obtain ⟨q1, hq1⟩ : ∃ q1, decide (k = [99]) = q1 := ⟨_, rfl⟩
    obtain ⟨q2, hq2⟩ : ∃ q2, decide (k = [102]) = q2 := ⟨_, rfl⟩
    have hres : (if comD X6 es8 ((1 + 1 : Nat) : Int) then (0 : Int) else readyC X6.over es8 X6.n ((1 + 1 : Nat) : Int) X6.reads) = if ((!b1 && b2) && (!false || (q1 || q2))) then 21 else 0 := by
      unfold inK at cm cr
      rw [hb1, hb2, hq1, hq2] at cm cr
      rw [cm, cr]
      cases ((!b1 && b2) && (!false || (q1 || q2))) <;> rfl
    clear cm cr ph
    refine appComR d6 i8 X8 (by decide) ?_ ?_ ?_ ?_ ?_ ?_ ?_ ?_
    · rw [n6]; decide +kernel
    · rw [n6]; decide +kernel
    · rw [r6]; exact rdok
    · rw [r6]; simp
    · rw [w6]; decide
    · rw [w6]; intro w hw; rw [List.mem_singleton.1 hw]; decide
    · rw [w6, m6]; decide +kernel
    intro H9 r1 r2 hr2
    replace hr2 := hr2.trans hres
    clear hres
    cases b1
    · cases b2
      · obtain rfl : r2 = (0 : Int) := hr2
        simp only [BB1, hk, BB5, Pos.isHp, List.filter_nil, dropLk, BB0, Nat.reduceLT, movK, BB3, BB2, List.map_cons, List.map_nil, extK, Nat.reduceBEq, takK, k12, BB4, Bool.false_eq_true, hb1, Bool.not_false, gs2_tt, k13, hb2, constDV, if_true, gs2_ft, if_false, decide_true, Int.reduceEq, decide_false, t_eql Go.Proofs.Tryz.underlying4, beq_self_eq_true, gs2_tf, BB6, and_self]
      · obtain rfl : r2 = (21 : Int) := hr2
        simp only [BB1, hk, BB5, Pos.isHp, List.filter_nil, dropLk, BB0, Nat.reduceLT, movK, BB3, BB2, List.map_cons, List.map_nil, extK, Nat.reduceBEq, takK, k12, BB4, Bool.false_eq_true, hb1, Bool.not_false, gs2_tt, k13, hb2, constDV, if_true, k3, gs2_tf, decide_true, t_eql Go.Proofs.Tryz.underlying4, beq_self_eq_true, Int.reduceEq, decide_false, gs2_ff, if_false, BB6, and_self]
    · obtain rfl : r2 = (0 : Int) := by cases b2 <;> exact hr2
      simp only [BB1, hk, BB5, Pos.isHp, List.filter_nil, dropLk, BB0, Nat.reduceLT, movK, BB3, BB2, List.map_cons, List.map_nil, extK, Nat.reduceBEq, takK, k12, BB4, Bool.false_eq_true, hb1, Bool.not_true, gs2_ft, constDV, if_false, decide_true, gs2_tt, Int.reduceEq, decide_false, t_eql Go.Proofs.Tryz.underlying4, beq_self_eq_true, if_true, gs2_tf, BB6, and_self]
  · simp only [cd_t, BB1, BB0, Nat.reduceLT, movK, Nat.reduceBEq, BB3, k11, BB2, dropLk, BB4, BB5, Nat.reduceEqDiff, if_false, if_true, List.all_cons, List.all_nil, Bool.and_self, List.map_cons, List.map_nil, true_and]
    refine appDelX hq i6 Y6 (by rw [wsY]; decide) (by rw [wsY]; exact List.nodup_nil) fun H7 Y7 f7 i7 Y7on d7 s7 n7 m7 r7 o7 w7 l7 => ?_
    obtain ⟨c1, c2, c3⟩ := phY z true
    rw [oY, wsY, show (⟨keyC z, true, []⟩ : Wr) = yW (keyC z) true from rfl, c2] at w7
    rw [oY, wsY, show (⟨keyC z, true, []⟩ : Wr) = yW (keyC z) true from rfl, c1]
    rw [nY] at n7
    rw [mY] at m7
    rw [rY] at r7
    rw [oY] at o7
    rw [hq] at d7
    have X7 := X6on.fr f7 fun y hy hm => hXY6 y hy (DealS.sub hm)
    have hXY7 : ∀ y ∈ X6.all, y ∉ Y7.all := fun y hy hm => by
      rcases l7 y hm with h | h
      · exact hXY6 y hy h
      · have := X6on.at'.lt y hy; omega
    simp only [BB1, BB5, Pos.isHp, List.filter_nil, dropLk, BB0, Nat.reduceLT, movK, Nat.reduceBEq, BB3, k11, BB2, BB4, Nat.reduceEqDiff, if_true, if_false, List.all_cons, List.all_nil, Bool.and_self, List.map_cons, List.map_nil, true_and]
    have cmY : comD Y7 esP ((1 : Nat) : Int) = true := by unfold comD; rw [o7, r7, n7, w7]; rfl
    refine appComX d7 i7 Y7on (by decide) (by rw [n7]; decide +kernel) (by rw [n7]; decide +kernel) (by rw [r7]; intro r hr; cases hr) (by simp [r7]) (by simp [w7]) (by rw [w7]; intro w hw; rw [List.mem_singleton.1 hw]; simp [yW, keyC]) (by rw [w7, m7]; exact c3) fun H8 E8 Y8 m8 es8 hd8 f8 i8 Y8on e8 al8 hm8 hes8 hhd8 => ?_
    rw [cmY, if_pos rfl] at hm8 hes8
    rw [cmY, if_pos rfl, if_pos rfl]
    replace hes8 : es8 = esY (keyC z) true := by rw [hes8, w7, m7]; rfl
    rw [o7, n7] at hhd8
    subst hm8 hes8 hhd8
    have X8 := X7.move f8 (fun y hy hm => by
      rcases List.mem_append.1 hm with h | h
      · exact X7.ap y hy h
      · exact hXY7 y hy (by rcases List.mem_cons.1 h with rfl | h; simp [DealS.all]; rw [List.mem_singleton.1 h]; simp [DealS.all])) (by rw [i8.hx, i7.hx]) al8
    simp only [Nat.reduceAdd, BB4, BB1, BB5, Pos.isHp, List.filter_nil, dropLk, BB0, Nat.reduceLT, movK, BB3, BB2, List.map_cons, List.map_nil, extK, Nat.reduceBEq, takK, k10, Nat.reduceEqDiff, if_true, if_false, List.all_cons, List.all_nil, Bool.and_self, true_and]
    have ph := phantom z i j true
    rw [hlo, hhi] at ph
    have cr : readyC X6.over (esY (keyC z) true) X6.n ((1 + 1 : Nat) : Int) X6.reads = if (inK (keyC z) lo hi' && (!true || (decide (keyC z = [99]) || decide (keyC z = [102])))) then 21 else 0 := by
      rw [o6, r6, n6, ← ph]
      show (if (movedE (esY (keyC z) true) 1 2 ⟨97, true, lo, hi', _⟩ || false) = true then (21 : Int) else 0) = _
      rw [Bool.or_false]; rfl
    obtain ⟨k, hk⟩ : ∃ k, keyC z = k := ⟨_, rfl⟩
    obtain ⟨es8, hes8⟩ : ∃ es8, esY (keyC z) true = es8 := ⟨_, rfl⟩
    rw [hes8] at cr i8
    rw [hk] at cr
    have cm : comD X6 es8 ((1 + 1 : Nat) : Int) = !(inK k lo hi' && (!true || (decide (k = [99]) || decide (k = [102])))) := by
      unfold comD
      rw [cr, w6]
      cases inK k lo hi' && (!true || (decide (k = [99]) || decide (k = [102]))) <;> rfl
    have rdok := rd_okQ (es := esP) (n := min X.n 1) lol hil (scd_len _ _ _ _ _)
    obtain ⟨b1, hb1⟩ : ∃ b1, Op.bytesLess k lo = b1 := ⟨_, rfl⟩
    obtain ⟨b2, hb2⟩ : ∃ b2, Op.bytesLess k hi' = b2 := ⟨_, rfl⟩
    obtain ⟨q1, hq1⟩ : ∃ q1, decide (k = [99]) = q1 := ⟨_, rfl⟩
    obtain ⟨q2, hq2⟩ : ∃ q2, decide (k = [102]) = q2 := ⟨_, rfl⟩
    have hres : (if comD X6 es8 ((1 + 1 : Nat) : Int) then (0 : Int) else readyC X6.over es8 X6.n ((1 + 1 : Nat) : Int) X6.reads) = if ((!b1 && b2) && (!true || (q1 || q2))) then 21 else 0 := by
      unfold inK at cm cr
      rw [hb1, hb2, hq1, hq2] at cm cr
      rw [cm, cr]
      cases ((!b1 && b2) && (!true || (q1 || q2))) <;> rfl
    clear cm cr ph
    refine appComR d6 i8 X8 (by decide) ?_ ?_ ?_ ?_ ?_ ?_ ?_ ?_
    · rw [n6]; decide +kernel
    · rw [n6]; decide +kernel
    · rw [r6]; exact rdok
    · rw [r6]; simp
    · rw [w6]; decide
    · rw [w6]; intro w hw; rw [List.mem_singleton.1 hw]; decide
    · rw [w6, m6]; decide +kernel
    intro H9 r1 r2 hr2
    replace hr2 := hr2.trans hres
    clear hres
    cases b1
    · cases b2
      · obtain rfl : r2 = (0 : Int) := hr2
        simp only [BB1, hk, BB5, Pos.isHp, List.filter_nil, dropLk, BB0, Nat.reduceLT, movK, BB3, BB2, List.map_cons, List.map_nil, extK, Nat.reduceBEq, takK, k12, BB4, Bool.false_eq_true, hb1, Bool.not_false, gs2_tt, k13, hb2, constDV, if_true, gs2_ft, if_false, decide_true, Int.reduceEq, decide_false, t_eql Go.Proofs.Tryz.underlying4, beq_self_eq_true, gs2_tf, BB6, and_self]
      · cases q1
        · cases q2
          · obtain rfl : r2 = (0 : Int) := hr2
            simp only [BB1, hk, BB5, Pos.isHp, List.filter_nil, dropLk, BB0, Nat.reduceLT, movK, BB3, BB2, List.map_cons, List.map_nil, extK, Nat.reduceBEq, takK, k12, BB4, Bool.false_eq_true, hb1, Bool.not_false, gs2_tt, k13, hb2, constDV, if_true, k3, Bool.not_true, gs2_ff, hq1, if_false, hq2, decide_true, Int.reduceEq, decide_false, t_eql Go.Proofs.Tryz.underlying4, beq_self_eq_true, gs2_tf, BB6, and_self]
          · obtain rfl : r2 = (21 : Int) := hr2
            simp only [BB1, hk, BB5, Pos.isHp, List.filter_nil, dropLk, BB0, Nat.reduceLT, movK, BB3, BB2, List.map_cons, List.map_nil, extK, Nat.reduceBEq, takK, k12, BB4, Bool.false_eq_true, hb1, Bool.not_false, gs2_tt, k13, hb2, constDV, if_true, k3, Bool.not_true, gs2_ff, hq1, if_false, hq2, decide_true, t_eql Go.Proofs.Tryz.underlying4, beq_self_eq_true, Int.reduceEq, decide_false, BB6, and_self]
        · obtain rfl : r2 = (21 : Int) := by cases q2 <;> exact hr2
          simp only [BB1, hk, BB5, Pos.isHp, List.filter_nil, dropLk, BB0, Nat.reduceLT, movK, BB3, BB2, List.map_cons, List.map_nil, extK, Nat.reduceBEq, takK, k12, BB4, Bool.false_eq_true, hb1, Bool.not_false, gs2_tt, k13, hb2, constDV, if_true, k3, Bool.not_true, gs2_ff, hq1, if_false, gs2_tf, decide_true, t_eql Go.Proofs.Tryz.underlying4, beq_self_eq_true, Int.reduceEq, decide_false, BB6, and_self]
    · obtain rfl : r2 = (0 : Int) := by cases b2 <;> exact hr2
      simp only [BB1, hk, BB5, Pos.isHp, List.filter_nil, dropLk, BB0, Nat.reduceLT, movK, BB3, BB2, List.map_cons, List.map_nil, extK, Nat.reduceBEq, takK, k12, BB4, Bool.false_eq_true, hb1, Bool.not_true, gs2_ft, constDV, if_false, decide_true, gs2_tt, Int.reduceEq, decide_false, t_eql Go.Proofs.Tryz.underlying4, beq_self_eq_true, if_true, gs2_tf, BB6, and_self]
end Go.Ab.En
