/- A part of the proof; no condition of its own. -/
import Derived.Shelf.SlGeneric
import Derived.Shelf.SlicesE.Clone
import Derived.Ground.SlgnProg
import Derived.Test.YtoebbafmopdfbaaGreatDoorProg
import Derived.Laws.Cover1
import Derived.OwnWalk
import Derived.Test.YtoebbafmopdfbaaGreatDoorEnCI
set_option linter.unusedSimpArgs false
set_option linter.unusedVariables false
namespace Go.Ab.En
open Go Go.Conc Go.RowKit Go.Ab
theorem ia81 : isAggT pp 81 = true := by kernel_rfl
theorem ft81 : funT pp 81 = false := by kernel_rfl
theorem zo81 : zeroOk pp 81 [.bool false, .bool false, .bool false, .bool false, .bool false, .bool false, .bool false, .bool false] = true := by kernel_rfl
theorem oc81 : ofCells pp 81 [.bool false, .bool false, .bool false, .bool false, .bool false, .bool false, .bool false, .bool false] = (.agg [.bool false, .bool false, .bool false, .bool false, .bool false, .bool false, .bool false, .bool false]) := by simp [ofCells, ia81]
theorem ft96 : funT pp 96 = false := by kernel_rfl
theorem oc96 : ofCells pp 96 [.str [], .str []] = (.agg [.str [], .str []]) := by simp [ofCells, ia96]
theorem zp81 {isObj : ObjT} : zeroDVo pp isObj 6 81 = [.bool false, .bool false, .bool false, .bool false, .bool false, .bool false, .bool false, .bool false] := by kernel_rfl
theorem al81 {isObj : ObjT} {Γ : Env} {s : Nat} {t : TypeId} {p : String} {af : Array Edge} {g : Option (Nat × Bool)} {st : St} {K : St → Prop} : dopC pp isObj Γ (hold ⟨some s, .alloc 81, t, p, af, g⟩ (tag _)) st K = K (newVarD isObj st s 81 (.agg [.bool false, .bool false, .bool false, .bool false, .bool false, .bool false, .bool false, .bool false])) := by rw [o_al ft81 zp81 zo81 (by rw [oc81]; rfl), oc81]
theorem al96 {isObj : ObjT} {Γ : Env} {s : Nat} {t : TypeId} {p : String} {af : Array Edge} {g : Option (Nat × Bool)} {st : St} {K : St → Prop} : dopC pp isObj Γ (hold ⟨some s, .alloc 96, t, p, af, g⟩ (tag _)) st K = K (newVarD isObj st s 96 (.agg [.str [], .str []])) := by rw [o_al ft96 zp96 zo96 (by rw [oc96]; rfl), oc96]
theorem fp32_0 {i o : Nat} {K : DV → Prop} : dfieldAddr pp 32 (.ptr i o) 0 K = K (.ptr i (o + 0)) := by
 have h := fa_ptr (P := pp) (K := K) (i := i) (o := o) Go.Proofs.Tryz.underlying32 (f := 0) rfl
 exact h (by show pp.cellsOf 9 ≠ 0; rw [cn9]; decide)
theorem fl96_0 {s g o : Nat} {K : DV → Prop} : dfieldAddr pp 96 (.lptr s g o) 0 K = K (.lptr s g (o + 0)) := by
 have h := fa_lptr (P := pp) (K := K) (s := s) (g := g) (o := o) Go.Proofs.Tryz.underlying96 (f := 0) rfl
 exact h (by show pp.cellsOf 9 ≠ 0; rw [cn9]; decide)
theorem fl96_1 {s g o : Nat} {K : DV → Prop} : dfieldAddr pp 96 (.lptr s g o) 1 K = K (.lptr s g (o + 1)) := by
 have h := fa_lptr (P := pp) (K := K) (s := s) (g := g) (o := o) Go.Proofs.Tryz.underlying96 (f := 1) rfl
 exact h (by show pp.cellsOf 9 ≠ 0; rw [cn9]; decide)
theorem dlh64 {n : Nat} {l : List (Nat × DV)} {B : List (Nat × Nat × List DV)} {H : List HObj} {lk : List (Nat × Pos)} {K : DV → Prop} {id sz off len cap : Nat} : dlen pp (mk n l B H lk) 64 (.hsl id sz off len cap) K = K (.int .i64 len) := dl_hsl Go.Proofs.Tryz.underlying64
theorem ixh64 {k : IntKind} {i : Int} {id off len cap : Nat} {K : DV → Prop} : dindexAddr pp 64 (.hsl id 2 off len cap) (.int k i) K = (0 ≤ i ∧ i < len ∧ K (.ptr id (off + i.toNat * 2))) := ia_hsl Go.Proofs.Tryz.underlying64 cn96 us96
theorem ixl81 {k : IntKind} {i : Int} {s g o : Nat} {K : DV → Prop} : dindexAddr pp 81 (.lptr s g o) (.int k i) K = (0 ≤ i ∧ i < (8 : Nat) ∧ K (.lptr s g (o + i.toNat * 1))) := ia_arrl Go.Proofs.Tryz.underlying81 cn4 us4
theorem sc9 {x : List UInt8} {lo hi : Option DV} {K : DV → Prop} : dslice pp 9 (.str x) lo hi K = dbound x.length hi x.length fun h => dbound h lo 0 fun l => K (.str ((x.take h).drop l)) := sl_str Go.Proofs.Tryz.underlying9
theorem sch64 {id off len cap : Nat} {lo hi : Option DV} {K : DV → Prop} : dslice pp 64 (.hsl id 2 off len cap) lo hi K = dbound cap hi len fun h => dbound h lo 0 fun l => K (.hsl id 2 (off + l * 2) (h - l) (cap - l)) := sl_hsl Go.Proofs.Tryz.underlying64 cn96 us96
theorem aph64_64 {st : St} {s : Nat} {x : Operand} {id sz off len cap : Nat} {K : St → Prop} : appendObjD pp st s 64 64 x (.hsl id sz off len cap) K = apdO pp 64 2 32 s (.hsl id sz off len cap) (take pp st 64 x) K := ap_objH Go.Proofs.Tryz.underlying64 us96 (by decide) cn96 bn96 (by rw [zd96_4]; exact zo96)
theorem bd148_1 {st : St} {cs : List DV} {x : Operand} {r : List (Nat × Operand)} {F : List DV → St → Prop} : buildD pp fs148 ((1, x) :: r) cs st F = bdk 1 1 cs (take pp st 4 x) (hold (fun cs st => buildD pp fs148 r cs st F) (tag _)) := bd_cons (by kernel_rfl) cn4
theorem bd148_3 {st : St} {cs : List DV} {x : Operand} {r : List (Nat × Operand)} {F : List DV → St → Prop} : buildD pp fs148 ((3, x) :: r) cs st F = bdk 3 1 cs (take pp st 9 x) (hold (fun cs st => buildD pp fs148 r cs st F) (tag _)) := bd_cons (by kernel_rfl) cn9
theorem bd148_4 {st : St} {cs : List DV} {x : Operand} {r : List (Nat × Operand)} {F : List DV → St → Prop} : buildD pp fs148 ((4, x) :: r) cs st F = bdk 4 1 cs (take pp st 64 x) (hold (fun cs st => buildD pp fs148 r cs st F) (tag _)) := bd_cons (by kernel_rfl) cn64
end Go.Ab.En
namespace Go.Proofs
open Go.Shelf
def Tryz.cloneP_lay_ren : Go.Shelf.Ren := ⟨fun | 41 => 92 | n => n, fun | 22 => 64 | 23 => 96 | 4 => 4 | n => n, fun | n => n⟩
theorem Tryz.cloneP_lay : Go.Proofs.SlLaysE0.n41 Tryz.prog Tryz.cloneP_lay_ren := {
 mixed := by kernel_rfl
 f41 := ⟨Tryz.f92.name, by decide, Tryz.func92.trans (congrArg some (by kernel_rfl))⟩
 t4 := Tryz.underlying4
 a4 := Tryz.isAgg4
 z4 := Tryz.sizeOf4
 v4 := Tryz.zeroValue4
 t22 := Tryz.underlying64
 a22 := Tryz.isAgg64
 z22 := Tryz.sizeOf64
 v22 := Tryz.zeroValue64 }
end Go.Proofs
namespace Go.Ab.En
open Go Go.Conc Go.RowKit Go.Ab
theorem dropW_filter {α : Type} {p : α → Bool} : ∀ {l : List α}, (l.Pairwise fun x y => p y = true → p x = true) → l.dropWhile p = l.filter fun x => !p x
 | [], _ => rfl
 | x :: r, h => by
  have h1 := List.pairwise_cons.1 h
  cases hx : p x
  ·have : ∀ y ∈ r, (!p y) = true := fun y hy => by
    cases hy' : p y
    ·rfl
    ·rw [h1.1 y hy hy'] at hx; cases hx
   rw [List.dropWhile_cons, hx, List.filter_cons, hx]
   simp only [Bool.false_eq_true, if_false, Bool.not_false, if_true]
   rw [List.filter_eq_self.2 this]
  ·rw [List.dropWhile_cons, hx, List.filter_cons, hx]
   simp only [if_true, Bool.not_true, Bool.false_eq_true, if_false]
   exact dropW_filter h1.2
theorem takeW_filter {α : Type} {p : α → Bool} : ∀ {l : List α}, (l.Pairwise fun x y => p y = true → p x = true) → l.takeWhile p = l.filter p
 | [], _ => rfl
 | x :: r, h => by
  have h1 := List.pairwise_cons.1 h
  cases hx : p x
  ·have : ∀ y ∈ r, ¬ p y = true := fun y hy hy' => by
    rw [h1.1 y hy hy'] at hx; cases hx
   rw [List.takeWhile_cons, hx, List.filter_cons, hx]
   simp only [Bool.false_eq_true, if_false]
   exact (List.filter_eq_nil_iff.2 this).symm
  ·rw [List.takeWhile_cons, hx, List.filter_cons, hx]
   simp only [if_true]
   rw [takeW_filter h1.2]
theorem drop_takeW {α : Type} (p : α → Bool) : ∀ l : List α, l.drop (l.takeWhile p).length = l.dropWhile p
 | [] => rfl
 | x :: r => by
  rw [List.takeWhile_cons, List.dropWhile_cons]
  cases hx : p x
  ·simp
  ·simp [drop_takeW p r]
def vizE (es : List Ent) (n : Int) (e : Ent) : Bool := decide (e.seq ≤ n) && !e.del && es.all fun x => decide (x.key = e.key → x.seq ≤ n → x.seq ≤ e.seq)
theorem viz_iff {es : List Ent} {n : Int} {e : Ent} : vizE es n e = true ↔ e.seq ≤ n ∧ e.del = false ∧ ∀ x ∈ es, x.key = e.key → x.seq ≤ n → x.seq ≤ e.seq := by
 simp only [vizE, Bool.and_eq_true, decide_eq_true_eq, Bool.not_eq_true', List.all_eq_true, and_assoc]
theorem viz_congr {a b : List Ent} {n : Int} {e : Ent} (h : ∀ x, x.key = e.key → (x ∈ a ↔ x ∈ b)) : vizE a n e = vizE b n e := by
 rw [Bool.eq_iff_iff, viz_iff, viz_iff]
 constructor
 ·rintro ⟨h1, h2, h3⟩; exact ⟨h1, h2, fun x hx hk => h3 x ((h x hk).2 hx) hk⟩
 ·rintro ⟨h1, h2, h3⟩; exact ⟨h1, h2, fun x hx hk => h3 x ((h x hk).1 hx) hk⟩
theorem newE_cons (x : Ent) (r : List Ent) (n : Int) : newE (x :: r) n = if x.seq ≤ n then 0 else newE r n + 1 := by
 simp only [newE, List.takeWhile_cons]
 by_cases h : x.seq ≤ n
 ·simp [h]
 ·simp [h]
theorem visG_filter (n : Int) (k : Str) : ∀ {g : List Ent}, Sorted g → (∀ x ∈ g, x.key = k) → (visG n g).toList = g.filter (vizE g n)
 | [], _, _ => rfl
 | x :: r, hs, hk => by
  have h1 := List.pairwise_cons.1 hs
  have hkx : x.key = k := hk x (by simp)
  have hlt : ∀ y ∈ r, y.seq < x.seq := fun y hy => by
   rcases ltE_iff.1 (h1.1 y hy) with h | h
   ·rw [hkx, hk y (by simp [hy]), cmpS_refl] at h; omega
   ·exact h.2
  by_cases hx : x.seq ≤ n
  ·have hr : ∀ y ∈ r, ¬ vizE (x :: r) n y = true := fun y hy h => by
    have := (viz_iff.1 h).2.2 x (by simp) (by rw [hkx, hk y (by simp [hy])]) hx
    have := hlt y hy; omega
   have e0 : visG n (x :: r) = if x.del then none else some x := by
    simp only [visG, newE_cons, if_pos hx, List.getElem?_cons_zero]
   have ex : vizE (x :: r) n x = !x.del := by
    rw [Bool.eq_iff_iff, viz_iff]
    refine ⟨fun h => by simp [h.2.1], fun h => ⟨hx, by simpa using h, fun y hy _ _ => ?_⟩⟩
    rcases List.mem_cons.1 hy with rfl | hy
    ·exact Int.le_refl _
    ·have := hlt y hy; omega
   rw [e0, List.filter_cons, ex, List.filter_eq_nil_iff.2 hr]
   cases x.del <;> rfl
  ·have e0 : visG n (x :: r) = visG n r := by
    simp only [visG, newE_cons, if_neg hx, List.getElem?_cons_succ]
   have ex : ¬ vizE (x :: r) n x = true := fun h => hx (viz_iff.1 h).1
   rw [e0, visG_filter n k h1.2 (fun y hy => hk y (by simp [hy])), List.filter_cons, if_neg ex]
   refine List.filter_congr fun y hy => ?_
   rw [Bool.eq_iff_iff, viz_iff, viz_iff]
   refine ⟨fun ⟨a, b, c⟩ => ⟨a, b, fun z hz e1 e2 => ?_⟩, fun ⟨a, b, c⟩ => ⟨a, b, fun z hz => c z (by simp [hz])⟩⟩
   rcases List.mem_cons.1 hz with rfl | hz
   ·exact absurd e2 hx
   ·exact c z hz e1 e2
theorem filterMap_toList {α β : Type} (f : α → Option β) (x : α) (r : List α) : (x :: r).filterMap f = (f x).toList ++ r.filterMap f := by
 cases h : f x <;> simp [h]
theorem gE_filter (n : Int) : ∀ (f : Nat) {es : List Ent}, Sorted es → es.length ≤ f → (gE f es).filterMap (visG n) = es.filter (vizE es n)
 | 0, es, _, h => by
  obtain rfl : es = [] := List.eq_nil_of_length_eq_zero (by omega)
  rfl
 | f + 1, [], _, _ => rfl
 | f + 1, e :: r, hs, h => by
  have e1 : (e :: r).takeWhile (fun x => decide (x.key = e.key)) ++ (e :: r).dropWhile (fun x => decide (x.key = e.key)) = e :: r := List.takeWhile_append_dropWhile
  have hdl : ((e :: r).dropWhile fun x => decide (x.key = e.key)).length ≤ f := by
   have : ((e :: r).dropWhile fun x => decide (x.key = e.key)).length ≤ r.length := by
    simp only [List.dropWhile_cons, decide_true, if_true]
    exact (List.dropWhile_suffix _).length_le
   simp at h; omega
  have hlow : (e :: r).Pairwise fun x y => decide (y.key = e.key) = true → decide (x.key = e.key) = true := by
   have h1 := List.pairwise_cons.1 hs
   refine List.pairwise_cons.2 ⟨fun y _ _ => by simp, ?_⟩
   refine List.Pairwise.imp_of_mem (fun {x y} hx hy hxy hyk => ?_) h1.2
   simp only [decide_eq_true_eq] at hyk ⊢
   have a1 : cmpS e.key x.key ≤ 0 := by
    rcases ltE_iff.1 (h1.1 x hx) with h | h
    ·omega
    ·rw [h.1, cmpS_refl]; omega
   have a2 : cmpS x.key e.key ≤ 0 := by
    rw [← hyk]
    rcases ltE_iff.1 hxy with h | h
    ·omega
    ·rw [h.1, cmpS_refl]; omega
   have := cmpS_swap e.key x.key
   exact cmpS_eq_iff.1 (by omega)
  have hg : ∀ x ∈ (e :: r).takeWhile (fun x => decide (x.key = e.key)), x.key = e.key := fun x hx => by
   rw [takeW_filter hlow] at hx
   simpa using (List.mem_filter.1 hx).2
  have hd : ∀ x ∈ (e :: r).dropWhile (fun x => decide (x.key = e.key)), x.key ≠ e.key := fun x hx => by
   rw [dropW_filter hlow] at hx
   simpa using (List.mem_filter.1 hx).2
  show List.filterMap _ (_ :: gE f _) = _
  rw [filterMap_toList]
  generalize hG : (e :: r).takeWhile (fun x => decide (x.key = e.key)) = g at e1 hg
  generalize hD : (e :: r).dropWhile (fun x => decide (x.key = e.key)) = dd at e1 hd hdl
  rw [← e1] at hs ⊢
  have hsg : Sorted g := (List.pairwise_append.1 hs).1
  have hsd : Sorted dd := (List.pairwise_append.1 hs).2.1
  rw [visG_filter n e.key hsg hg, gE_filter n f hsd hdl, List.filter_append]
  congr 1
  ·refine List.filter_congr fun x hx => viz_congr fun y hy => ?_
   rw [List.mem_append]
   refine ⟨.inl, fun h => h.resolve_right fun hm => hd y hm (hy.trans (hg x hx))⟩
  ·refine List.filter_congr fun x hx => viz_congr fun y hy => ?_
   rw [List.mem_append]
   refine ⟨.inr, fun h => h.resolve_left fun hm => hd x hx (hy.symm.trans (hg y hm))⟩
theorem vis_filter {es : List Ent} (hs : Sorted es) (n : Int) : visE es n = es.filter (vizE es n) := gE_filter n es.length hs (Nat.le_refl _)
def inAB (a b k : Str) : Bool := !Op.bytesLess k a && (decide (b = []) || Op.bytesLess k b)
theorem le_lt {a b c : Str} (h : cmpS a b ≤ 0) (h2 : cmpS b c < 0) : cmpS a c < 0 := by
 rcases cmpS_range a b with h' | h' | h'
 ·exact cmpS_trans _ _ _ (by omega) h2
 ·rw [cmpS_eq_iff.1 h']; exact h2
 ·omega
theorem range_filter {es : List Ent} (hs : Sorted es) (hq : ∀ e ∈ es, e.seq ≤ 1000000) (a b : Str) : rangeE es a b = es.filter fun e => inAB a b e.key := by
 have hle : es.Pairwise fun x y => cmpS x.key y.key ≤ 0 := hs.imp fun {x y} h => by
  rcases ltE_iff.1 h with h | h
  ·omega
  ·rw [h.1, cmpS_refl]; omega
 have hl : ∀ e ∈ es, ltE e ⟨a, 1000000, false, []⟩ = Op.bytesLess e.key a := fun e he => by
  rw [Bool.eq_iff_iff, ltE_iff, bytesLess_cmp, decide_eq_true_eq]
  refine ⟨fun h => h.elim id fun h => ?_, .inl⟩
  have h1 := hq e he
  have h2 := h.2
  simp only at h2
  omega
 have p1 : es.Pairwise fun x y => ltE y ⟨a, 1000000, false, []⟩ = true → ltE x ⟨a, 1000000, false, []⟩ = true := hs.imp fun h h2 => ltE_trans h h2
 have p2 : es.Pairwise fun x y => inR b y = true → inR b x = true := hle.imp fun {x y} h => by
  simp only [inR, bytesLess_cmp, Bool.or_eq_true, decide_eq_true_eq]
  rintro (h2 | h2)
  ·exact .inl h2
  ·exact .inr (le_lt h h2)
 unfold rangeE firstE
 rw [drop_takeW, dropW_filter p1, takeW_filter (p2.filter _), List.filter_filter]
 refine List.filter_congr fun e he => ?_
 rw [hl e he]
 simp only [inAB, inR]
 exact Bool.and_comm _ _
theorem scan_filter {es : List Ent} (hs : Sorted es) (hq : ∀ e ∈ es, e.seq ≤ 1000000) (a b : Str) (n : Int) : scanE es a b n = ((es.filter fun e => inAB a b e.key && vizE es n e).take 64).map fun e => ⟨e.key, e.val⟩ := by
 unfold scanE
 rw [range_filter hs hq, vis_filter (hs.filter _), List.filter_filter]
 congr 2
 refine List.filter_congr fun e he => ?_
 cases hi : inAB a b e.key
 ·simp
 ·simp only [Bool.and_true, Bool.true_and]
  refine viz_congr fun x hx => ?_
  rw [List.mem_filter, hx, hi]
  simp
end Go.Ab.En
namespace Go.Ab.En
open Go Go.Conc Go.RowKit Go.Ab
theorem key_inj {ws : List Wr} (hn : (ws.map (·.key)).Nodup) {i j : Nat} (hi : i < ws.length) (hj : j < ws.length) (h : ws[i].key = ws[j].key) : i = j := by
 have h0 := List.nodup_iff_pairwise_ne.1 hn
 rcases Nat.lt_trichotomy i j with hlt | e | hlt
 ·have := List.pairwise_iff_getElem.1 h0 i j (by simpa using hi) (by simpa using hj) hlt
  simp at this; exact absurd h this
 ·exact e
 ·have := List.pairwise_iff_getElem.1 h0 j i (by simpa using hj) (by simpa using hi) hlt
  simp at this; exact absurd h.symm this
theorem write_mem {ws : List Wr} {w : Wr} (hn : (ws.map (·.key)).Nodup) (hc : writeC false ws w = 0) : ((writeW false ws w).map (·.key)).Nodup ∧ (∀ x, x ∈ writeW false ws w ↔ x = w ∨ (x ∈ ws ∧ x.key ≠ w.key)) ∧ (writeW false ws w).length ≤ ws.length + 1 := by
 unfold writeW
 rw [if_pos hc]
 cases h : idxP (fun o => decide (o.key = w.key)) ws with
 | none =>
  have h1 := idxP_none h
  have h2 : ∀ x ∈ ws, x.key ≠ w.key := fun x hx => by simpa using h1 x hx
  have hp := sortW_perm (ws ++ [w])
  refine ⟨(hp.map _).nodup_iff.2 ?_, fun x => ?_, by rw [hp.length_eq]; simp⟩
  ·rw [List.map_append, List.nodup_append]
   refine ⟨hn, by simp, fun a ha b hb => ?_⟩
   obtain ⟨x, hx, rfl⟩ := List.mem_map.1 ha
   have : b = w.key := by simpa using hb
   rw [this]; exact h2 x hx
  ·show x ∈ sortW (ws ++ [w]) ↔ _
   rw [hp.mem_iff, List.mem_append, List.mem_singleton]
   exact ⟨fun h => h.elim (fun h => .inr ⟨h, h2 x h⟩) .inl, fun h => h.elim .inr fun h => .inl h.1⟩
 | some i =>
  obtain ⟨hi, hk⟩ := idxP_lt h
  replace hk : ws[i].key = w.key := by simpa using hk
  have e1 : (ws.set i w).map (·.key) = ws.map (·.key) := by
   refine List.ext_getElem (by simp) fun j h1 h2 => ?_
   simp only [List.getElem_map, List.getElem_set]
   split
   ·rename_i e; subst e; exact hk.symm
   ·rfl
  refine ⟨by show ((ws.set i w).map _).Nodup; rw [e1]; exact hn, fun x => ?_, by show (ws.set i w).length ≤ _; simp⟩
  show x ∈ ws.set i w ↔ _
  constructor
  ·intro hx
   obtain ⟨j, hj, e⟩ := List.getElem_of_mem hx
   rw [List.getElem_set] at e
   split at e
   ·exact .inl e.symm
   ·rename_i hij
    have hj' : j < ws.length := by simpa using hj
    refine .inr ⟨e ▸ List.getElem_mem hj', fun hk2 => hij ?_⟩
    rw [← e] at hk2
    exact key_inj hn hi hj' (hk.trans hk2.symm)
  ·rintro (rfl | ⟨hx, hk2⟩)
   ·exact List.mem_iff_getElem.2 ⟨i, by simpa using hi, by simp⟩
   ·obtain ⟨j, hj, e⟩ := List.getElem_of_mem hx
    refine List.mem_iff_getElem.2 ⟨j, by simpa using hj, ?_⟩
    rw [List.getElem_set, if_neg]
    ·exact e
    ·rintro rfl
     rw [← e] at hk2; exact hk2 hk
theorem okB_of : ∀ {ws : List Wr} {a : Str}, (∀ w ∈ ws, isWr w = true ∧ cmpS a w.key < 0) → ws.Pairwise (fun x y => cmpS x.key y.key < 0) → okB a ws = true
 | [], _, _, _ => rfl
 | w :: r, a, h, hp => by
  obtain ⟨h1, h2⟩ := h w (by simp)
  have hp1 := List.pairwise_cons.1 hp
  have hl : leS w.key a = false := by
   simp only [leS, bytesLess_cmp, Bool.or_eq_false_iff, decide_eq_false_iff_not]
   have := cmpS_swap a w.key
   refine ⟨by omega, fun e => ?_⟩
   rw [e, cmpS_refl] at h2; omega
  simp only [okB, h1, hl, Bool.not_false, Bool.true_and]
  exact okB_of (fun x hx => ⟨(h x (by simp [hx])).1, hp1.1 x hx⟩) hp1.2
theorem nil_lt {k : Str} (h : k ≠ []) : cmpS [] k < 0 := by
 cases k with
 | nil => exact absurd rfl h
 | cons a r => simp [cmpS, Lib.compareBytes]
theorem keyS_inj {c : Int} {a b : Str} (h : keyS c a = keyS c b) : a = b := by simpa [keyS] using h
theorem home_nodup {c : Int} {ws : List Wr} (hn : (ws.map (·.key)).Nodup) : ((homeW c ws).map (·.key)).Nodup := by
 have h0 := List.nodup_iff_pairwise_ne.1 hn
 refine List.nodup_iff_pairwise_ne.2 ?_
 unfold homeW
 rw [List.map_map]
 rw [List.pairwise_map] at h0 ⊢
 exact h0.imp fun {x y} h e => h (keyS_inj e)
structure WsOk (ws : List Wr) : Prop where
 nodup : (ws.map (·.key)).Nodup
 len : ws.length ≤ 8
 ok : ∀ w ∈ ws, w.key ≠ [] ∧ (w.key.length : Int) ≤ 12 ∧ (w.val.length : Int) ≤ 24 ∧ (w.del = true → w.val = [])
theorem neatW_perm {ws : List Wr} (hn : (ws.map (·.key)).Nodup) : (neatW ws).Perm ws := by
 unfold neatW
 rw [lastW_id hn]
 exact sortW_perm ws
theorem WsOk.batch {ws : List Wr} (h : WsOk ws) (c : Int) : isBatch (neatW (homeW c ws)) = true := by
 have hp := neatW_perm (home_nodup (c := c) h.nodup)
 have hs : SortedW (neatW (homeW c ws)) := sortW_sorted _
 have hn := neatW_nodup (homeW c ws)
 simp only [isBatch, Bool.and_eq_true, decide_eq_true_eq]
 refine ⟨okB_of (fun w hw => ?_) ?_, ?_⟩
 ·obtain ⟨x, hx, rfl⟩ := List.mem_map.1 (hp.mem_iff.1 hw)
  obtain ⟨h1, h2, h3, h4⟩ := h.ok x hx
  refine ⟨?_, nil_lt (by simp [keyS])⟩
  show isWr ⟨keyS c x.key, x.del, x.val⟩ = true
  simp only [isWr, keyS, List.length_cons, Bool.and_eq_true, decide_eq_true_eq, Bool.or_eq_true, Bool.not_eq_true']
  refine ⟨decide_eq_true (by omega), decide_eq_true (by omega), h3, ?_⟩
  cases hd : x.del
  ·exact .inl rfl
  ·exact .inr (h4 hd)
 ·have h0 := List.nodup_iff_pairwise_ne.1 hn
  rw [List.pairwise_map] at h0
  refine List.Pairwise.imp₂ (fun {x y} h1 h2 => ?_) hs h0
  have := cmpS_swap x.key y.key
  rcases cmpS_range x.key y.key with h | h | h
  ·omega
  ·exact absurd (cmpS_eq_iff.1 h) h2
  ·omega
 ·rw [hp.length_eq]
  have := h.len
  simp only [homeW, List.length_map]; omega
theorem WsOk.nil : WsOk [] := ⟨by simp, by simp, by simp⟩
theorem writeC_ok {ws : List Wr} {w : Wr} (h : writeC false ws w = 0) : keyedB w.key = true ∧ (w.val.length : Int) ≤ 24 ∧ (ws.length < 8 ∨ ∃ i, idxP (fun o => decide (o.key = w.key)) ws = some i) := by
 unfold writeC at h
 simp only [Bool.false_eq_true, if_false] at h
 split at h
 ·omega
 ·rename_i h1
  rw [not_or] at h1
  refine ⟨by simpa using h1.1, by omega, ?_⟩
  split at h
  ·exact .inr ⟨_, by assumption⟩
  ·split at h
   ·omega
   ·left; omega
theorem WsOk.write {ws : List Wr} {w : Wr} (h : WsOk ws) (hd : w.del = true → w.val = []) : WsOk (writeW false ws w) := by
 by_cases hc : writeC false ws w = 0
 ·obtain ⟨a1, a2, a3⟩ := write_mem h.nodup hc
  obtain ⟨k1, k2, k3⟩ := writeC_ok hc
  refine ⟨a1, ?_, fun x hx => ?_⟩
  ·rcases k3 with k3 | ⟨i, hi⟩
   ·omega
   ·have : writeW false ws w = ws.set i w := by unfold writeW; rw [if_pos hc, hi]
    rw [this, List.length_set]; exact h.len
  ·rcases (a2 x).1 hx with rfl | ⟨hx, _⟩
   ·simp only [keyedB, Bool.and_eq_true, decide_eq_true_eq] at k1
    exact ⟨k1.1, k1.2, k2, hd⟩
   ·exact h.ok x hx
 ·unfold writeW; rw [if_neg hc]; exact h
theorem fold_perm : ∀ (l es : List Ent), (l.foldl putE es).Perm (l ++ es)
 | [], es => .refl _
 | e :: r, es => by
  rw [List.foldl_cons]
  refine (fold_perm r (putE es e)).trans ?_
  have h1 : (putE es e).Perm (e :: es) := by
   unfold putE
   refine List.perm_middle.trans (List.Perm.cons e ?_)
   rw [List.take_append_drop]
  exact (List.Perm.append_left r h1).trans List.perm_middle
theorem low_le (x : UInt8) (r : Str) : ¬ cmpS (97 :: x :: r) [97, 0] < 0 := by
 simp only [cmpS, Lib.compareBytes]
 have h0 : ¬ x < 0 := by rw [UInt8.lt_iff_toNat_lt]; exact Nat.not_lt_zero _
 rw [if_neg (by decide), if_neg (by decide), if_neg h0]
 split
 ·omega
 ·cases r <;> simp [Lib.compareBytes]
theorem lt_high (r : Str) : cmpS (97 :: r) [98] < 0 := by
 simp only [cmpS, Lib.compareBytes]
 rw [if_pos (by decide)]; decide
theorem inAB_home {k : Str} (hk : k ≠ []) : inAB (lowE 97 []) (highE 97 []) (keyS 97 k) = true := by
 cases k with
 | nil => exact absurd rfl hk
 | cons x r =>
  have e1 : lowE 97 [] = [97, 0] := by decide
  have e2 : highE 97 [] = [98] := by decide
  have e3 : keyS 97 (x :: r) = 97 :: x :: r := rfl
  rw [e1, e2, e3]
  simp only [inAB, bytesLess_cmp, Bool.and_eq_true, Bool.or_eq_true, Bool.not_eq_true', decide_eq_false_iff_not, decide_eq_true_eq]
  exact ⟨low_le x r, .inr (lt_high _)⟩
theorem scan_home {ws : List Wr} (h : WsOk ws) {es : List Ent} (hs : Sorted es) (he : es = (entsB 1 (neatW (homeW 97 ws))).foldl putE []) : (scanE es (lowE 97 []) (highE 97 []) 1).length = (ws.filter fun w => !w.del).length := by
 have hp : es.Perm (entsB 1 (neatW (homeW 97 ws))) := by
  have := fold_perm (entsB 1 (neatW (homeW 97 ws))) []
  rw [List.append_nil] at this
  rw [he]; exact this
 have hp2 : es.Perm (entsB 1 (homeW 97 ws)) := hp.trans ((neatW_perm (home_nodup h.nodup)).map _)
 have hm : ∀ e ∈ es, ∃ w ∈ ws, e = ⟨keyS 97 w.key, 1, w.del, w.val⟩ := fun e he' => by
  have := hp2.mem_iff.1 he'
  unfold entsB homeW at this
  rw [List.map_map] at this
  obtain ⟨w, hw, e1⟩ := List.mem_map.1 this
  exact ⟨w, hw, e1.symm⟩
 have hq : ∀ e ∈ es, e.seq = 1 := fun e he' => by obtain ⟨w, _, rfl⟩ := hm e he'; rfl
 rw [scan_filter hs (fun e he' => by rw [hq e he']; omega)]
 have hf : es.filter (fun e => inAB (lowE 97 []) (highE 97 []) e.key && vizE es 1 e) = es.filter fun e => !e.del := by
  refine List.filter_congr fun e he' => ?_
  obtain ⟨w, hw, e1⟩ := hm e he'
  have i1 : inAB (lowE 97 []) (highE 97 []) e.key = true := by rw [e1]; exact inAB_home (h.ok w hw).1
  rw [i1, Bool.true_and, Bool.eq_iff_iff, viz_iff]
  refine ⟨fun h => by simp [h.2.1], fun h => ⟨by rw [hq e he']; omega, by simpa using h, fun x hx _ _ => by rw [hq e he', hq x hx]; omega⟩⟩
 rw [hf, List.length_map, List.length_take]
 have e2 : (es.filter fun e => !e.del).length = (ws.filter fun w => !w.del).length := by
  rw [(hp2.filter _).length_eq]
  unfold entsB homeW
  rw [List.map_map, List.filter_map, List.length_map]
  rfl
 rw [e2]
 have := List.length_filter_le (fun w : Wr => !w.del) ws
 have := h.len
 omega
theorem viz_none {es : List Ent} (hq : ∀ e ∈ es, 1 ≤ e.seq) (hs : Sorted es) (hq2 : ∀ e ∈ es, e.seq ≤ 1000000) (a b : Str) : scanE es a b 0 = [] := by
 rw [scan_filter hs hq2]
 have : es.filter (fun e => inAB a b e.key && vizE es 0 e) = [] := List.filter_eq_nil_iff.2 fun e he hh => by
  rw [Bool.and_eq_true, viz_iff] at hh
  have := hq e he
  omega
 rw [this]; rfl
end Go.Ab.En
namespace Go.Ab.En
open Go Go.Conc Go.RowKit Go.Ab
def kOf (i : Nat) : Str := [UInt8.ofNat (97 + i)]
theorem kOf_inj8 : ∀ i j : Fin 8, kOf i.1 = kOf j.1 → i = j := by decide +kernel
theorem kOf_inj {i j : Nat} (hi : i < 8) (hj : j < 8) (h : kOf i = kOf j) : i = j := by
 have := kOf_inj8 ⟨i, hi⟩ ⟨j, hj⟩ h
 exact congrArg Fin.val this
structure OwnI (ws : List Wr) (t : Nat → Bool) : Prop where
 ok : WsOk ws
 key : ∀ w ∈ ws, ∃ i, i < 8 ∧ w.key = kOf i
 th : ∀ i, i < 8 → (t i = true ↔ ∃ w ∈ ws, w.key = kOf i ∧ w.del = false)
theorem OwnI.nil : OwnI [] fun _ => false := ⟨WsOk.nil, by simp, by simp⟩
def ownW (i : Nat) (del : Bool) : Wr := ⟨kOf i, del, if del then [] else [118]⟩
theorem ownC {ws : List Wr} (hl : ws.length < 8) (i : Nat) (del : Bool) : writeC false ws (ownW i del) = 0 := by
 have k1 : keyedB (ownW i del).key = true := rfl
 have k2 : ¬ (24 : Int) < (ownW i del).val.length := by cases del <;> simp [ownW]
 unfold writeC
 simp only [Bool.false_eq_true, if_false]
 rw [if_neg (by rw [k1]; simp; omega)]
 split
 ·rfl
 ·rw [if_neg (by omega)]
theorem OwnI.step {ws : List Wr} {t : Nat → Bool} (h : OwnI ws t) (hl : ws.length < 8) {i : Nat} (hi : i < 8) (del : Bool) : OwnI (writeW false ws (ownW i del)) fun j => if j = i then !del else t j := by
 have hc := ownC hl i del
 obtain ⟨a1, a2, a3⟩ := write_mem h.ok.nodup hc
 refine ⟨h.ok.write (fun hd => by cases del; cases hd; rfl), fun w hw => ?_, fun j hj => ?_⟩
 ·rcases (a2 w).1 hw with rfl | ⟨hw, _⟩
  ·exact ⟨i, hi, rfl⟩
  ·exact h.key w hw
 ·by_cases e : j = i
  ·subst e
   simp only [if_true]
   constructor
   ·intro hd
    exact ⟨ownW j del, (a2 _).2 (.inl rfl), rfl, by show del = false; simpa using hd⟩
   ·rintro ⟨w, hw, hk, hd⟩
    rcases (a2 w).1 hw with rfl | ⟨_, hn⟩
    ·simpa [ownW] using hd
    ·exact absurd hk hn
  ·simp only [if_neg e]
   rw [h.th j hj]
   constructor
   ·rintro ⟨w, hw, hk, hd⟩
    exact ⟨w, (a2 w).2 (.inr ⟨hw, fun hk2 => e (kOf_inj hj hi (hk.symm.trans hk2))⟩), hk, hd⟩
   ·rintro ⟨w, hw, hk, hd⟩
    rcases (a2 w).1 hw with rfl | ⟨hw, _⟩
    ·exact absurd (kOf_inj hj hi hk.symm) e
    ·exact ⟨w, hw, hk, hd⟩
theorem nodup_len {α : Type} [DecidableEq α] {a b : List α} (ha : a.Nodup) (hb : b.Nodup) (h : ∀ x, x ∈ a ↔ x ∈ b) : a.length = b.length := by
 have le : ∀ {a b : List α}, a.Nodup → (∀ x ∈ a, x ∈ b) → a.length ≤ b.length := by
  intro a
  induction a with
  | nil => intro b _ _; simp
  | cons x r ih =>
   intro b hn hs
   have h1 := List.nodup_cons.1 hn
   have h2 : x ∈ b := hs x (by simp)
   have := ih (b := b.erase x) h1.2 fun y hy => by
    have hne : y ≠ x := fun e => h1.1 (e ▸ hy)
    exact (List.mem_erase_of_ne hne).2 (hs y (by simp [hy]))
   rw [List.length_erase_of_mem h2] at this
   have := List.length_pos_of_mem h2
   simp only [List.length_cons]; omega
 exact Nat.le_antisymm (le ha fun x hx => (h x).1 hx) (le hb fun x hx => (h x).2 hx)
theorem OwnI.count {ws : List Wr} {t : Nat → Bool} (h : OwnI ws t) : ((List.range 8).filter t).length = (ws.filter fun w => !w.del).length := by
 have h1 : (((List.range 8).filter t).map kOf).Nodup := by
  rw [List.nodup_iff_pairwise_ne, List.pairwise_map]
  refine List.Pairwise.imp_of_mem (fun {x y} hx hy hxy e => hxy (kOf_inj ?_ ?_ e)) ((List.nodup_iff_pairwise_ne.1 List.nodup_range).filter _)
  ·simpa using (List.mem_filter.1 hx).1
  ·simpa using (List.mem_filter.1 hy).1
 have h2 : ((ws.filter fun w => !w.del).map (·.key)).Nodup := by
  have := List.nodup_iff_pairwise_ne.1 h.ok.nodup
  rw [List.pairwise_map] at this
  rw [List.nodup_iff_pairwise_ne, List.pairwise_map]
  exact this.filter _
 have h3 := nodup_len h1 h2 fun k => by
  simp only [List.mem_map, List.mem_filter, List.mem_range]
  constructor
  ·rintro ⟨i, ⟨hi, ht⟩, rfl⟩
   obtain ⟨w, hw, hk, hd⟩ := (h.th i hi).1 ht
   exact ⟨w, ⟨hw, by simp [hd]⟩, hk⟩
  ·rintro ⟨w, ⟨hw, hd⟩, rfl⟩
   obtain ⟨i, hi, hk⟩ := h.key w hw
   exact ⟨i, ⟨hi, (h.th i hi).2 ⟨w, hw, hk, by simpa using hd⟩⟩, hk.symm⟩
 simpa using h3
theorem OwnI.get {ws : List Wr} {t : Nat → Bool} (h : OwnI ws t) {i : Nat} (hi : i < 8) : (∃ j w, idxP (fun w => decide (w.key = kOf i)) ws = some j ∧ ws[j]? = some w ∧ t i = !w.del) ∨ (idxP (fun w => decide (w.key = kOf i)) ws = none ∧ t i = false) := by
 cases hp : idxP (fun w => decide (w.key = kOf i)) ws with
 | none =>
  refine .inr ⟨rfl, ?_⟩
  rw [Bool.eq_false_iff]
  intro ht
  obtain ⟨w, hw, hk, _⟩ := (h.th i hi).1 ht
  have := idxP_none hp w hw
  simp [hk] at this
 | some j =>
  obtain ⟨hj, hk⟩ := idxP_lt hp
  replace hk : ws[j].key = kOf i := by simpa using hk
  refine .inl ⟨j, ws[j], rfl, List.getElem?_eq_getElem hj, ?_⟩
  rw [Bool.eq_iff_iff, h.th i hi]
  constructor
  ·rintro ⟨w, hw, hk2, hd⟩
   obtain ⟨m, hm, rfl⟩ := List.getElem_of_mem hw
   have := key_inj h.ok.nodup hm hj (hk2.trans hk.symm)
   subst this
   simp [hd]
  ·intro hd
   exact ⟨_, List.getElem_mem hj, hk, by simpa using hd⟩
end Go.Ab.En
namespace Go.Proofs
open Go.Shelf Go.RowKit Go.Lib Go.Sort Go.Ab.En
instance : Inhabited Pr := ⟨⟨[], []⟩⟩
def encP (p : Pr) : List Value := [.string ⟨p.key.toArray⟩, .string ⟨p.val.toArray⟩]
set_option maxRecDepth 100000 in
set_option maxHeartbeats 2000000 in
theorem cmpLtS (a b : ByteArray) (W : World) (h : Op.bytesLess a.toList b.toList = true) : Calls Tryz.prog 159 #[.string a, .string b] W fun e w' => e = .returned (.int .i64 (-1)) ∧ w' = W := by
 go_enter Tryz.func159, Tryz.ntmps159
 go_wp2
 go_ret
 exact ⟨rfl, rfl⟩
set_option maxRecDepth 100000 in
set_option maxHeartbeats 2000000 in
theorem cmpGtS (a b : ByteArray) (W : World) (h : Op.bytesLess a.toList b.toList = false) (h2 : (a.toList == b.toList) = false) : Calls Tryz.prog 159 #[.string a, .string b] W fun e w' => e = .returned (.int .i64 1) ∧ w' = W := by
 go_enter Tryz.func159, Tryz.ntmps159
 go_wp2
 go_ret
 exact ⟨rfl, rfl⟩
set_option maxRecDepth 100000 in
set_option maxHeartbeats 2000000 in
theorem cmpEqS (a b : ByteArray) (W : World) (h : Op.bytesLess a.toList b.toList = false) (h2 : (a.toList == b.toList) = true) : Calls Tryz.prog 159 #[.string a, .string b] W fun e w' => e = .returned (.int .i64 0) ∧ w' = W := by
 go_enter Tryz.func159, Tryz.ntmps159
 go_wp2
 go_ret
 exact ⟨rfl, rfl⟩
theorem cmpAllS (a b : List UInt8) (W : World) : Calls Tryz.prog 159 #[.string ⟨a.toArray⟩, .string ⟨b.toArray⟩] W fun e w' => e = .returned (.int .i64 (cmpS a b)) ∧ w' = W := by
 have ea : (ByteArray.mk a.toArray).toList = a := by rw [ByteArray.toList_eq]
 have eb : (ByteArray.mk b.toArray).toList = b := by rw [ByteArray.toList_eq]
 cases h : Op.bytesLess a b
 ·cases h2 : (a == b)
  ·have h3 : ¬ a = b := by simpa using h2
   rw [bytesLess_cmp, decide_eq_false_iff_not] at h
   have h4 : cmpS a b = 1 := by
    rcases cmpS_range a b with h' | h' | h'
    ·omega
    ·exact absurd (cmpS_eq_iff.1 h') h3
    ·exact h'
   rw [h4]
   exact cmpGtS _ _ W (by rw [ea, eb, bytesLess_cmp, decide_eq_false_iff_not]; exact h) (by rw [ea, eb]; exact h2)
  ·have h3 : a = b := by simpa using h2
   have h4 : cmpS a b = 0 := by rw [h3, cmpS_refl]
   rw [h4]
   exact cmpEqS _ _ W (by rw [ea, eb]; exact h) (by rw [ea, eb]; exact h2)
 ·have h4 : cmpS a b = -1 := by
   have h5 := h
   rw [bytesLess_cmp, decide_eq_true_eq] at h5
   rcases cmpS_range a b with h' | h' | h'
   ·exact h'
   ·omega
   ·omega
  rw [h4]
  exact cmpLtS _ _ W (by rw [ea, eb]; exact h)
set_option maxRecDepth 100000 in
set_option maxHeartbeats 2000000 in
theorem closureP (x y : Pr) (W : World) : Calls Tryz.prog 158 #[.agg #[.string ⟨x.key.toArray⟩, .string ⟨x.val.toArray⟩], .agg #[.string ⟨y.key.toArray⟩, .string ⟨y.val.toArray⟩]] W fun e w' => e = .returned (.int .i64 (cmpS x.key y.key)) ∧ ∃ q os', w' = grow (W.drewN q) os' := by
 have hcon := fun W' => cmpAllS x.key y.key W'
 generalize cmpS x.key y.key = r at hcon ⊢
 go_enter Tryz.func158, Tryz.ntmps158
 go_wp2_with (go_at_call 159; refine (hcon _).mono ?_; rintro e w' ⟨rfl, rfl⟩)
 go_ret
 exact ⟨rfl, 0, _, by rw [alloc_eq_grow, alloc_eq_grow, grow_grow]; rfl⟩
theorem cmpLaysP (blk off size : Nat) (w : World) : CmpLays Tryz.prog 158 #[] encP 2 (fun x y => cmpS x.key y.key) blk off size w := fun _ _ _ _ x y => closureP x y _
theorem swoP : SWO (ltOf fun x y : Pr => cmpS x.key y.key) where
 irrefl x := by simp [ltOf, cmpS_refl]
 trans x y z h1 h2 := by simp only [ltOf, decide_eq_true_eq] at *; exact cmpS_trans _ _ _ h1 h2
 ntrans x y z h1 h2 := by
  simp only [ltOf, decide_eq_false_iff_not] at *
  intro h3
  rcases cmpS_range x.key y.key with h | h | h
  ·omega
  ·rw [cmpS_eq_iff.1 h] at h3; exact h2 h3
  ·have h4 := cmpS_swap x.key y.key
   have := cmpS_trans y.key x.key z.key (by omega) h3
   exact h2 this
end Go.Proofs
namespace Go.Ab.En
open Go Go.Conc Go.RowKit Go.Ab
def Pr.cells (p : Pr) : List DV := [.str p.key, .str p.val]
def flatP (ps : List Pr) : List DV := ps.flatMap Pr.cells
theorem flatk_get {α β : Type} (k : Nat) (hk : 0 < k) (f : α → List β) (hf : ∀ x, (f x).length = k) : ∀ (l : List α) (j : Nat), (l.flatMap f)[j]? = (l[j / k]?).bind fun x => (f x)[j % k]?
 | [], j => by simp
 | x :: r, j => by
  rw [List.flatMap_cons]
  by_cases h : j < k
  ·rw [List.getElem?_append_left (by rw [hf]; exact h), Nat.div_eq_of_lt h, Nat.mod_eq_of_lt h]; rfl
  ·have hle : k ≤ j := Nat.le_of_not_lt h
   rw [List.getElem?_append_right (by rw [hf]; exact hle), hf, flatk_get k hk f hf r (j - k)]
   have e1 : j / k = (j - k) / k + 1 := by rw [← Nat.add_div_right _ hk, Nat.sub_add_cancel hle]
   have e2 : j % k = (j - k) % k := by rw [Nat.mod_eq_sub_mod hle]
   rw [e1, e2]; rfl
theorem flatk_len {α β : Type} (k : Nat) (f : α → List β) (hf : ∀ x, (f x).length = k) (l : List α) : (l.flatMap f).length = l.length * k := by
 induction l with
 | nil => simp
 | cons x r ih => rw [List.flatMap_cons, List.length_append, hf, ih, List.length_cons, Nat.succ_mul, Nat.add_comm]
theorem flatP_len (ps : List Pr) : (flatP ps).length = ps.length * 2 := flatk_len 2 Pr.cells (fun _ => rfl) ps
theorem flatKP_list (d : Array Pr) : (Go.Sort.flatK Go.Proofs.encP 2 d).toList = d.toList.flatMap Go.Proofs.encP := by
 refine List.ext_getElem? fun j => ?_
 rw [flatk_get 2 (by omega) _ (fun _ => rfl)]
 by_cases h : j < d.size * 2
 ·have hj : j / 2 < d.size := by omega
  rw [Array.getElem?_toList, Array.getElem?_eq_getElem (by simpa using h)]
  have := Go.Sort.get_flatK Go.Proofs.encP 2 d j h
  rw [getElem!_pos _ j (by simpa using h)] at this
  rw [this, Array.getElem?_toList, Array.getElem?_eq_getElem hj, getElem!_pos d _ hj]
  have hm : j % 2 < 2 := Nat.mod_lt _ (by omega)
  simp only [Option.bind_some]
  rw [List.getElem?_eq_getElem (by simpa [Go.Proofs.encP] using hm), getElem!_pos _ _ (by simpa [Go.Proofs.encP] using hm)]
 ·rw [List.getElem?_eq_none (by simpa using h), Array.getElem?_toList, Array.getElem?_eq_none (by omega)]; rfl
theorem prCell {G : Gh} {w : World} {a : Pr} {j : Nat} {c : DV} {v : Value} (hc : a.cells[j]? = some c) (h : VP G w c v) : (Go.Proofs.encP a)[j]? = some v := by
 match j, hc with
 | 0, hc => simp [Pr.cells] at hc; subst hc; rw [SV.str (d := 0) h]; rfl
 | 1, hc => simp [Pr.cells] at hc; subst hc; rw [SV.str (d := 0) h]; rfl
theorem prCell2 {G : Gh} {w : World} {a : Pr} {j : Nat} {c : DV} {v : Value} (hc : a.cells[j]? = some c) (h : (Go.Proofs.encP a)[j]? = some v) : VP G w c v ∧ ∀ sz xs, c ≠ .sl true sz xs := by
 match j, hc with
 | 0, hc => simp [Pr.cells] at hc; subst hc; simp [Go.Proofs.encP] at h; subst h; exact ⟨.str _, by simp⟩
 | 1, hc => simp [Pr.cells] at hc; subst hc; simp [Go.Proofs.encP] at h; subst h; exact ⟨.str _, by simp⟩
def SSortP : Spec := fun H args K => (∃ own : Bool, args = [.sl own 2 [], .fn 158 []] ∧ K H (.tup [])) ∨ ∃ (id q : Nat) (l : List Pr) (r : List DV), args = [.hsl id 2 0 l.length q, .fn 158 []] ∧ (l ≠ [] → H[id]? = some (.cells (flatP l ++ r))) ∧ l.length < 4611686018427387904 ∧
 (l = [] → K H (.tup [])) ∧ (l ≠ [] → ∀ l', l'.Perm l → K (H.set id (.cells (flatP l' ++ r))) (.tup []))
theorem rcSortP : RC (loneJ pp) 157 SSortP := by
 refine rc_of_calls ⟨_, Go.Proofs.Tryz.func157, by kernel_rfl, by kernel_rfl⟩ fun N0 w0 d G w H args vs K hS hW hF => ?_
 have fnEq : ∀ y, VP G w (.fn 158 []) y → y = .func (.func 158) #[] #[] := fun y hy => by
  cases hy with
  | @fn _ _ us h1 h2 =>
   obtain rfl : us = #[] := Array.eq_empty_of_size_eq_zero h1.symm
   rfl
 rcases hS with ⟨own, rfl, hK⟩ | ⟨id, q, l, r, rfl, hl, hlen, hK0, hK⟩
 ·have hsz : vs.size = 2 := hF.1.symm
  obtain ⟨x, y, rfl⟩ : ∃ x y, vs = #[x, y] := by
   match vs, hsz with
   | ⟨[x, y]⟩, _ => exact ⟨x, y, rfl⟩
  have hx : VP G w (.sl own 2 []) x := hF.2 0 _ _ rfl rfl
  obtain rfl := fnEq y (hF.2 1 _ _ rfl rfl)
  obtain ⟨p, q, rfl⟩ : ∃ p q, x = .slice p 0 q := by
   cases hx with
   | sl0 => exact ⟨_, _, rfl⟩
   | sl f h1 h2 h3 h4 h5 h6 => subst h1; exact ⟨_, _, rfl⟩
  refine (Go.Proofs.AnyF.slices_SortFunc_none { Go.Proofs.Tryz.sortP_lay with } p q _ w).mono fun e w' ⟨he, hw⟩ => ?_
  subst he hw
  exact ⟨_, rfl, G, H, .tup [], hK, Ext.refl _ _ _, hW, ⟨#[], rfl, rfl, by simp⟩, sown_of_noOwn rfl⟩
 have hsz : vs.size = 2 := hF.1.symm
 obtain ⟨x, y, rfl⟩ : ∃ x y, vs = #[x, y] := by
  match vs, hsz with
  | ⟨[x, y]⟩, _ => exact ⟨x, y, rfl⟩
 have hx : VP G w (.hsl id 2 0 l.length q) x := hF.2 0 _ _ rfl rfl
 have hy : VP G w (.fn 158 []) y := hF.2 1 _ _ rfl rfl
 obtain rfl := fnEq y hy
 by_cases hl0 : l = []
 ·subst hl0
  obtain ⟨p, rfl⟩ : ∃ p, x = .slice p 0 q := by
   cases hx with
   | hsl h1 h2 h3 => exact ⟨_, rfl⟩
   | hsl0 => exact ⟨_, rfl⟩
  refine (Go.Proofs.AnyF.slices_SortFunc_none { Go.Proofs.Tryz.sortP_lay with } p q _ w).mono fun e w' ⟨he, hw⟩ => ?_
  subst he hw
  exact ⟨_, rfl, G, H, .tup [], hK0 rfl, Ext.refl _ _ _, hW, ⟨#[], rfl, rfl, by simp⟩, sown_of_noOwn rfl⟩
 have hpos : 0 < l.length := List.length_pos_iff.2 hl0
 obtain ⟨b, rfl, hb, hq⟩ : ∃ b, x = .slice (some ⟨b, 0, none⟩) l.length q ∧ G.bl id = some b ∧ l.length ≤ q := by
  generalize l.length = n at hx hpos
  cases hx with
  | hsl h1 h2 h3 =>
   rcases h3 with h3 | rfl
   ·omega
   ·exact ⟨_, rfl, h1, h2⟩
  | hsl0 => exact absurd rfl (Nat.ne_of_gt hpos)
 obtain ⟨b', us, e, g1, g2, g3, g4, g5⟩ := hW.objs id _ (hl hl0)
 obtain rfl : b = b' := by rw [hb] at g1; exact Option.some.inj g1
 have hbl : b < w.heap.size := (Array.getElem?_eq_some_iff.1 g3).1
 have fl : (flatP l).length = l.length * 2 := flatk_len 2 Pr.cells (fun _ => rfl) l
 have hus : l.length * 2 + r.length = us.size := by rw [← g4, List.length_append, fl]
 have hcell : ∀ j, j < l.length * 2 → us[j]? = (l.flatMap Go.Proofs.encP)[j]? := by
  intro j hj
  have hju : j < us.size := by omega
  have hj2' : j / 2 < l.length := by omega
  have h1 : (flatP l)[j]? = (l[j / 2]).cells[j % 2]? := by
   unfold flatP
   rw [flatk_get 2 (by omega) Pr.cells (fun _ => rfl), List.getElem?_eq_getElem hj2']; rfl
  have hm : j % 2 < (l[j / 2]).cells.length := by simp [Pr.cells]; omega
  have h2 := (g5 j ((l[j / 2]).cells[j % 2]) us[j] (by rw [List.getElem?_append_left (by omega), h1, List.getElem?_eq_getElem hm]) (Array.getElem?_eq_getElem hju)).1
  rw [Array.getElem?_eq_getElem hju, flatk_get 2 (by omega) _ (fun _ => rfl), List.getElem?_eq_getElem hj2', Option.bind_some]
  exact (prCell (List.getElem?_eq_getElem hm) h2).symm
 have hfl := flatKP_list l.toArray
 have hH : Go.Sort.HoldsK Go.Proofs.encP 2 w b 0 l.toArray := by
  intro j hj
  rw [Go.Sort.size_flatK] at hj
  have hj2 : j < l.length * 2 := by simpa using hj
  have h1 := hcell j hj2
  have h2 : (Go.Sort.flatK Go.Proofs.encP 2 l.toArray)[j]? = (l.flatMap Go.Proofs.encP)[j]? := by rw [← Array.getElem?_toList, hfl]
  have h3 : (Go.Sort.flatK Go.Proofs.encP 2 l.toArray)[j]! = (Go.Sort.flatK Go.Proofs.encP 2 l.toArray)[j]'(by simpa using hj) := getElem!_pos _ j (by simpa using hj)
  rw [Array.getElem?_eq_getElem (by simpa using hj)] at h2
  have h4 : us[j]? = some (Go.Sort.flatK Go.Proofs.encP 2 l.toArray)[j]! := by rw [h1, ← h2, h3]
  refine ⟨?_, ?_⟩
  ·unfold World.cell?
   simp only [g3, Option.isSome_none, Bool.false_eq_true, if_false, Nat.zero_add]
   simpa using h4
  ·unfold World.frozen?
   simp [g3]
 have ent : Go.Proofs.Enters Go.Proofs.Tryz.prog 158 := Go.Proofs.enters_of Go.Proofs.Tryz.func158 (by kernel_rfl) rfl
 have hcon := Go.Proofs.AnyQ.slices_SortFunc Go.Proofs.Tryz.sortP_lay 2 Go.Proofs.Tryz.isAgg96 Go.Proofs.Tryz.sizeOf96 Go.Proofs.encP (fun _ => rfl) (fun x v hv => by simp [Go.Proofs.encP] at hv; rcases hv with rfl | rfl <;> rfl) (fun x y => cmpS x.key y.key) Go.Proofs.swoP 158 #[] b 0 q l.toArray w ent (Go.Proofs.cmpLaysP b 0 l.toArray.size w) hH hbl (by simpa using hlen)
 refine Calls.mono (P := Go.Proofs.Tryz.prog) hcon fun e2 w' ⟨he, d', n, os, hp, hs, hw⟩ => ?_
 have hds : d'.size = l.length := by have := hp.1; simpa using this
 have hp2 : d'.toList.Perm l := by
  obtain ⟨hsz, _, hperm⟩ := hp
  have e1 : d'.extract 0 l.toArray.size = d' := by rw [← hsz]; exact Array.extract_size
  rw [e1, Array.extract_size] at hperm
  exact hperm
 obtain ⟨l', hd⟩ : ∃ l', d'.toList = l' := ⟨_, rfl⟩
 rw [hd] at hp2
 have hfl2 := flatKP_list d'
 rw [hd] at hfl2
 have hsl : l'.length = l.length := hp2.length_eq
 generalize hw1 : Go.Sort.putRowK Go.Proofs.encP 2 (Go.Sort.ahead w n) b 0 d' = w1 at *
 have hw2 : w' = Go.Sort.grow w1 os := by rw [hw, ← hw1]; rfl
 have hb1 : w1.heap[b]? = some (.cells (Go.Sort.putCells _root_.id 0 (Go.Sort.flatK Go.Proofs.encP 2 d') us) e (0, 0)) := by
  rw [← hw1]
  simp only [Go.Sort.putRowK, Go.Sort.putRow, Go.Sort.mapBlock, Go.Sort.ahead]
  rw [Array.getElem?_modify, if_pos rfl, g3]
  rfl
 have hm : Mod b G w G w1 := by
  rw [← hw1]
  refine ⟨rfl, rfl, rfl, ?_, hbl, fun x hx => ⟨?_, rfl⟩, rfl, rfl, ⟨fun x o v h => ?_, fun _ _ h => h⟩⟩
  ·simp [Go.Sort.putRowK, Go.Sort.putRow, Go.Sort.mapBlock, Go.Sort.ahead]
  ·simp [Go.Sort.putRowK, Go.Sort.putRow, Go.Sort.mapBlock, Go.Sort.ahead, Array.getElem?_modify, Ne.symm hx]
  ·have hne : x ≠ b := by rintro rfl; exact not_still_obj _ _ (g2 ▸ h.1)
   refine ⟨h.1, ?_⟩
   have := h.2
   rw [Go.Sort.cell?_putRowK_other _ _ _ _ _ _ _ hne]
   exact this
 have hput : ∀ j v, (Go.Sort.putCells _root_.id 0 (Go.Sort.flatK Go.Proofs.encP 2 d') us)[j]? = some v → (j < l.length * 2 ∧ (l'.flatMap Go.Proofs.encP)[j]? = some v) ∨ (l.length * 2 ≤ j ∧ us[j]? = some v) := by
  intro j v hv
  unfold Go.Sort.putCells at hv
  rw [Array.getElem?_mapIdx] at hv
  obtain ⟨u, hu, hv⟩ := Option.map_eq_some_iff.1 hv
  rw [Go.Sort.size_flatK, hds] at hv
  by_cases h : j < l.length * 2
  ·rw [if_pos ⟨by omega, by omega⟩] at hv
   refine .inl ⟨h, ?_⟩
   rw [← hfl2, Array.getElem?_toList, Array.getElem?_eq_getElem (by simpa [hds] using h)]
   rw [Nat.sub_zero, getElem!_pos _ j (by simpa [hds] using h)] at hv
   exact congrArg some hv
  ·rw [if_neg (by omega)] at hv
   exact .inr ⟨by omega, by rw [hu, hv]⟩
 have fl2 : (flatP l').length = l.length * 2 := by rw [show (flatP l').length = l'.length * 2 from flatk_len 2 Pr.cells (fun _ => rfl) _, hsl]
 have hnarr : ∀ o wm, G.role b ≠ .arr o wm := fun o wm h => by rw [g2] at h; cases h
 have hW1 : WRel N0 w0 G w1 (H.set id (.cells (flatP l' ++ r))) := by
  refine hW.mod hm (by rw [g2]; exact ⟨by simp, by simp⟩) (by simp) fun i ob hi => ?_
  by_cases e' : i = id
  ·subst e'
   have hil : i < H.length := by simpa using (List.getElem?_eq_some_iff.1 hi).1
   rw [List.getElem?_set_self hil] at hi
   obtain rfl := Option.some.inj hi
   refine ⟨b, _, e, hb, g2, hb1, by rw [List.length_append, fl2, hus]; simp [Go.Sort.putCells], fun j c v hc hv => ?_⟩
   rcases hput j v hv with ⟨hj, h⟩ | ⟨hj, h⟩
   ·have hj2' : j / 2 < l'.length := by omega
    rw [List.getElem?_append_left (by omega)] at hc
    unfold flatP at hc
    rw [flatk_get 2 (by omega) Pr.cells (fun _ => rfl), List.getElem?_eq_getElem hj2'] at hc
    rw [flatk_get 2 (by omega) _ (fun _ => rfl), List.getElem?_eq_getElem hj2'] at h
    obtain ⟨k1, k2⟩ := prCell2 (G := G) (w := w1) hc h
    exact ⟨k1, fun sz xs e => absurd e (k2 sz xs)⟩
   ·rw [List.getElem?_append_right (by omega), fl2] at hc
    have := g5 j c v (by rw [List.getElem?_append_right (by omega), fl]; exact hc) h
    exact ⟨this.1.keep hm.keep, this.2.mod hm (hnarr _)⟩
  ·rw [List.getElem?_set_ne (Ne.symm e')] at hi
   exact (hW.objs i ob hi).mod hm (fun h => e' (by rw [g2] at h; exact (Role.obj.inj h).symm)) (fun _ _ => hnarr _ _)
 have hn : Neu G w1 G w' := by
  rw [hw2]
  refine ⟨rfl, rfl, rfl, by simp [Go.Sort.grow], fun x hx => ⟨?_, rfl⟩, rfl, rfl, fun h x hx => h x ?_⟩
  ·simp [Go.Sort.grow, Array.getElem?_append_left hx]
  ·simp [Go.Sort.grow] at hx; omega
 subst he
 exact ⟨_, rfl, G, _, .tup [], hK hl0 l' hp2, (hm.ext _ (fun _ _ _ h => by rw [g2] at h; cases h) (fun _ _ _ => hnarr _ _)).trans (hn.ext hW1.fresh _), hW1.neu hn, ⟨#[], rfl, rfl, by simp⟩, sown_of_noOwn rfl⟩
end Go.Ab.En
namespace Go.Ab.En
open Go Go.Conc Go.RowKit Go.Ab
set_option maxRecDepth 10000
def isP : ObjT := fun t => t == 64
theorem isP_eq {t : TypeId} : isP t = (t == 64) := _root_.id rfl
def isU : ObjT := fun t => t == 64 || t == 32
theorem isU_eq {t : TypeId} : isU t = (t == 64 || t == 32) := _root_.id rfl
def HRowFP (H : List HObj) (id cap : Nat) (ps : List Pr) : Prop := ps.length ≤ cap ∧ (cap ≠ 0 → ∃ sp, H[id]? = some (.cells (flatP ps ++ sp)) ∧ sp.length = (cap - ps.length) * 2)
def OutQ (H H' : List HObj) (v : DV) (ps : List Pr) : Prop := ∃ id cap, v = .hsl id 2 0 ps.length cap ∧ HRowFP H' id cap ps ∧ (cap ≠ 0 → H.length ≤ id)
theorem HRowFP.fr {S : List Nat} {H H' : List HObj} {id cap : Nat} {ps : List Pr} (h : HRowFP H id cap ps) (f : Fr S H H') (hs : cap ≠ 0 → id ∉ S) : HRowFP H' id cap ps := by
 refine ⟨h.1, fun hc => ?_⟩
 obtain ⟨sp, h3, h4⟩ := h.2 hc
 exact ⟨sp, f.get h3 (hs hc), h4⟩
theorem OutQ.fr {H H1 H2 : List HObj} {v : DV} {ps : List Pr} (h : OutQ H H1 v ps) (f : Fr [] H1 H2) : OutQ H H2 v ps := by
 obtain ⟨id, cap, h1, h3, h4⟩ := h
 exact ⟨id, cap, h1, h3.fr f (by simp), h4⟩
theorem flatP_app (a b : List Pr) : flatP (a ++ b) = flatP a ++ flatP b := by simp [flatP]
theorem flatP_sca : ∀ ps : List Pr, (flatP ps).all DV.scalar = true
 | [] => rfl
 | p :: r => by
  have := flatP_sca r
  simp only [flatP, List.flatMap_cons, List.all_append, Bool.and_eq_true] at this ⊢
  exact ⟨rfl, this⟩
theorem flatP_ro : ∀ ps : List Pr, (flatP ps).map DV.ro1 = flatP ps
 | [] => rfl
 | p :: r => by
  have := flatP_ro r
  simp only [flatP, List.flatMap_cons, List.map_append] at this ⊢
  rw [this]; rfl
theorem flatP_drop : ∀ (ps : List Pr) (i : Nat), (flatP ps).drop (i * 2) = flatP (ps.drop i)
 | ps, 0 => by simp
 | [], i + 1 => by simp [flatP]
 | e :: r, i + 1 => by
  have := flatP_drop r i
  rw [List.drop_succ_cons, ← this]
  simp only [flatP, List.flatMap_cons, Pr.cells]
  rw [show (i + 1) * 2 = i * 2 + 2 by omega]
  simp
theorem prow_cells {ps : List Pr} {sp : List DV} {i : Nat} (hi : i < ps.length) : ∃ r, (flatP ps ++ sp).drop (i * 2) = .str (ps[i]).key :: .str (ps[i]).val :: r := by
 rw [List.drop_append_of_le_length (by rw [flatP_len]; omega), flatP_drop, List.drop_eq_getElem_cons hi]
 exact ⟨flatP (ps.drop (i + 1)) ++ sp, by rw [flatP, List.flatMap_cons]; rfl⟩
noncomputable def b217 : Code := (Go.Proofs.Tryz.f217.body).getD .skip
theorem hb217 : Go.Proofs.Tryz.f217.body = some b217 := by kernel_rfl
def idxQ (p : Pr → Bool) : List Pr → Option Nat
 | [] => none
 | w :: r => if p w then some 0 else (idxQ p r).map (· + 1)
theorem idxQ_none {p : Pr → Bool} : ∀ {ps : List Pr}, (∀ x ∈ ps, p x = false) → idxQ p ps = none
 | [], _ => rfl
 | w :: r, h => by rw [idxQ, h w (by simp), idxQ_none fun x hx => h x (by simp [hx])]; rfl
def SIdxQ (f : Nat) (SF : Spec) : Spec := fun H args K => ∃ (id cap : Nat) (ps : List Pr) (caps : List DV) (p : Pr → Bool), args = [.hsl id 2 0 ps.length cap, .fn f caps] ∧ HRowFP H id cap ps ∧ ps.length < 4611686018427387904 ∧ caps.map DV.ro = caps ∧
 (∀ w : Pr, ∀ K' : List HObj → DV → Prop, K' H (.bool (p w)) → SF H (.agg [.str w.key, .str w.val] :: caps) K') ∧ K H (.int .i64 (idxI (idxQ p ps)))
def MIq (H : List HObj) (f : Nat) (caps : List DV) (v : DV) (ps : List Pr) (p : Pr → Bool) (m : Nat) (st : St) : Prop := ∃ i : Nat, i ≤ ps.length ∧ m = ps.length - i ∧ idxQ p ps = (idxQ p (ps.drop i)).map (· + i) ∧
 st = mk 19 [(0, v), (1, .fn f caps), (7, .int .i64 ps.length), (8, .int .i64 i)] [] H []
set_option maxHeartbeats 4000000 in
theorem rcIdxQ {I : Jd pp} (hI : ∀ w e, I.Ok w e) {SF : Spec} {f : Nat} (hF : RC I f SF) : RC I 217 (SIdxQ f SF) := by
 refine rc_of_code (isObj := noO) (Γ := envOf [(f, SF)]) (rs := [4]) mixed hI (envOf_rc (by simpa using hF)) Go.Proofs.Tryz.func217 (by kernel_rfl) hb217 Go.Proofs.Tryz.results217 Go.Proofs.Tryz.ntmps217 (by decide) ?_
 rintro H args K ⟨id, cap, ps, caps, p, rfl, hr, hl, hcap, hp, hK⟩
 have hz : ∀ o : Option Nat, o.map (· + 0) = o := fun o => by cases o <;> rfl
 refine ⟨by simp, rfl, ?_⟩
 unfold b217 Go.Proofs.Tryz.f217
 simp only [Int.reduceNeg, Option.getD_some, argSlots, BB3, Nat.zero_add, BB0, BB1, constDV, dropLk, Nat.reduceLT, movK, Nat.reduceBEq, dlh64]
 refine w_loop [0, 1, 7, 8] (MIq H f caps (.hsl id 2 0 ps.length cap) ps p) ps.length ?_ ?_
 ·exact ⟨0, by omega, by omega, by simp [hz], by simp only [BB1, List.map_cons, Nat.reduceBEq, BB3, List.map_nil, BB4]; try rfl⟩
 ·rintro m st ⟨i, hi, rfl, hix, rfl⟩
  by_cases e : i < ps.length
  ·have e1 : (i : Int) < ps.length := by omega
   have e2 : (0 : Int) ≤ i := by omega
   have wi : IntKind.i64.wrap ((i : Int) + 1) = ((i + 1 : Nat) : Int) := by rw [wrap_i64 (by omega) (by omega)]; omega
   obtain ⟨sp, k1, _⟩ := hr.2 (by rintro rfl; have := hr.1; omega)
   obtain ⟨r, d1⟩ := prow_cells (sp := sp) e
   rw [List.drop_eq_getElem_cons e] at hix
   simp only [Int.reduceNeg, BB0, BB1, BB4, Bool.false_eq_true, Nat.reduceLT, Nat.reduceBEq, BB3, e1, decide_true, dropLk, cd_t, movK, takK, ixh64, e2, Int.toNat_natCast, Nat.zero_add, k1, d1, la96, List.length_cons, Nat.reduceLeDiff, List.take_succ_cons, List.take_zero, List.map_cons, List.map_nil, BB5, if_true, List.all_cons, List.all_nil, Bool.and_self, hcap, List.cons_append, List.nil_append, true_and, if_false]
   refine hp ps[i] _ ?_
   cases hpw : p ps[i]
   ·simp only [Int.reduceNeg, BB1, BB5, Pos.isHp, List.filter_nil, dropLk, BB0, Nat.reduceLT, BB3, cd_f, BB4, Bool.false_eq_true, Nat.reduceBEq, constDV, wi, movK, List.map_cons, List.map_nil, if_false]
    refine ⟨_, ?_, i + 1, by omega, rfl, ?_, rfl⟩
    ·omega
    ·rw [hix, idxQ, hpw]
     cases idxQ p (ps.drop (i + 1)) <;> simp; omega
   ·simp only [Int.reduceNeg, BB1, BB5, Pos.isHp, List.filter_nil, dropLk, BB0, Nat.reduceLT, BB3, cd_t, movK, Nat.reduceBEq, takK, BB6, true_and]
    rw [hix, idxQ, hpw] at hK
    simpa [idxI] using hK
  ·obtain rfl : i = ps.length := by omega
   have e1 : ¬ (ps.length : Int) < ps.length := by omega
   simp only [Int.reduceNeg, BB0, BB1, BB4, Bool.false_eq_true, Nat.reduceLT, Nat.reduceBEq, BB3, e1, decide_false, dropLk, cd_f, constDV, BB6, true_and, if_true, if_false]
   rw [hix, List.drop_length] at hK
   exact hK
noncomputable def b156 : Code := (Go.Proofs.Tryz.f156.body).getD .skip
theorem hb156 : Go.Proofs.Tryz.f156.body = some b156 := by kernel_rfl
def SUp1 : Spec := fun H args K => ∃ (b : Nat) (p : Pr) (w : Wr), args = [.agg [.str p.key, .str p.val], .ptr b 0] ∧ H[b]? = some (.cells [.str w.key, .bool w.del, .str w.val]) ∧ K H (.bool (decide (p.key = w.key)))
theorem rcUp1 {I : Jd pp} (hI : ∀ w e, I.Ok w e) : RC I 156 SUp1 := by
 refine rc_of_code (isObj := noO) (Γ := envOf []) (rs := [3]) mixed hI (envOf_rc (by simp)) Go.Proofs.Tryz.func156 (by kernel_rfl) hb156 Go.Proofs.Tryz.results156 Go.Proofs.Tryz.ntmps156 (by decide) ?_
 rintro H args K ⟨b, p, w, rfl, h1, hK⟩
 refine ⟨by simp, rfl, ?_⟩
 unfold b156 Go.Proofs.Tryz.f156
 simp only [Option.getD_some, argSlots, BB1, List.map_cons, List.map_nil, Nat.zero_add, BB2, BB0, Nat.reduceLT, takK, BB3, List.all_cons, List.all_nil, Bool.and_self, BB4, isO_eq, Bool.false_eq_true, dropLk, bgen_eq, if_false, constDV, Nat.reduceBEq, fl96_0, Nat.add_zero, if_true, List.drop_zero, la9, fp32_0, h1, BB6, true_and]
 exact hK
noncomputable def b155 : Code := (Go.Proofs.Tryz.f155.body).getD .skip
theorem hb155 : Go.Proofs.Tryz.f155.body = some b155 := by kernel_rfl
def SDelN (f : Nat) (SF : Spec) : Spec := fun H args K => ∃ (id cap : Nat) (ps : List Pr) (caps : List DV) (p : Pr → Bool), args = [.hsl id 2 0 ps.length cap, .fn f caps] ∧ HRowFP H id cap ps ∧ ps.length < 4611686018427387904 ∧ caps.map DV.ro = caps ∧
 (∀ w : Pr, ∀ K' : List HObj → DV → Prop, K' H (.bool (p w)) → SF H (.agg [.str w.key, .str w.val] :: caps) K') ∧ (∀ x ∈ ps, p x = false) ∧ K H (.hsl id 2 0 ps.length cap)
theorem rcDelN {I : Jd pp} (hI : ∀ w e, I.Ok w e) {SF : Spec} {f : Nat} (hF : RC I f SF) : RC I 155 (SDelN f SF) := by
 refine rc_of_code (isObj := isP) (Γ := envOf [(217, SIdxQ f SF)]) (rs := [4]) mixed hI (envOf_rc (by simpa using rcIdxQ hI hF)) Go.Proofs.Tryz.func155 (by kernel_rfl) hb155 Go.Proofs.Tryz.results155 Go.Proofs.Tryz.ntmps155 (by decide) ?_
 rintro H args K ⟨id, cap, ps, caps, p, rfl, hr, hl, hcap, hp, hn, hK⟩
 refine ⟨by simp, rfl, ?_⟩
 unfold b155 Go.Proofs.Tryz.f155
 simp only [Int.reduceNeg, Option.getD_some, argSlots, BB3, Nat.zero_add, BB0, BB1, constDV, Proofs.Tryz.underlying64, cn96, dropLk, Nat.reduceLT, movK, Nat.reduceBEq, BB4, BB5, if_true, List.all_cons, List.all_nil, Bool.and_self, List.map_cons, List.map_nil, true_and]
 refine ⟨id, cap, ps, caps, p, rfl, hr, hl, hcap, hp, ?_⟩
 rw [idxQ_none hn]
 simp only [Int.reduceNeg, idxI, BB1, BB5, Pos.isHp, List.filter_nil, dropLk, BB0, Nat.reduceLT, takK, BB3, movK, BB4, Bool.false_eq_true, constDV, decide_true, cd_t, Nat.reduceBEq, BB6, true_and, if_false]
 exact hK
def SClQ : Spec := fun H args K => ∃ (own : Bool) (ps : List Pr), args = [.sl own 2 (ps.map prD)] ∧ ps.length < 100000 ∧ ∀ H' v, Fr [] H H' → OutQ H H' v ps → K H' v
def SClQ1 : Spec := fun H args K => ∃ (own : Bool) (p : Pr) (ps : List Pr), args = [.sl own 2 ((p :: ps).map prD)] ∧ (p :: ps).length < 100000 ∧ ∀ H' v, Fr [] H H' → OutQ H H' v (p :: ps) → K H' v
def SClQ0 : Spec := fun H args K => ∃ (own : Bool), args = [.sl own 2 []] ∧ ∀ H' v, Fr [] H H' → OutQ H H' v [] → K H' v
theorem rcClQ1 : RC (loneJ pp) 92 SClQ1 := by
 have hI := hI1
 refine rc_of_code (isObj := isP) (Γ := envOf []) (rs := [2]) mixed hI (envOf_rc (by simp)) Go.Proofs.Tryz.func92 (by kernel_rfl) hb92 Go.Proofs.Tryz.results92 Go.Proofs.Tryz.ntmps92 (by decide) ?_
 rintro H args K ⟨own, p, ps, rfl, h2, hK⟩
 refine ⟨by simp, rfl, ?_⟩
 unfold b92 Go.Proofs.Tryz.f92
 simp only [Option.getD_some, argSlots, List.map_cons, BB1, BB0, constDV, Proofs.Tryz.underlying64, cn96, dropLk, Nat.reduceLT, movK, Nat.reduceBEq, BB3, lkGet, BB4, n_eql Go.Proofs.Tryz.underlying64, cd_f, bs64_0, isP_eq, beq_self_eq_true, apo64_64, takK, BB6, true_and, ne_eq, srcC_sl Go.Proofs.Tryz.underlying64, List.length_cons, Nat.reduceLeDiff, reduceCtorEq, false_implies, not_false_eq_true, List.flatMap_cons, true_implies, ap64_64, List.length_nil, Nat.zero_add, List.nil_append, if_true, cd_t, and_true]
 have e1 : (List.map prD ps).length + 1 = (p :: ps).length := by simp
 have e2 : List.map DV.ro1 ((prD p).cells ++ List.flatMap DV.cells (List.map prD ps)) = flatP (p :: ps) := by
  have h : ∀ l : List Pr, List.flatMap DV.cells (List.map prD l) = flatP l := fun l => by
   rw [List.flatMap_map]; rfl
  rw [h, show (prD p).cells = p.cells from rfl, show p.cells ++ flatP ps = flatP (p :: ps) from rfl, flatP_ro]
 rw [e1, e2]
 simp at h2
 refine ⟨by simp; omega, by simp; omega, fun q hq => hK _ _ (Fr.app [] _ _) ⟨H.length, q, rfl, ⟨hq, fun _ => ⟨List.replicate ((q - (p :: ps).length) * 2) .undef, by simp, by simp⟩⟩, fun _ => Nat.le_refl _⟩⟩
theorem infoPr : (pp.info? 96).map (fun i => (i.zero, i.size, i.bytes)) = some (some (.agg #[.string ⟨#[]⟩, .string ⟨#[]⟩]), 2, 32) := by kernel_rfl
theorem rcClQ0 : RC (loneJ pp) 92 SClQ0 := by
 refine rc_of_calls ⟨_, Go.Proofs.Tryz.func92, by kernel_rfl, by kernel_rfl⟩ fun N0 w0 d G w H args vs K hS hW hF => ?_
 obtain ⟨own, rfl, hK⟩ := hS
 have hsz : vs.size = 1 := hF.1.symm
 obtain ⟨x, rfl⟩ : ∃ x, vs = #[x] := by
  match vs, hsz with
  | ⟨[x]⟩, _ => exact ⟨x, rfl⟩
 have hx : VP G w (.sl own 2 []) x := hF.2 0 _ _ rfl rfl
 obtain ⟨p, q, rfl⟩ : ∃ p q, x = .slice p 0 q := by
  cases hx with
  | sl0 => exact ⟨_, _, rfl⟩
  | sl f h1 h2 h3 h4 h5 h6 => subst h1; exact ⟨_, _, rfl⟩
 cases p with
 | none =>
  refine (Go.Proofs.AnyE.slices_Clone_nil Go.Proofs.Tryz.cloneP_lay 0 q w).mono fun e w' ⟨he, hw⟩ => ?_
  subst he hw
  exact ⟨_, rfl, G, H, .hsl 0 2 0 0 0, hK H _ (Fr.refl _ _) ⟨0, 0, rfl, ⟨Nat.le_refl _, fun h => absurd rfl h⟩, fun h => absurd rfl h⟩, Ext.refl _ _ _, hW, SV.of_vp VP.hsl0, sown_of_noOwn rfl⟩
 | some a =>
  obtain ⟨b, off, f⟩ := a
  have hf : f = none := by
   cases hx with
   | sl f h1 h2 h3 h4 h5 h6 => rfl
  subst hf
  obtain ⟨i0, hi, hz0, hz1, hz2⟩ := Go.info_parts infoPr
  refine (Go.Proofs.AnyE.slices_Clone Go.Proofs.Tryz.cloneP_lay i0 _ 2 _ hi hz0 hz1 hz2 rfl (by decide) Go.Proofs.Tryz.sizeOf96 b off 0 q [] w rfl (Nat.zero_le _) (by omega) (by intro j u h; simp at h) (by intro u h; cases h)).mono fun e w' ⟨v', he, how, hnn, hB⟩ => ?_
  subst he
  obtain ⟨_, ho⟩ := how
  rcases ho with ⟨e, _⟩ | ⟨g, cap, cur, rfl, hg, hgw, h0, hm, hc, _⟩
  ·exact absurd e hnn
  have hlt : g < w'.heap.size := (Array.getElem?_eq_some_iff.1 hgw).1
  have hn : Neu G w (G.setRole g (.obj H.length)) w' := ⟨hB.os, hB.tape, hB.output, hB.size, fun k hk => ⟨hB.block k hk, G.setRole_ne _ (by omega)⟩, rfl, rfl, fun h k hk => by
   rw [G.setRole_ne _ (by omega)]
   exact h k (Nat.le_trans hB.size hk)⟩
  have hW1 := hW.neu hn
  have hW2 := hW1.addObj (n := g) (ob := .cells (List.replicate (cap * 2) .undef)) (by simp) ⟨g, cur, _, by simp [Gh.setBl], by simp, hgw, by simp [hc], fun j c v hc' hv => by
   have := (List.mem_replicate.1 (List.mem_of_getElem? hc')).2
   subst this
   exact ⟨.undef _, fun sz xs e => by cases e⟩⟩
  exact ⟨_, rfl, _, _, .hsl H.length 2 0 0 cap, hK _ _ (Fr.app [] _ _) ⟨H.length, cap, rfl, ⟨Nat.zero_le _, fun _ => ⟨List.replicate (cap * 2) .undef, by simp [flatP], by simp⟩⟩, fun _ => Nat.le_refl _⟩, (hn.ext hW.fresh _).trans (ext_setBl hW1 g), hW2, SV.of_vp (VP.hsl (by simp [Gh.setBl]) (Nat.zero_le _) (.inr rfl)), sown_of_noOwn rfl⟩
theorem rcClQ : RC (loneJ pp) 92 SClQ := by
 refine ⟨rcClQ0.1, fun N0 w0 d G w H args vs K hS => ?_⟩
 obtain ⟨own, ps, rfl, h2, hK⟩ := hS
 cases ps with
 | nil => exact rcClQ0.2 N0 w0 d G w H _ vs K ⟨own, rfl, hK⟩
 | cons p ps => exact rcClQ1.2 N0 w0 d G w H _ vs K ⟨own, p, ps, rfl, h2, hK⟩
end Go.Ab.En
namespace Go.Ab.En
open Go Go.Conc Go.RowKit Go.Ab
set_option maxRecDepth 10000
theorem HRowFP.put {H : List HObj} {id cap : Nat} {ps : List Pr} {p : Pr} {sp : List DV} (h : H[id]? = some (.cells (flatP ps ++ sp))) (hs : sp.length = (cap - ps.length) * 2) (hc : ps.length + 1 ≤ cap) : HRowFP (H.set id (.cells (flatP ps ++ (p.cells ++ sp.drop 2)))) id cap (ps ++ [p]) := by
 refine ⟨by simp; omega, fun _ => ⟨sp.drop 2, ?_, by rw [List.length_drop, hs]; simp; omega⟩⟩
 rw [List.getElem?_set_self (List.getElem?_eq_some_iff.1 h).1, flatP_app]
 simp [flatP]
noncomputable def b91 : Code := (Go.Proofs.Tryz.f91.body).getD .skip
theorem hb91 : Go.Proofs.Tryz.f91.body = some b91 := by kernel_rfl
def upN (a b : Str) (ws : List Wr) : List Pr := ws.filterMap fun w => if inAB a b w.key && !w.del then some ⟨w.key, w.val⟩ else none
theorem upN_snoc (a b : Str) (ws : List Wr) (w : Wr) : upN a b (ws ++ [w]) = upN a b ws ++ (if inAB a b w.key && !w.del then [⟨w.key, w.val⟩] else []) := by
 unfold upN
 rw [List.filterMap_append]
 congr 1
 rw [List.filterMap_cons]
 cases h : inAB a b w.key && !w.del <;> rfl
theorem upN_mem {a b : Str} {ws : List Wr} {p : Pr} (h : p ∈ upN a b ws) : ∃ w ∈ ws, w.key = p.key := by
 obtain ⟨w, hw, h⟩ := List.mem_filterMap.1 h
 split at h
 ·exact ⟨w, hw, by rw [← Option.some.inj h]⟩
 ·cases h
def SUpN : Spec := fun H args K => ∃ (D : DealS) (own : Bool) (ps : List Pr) (a b : Str), args = [.ptr D.d 0, .sl own 2 (ps.map prD), .str a, .str b] ∧ D.At H ∧ D.ws.length < 100000 ∧ ps.length < 100000 ∧ (D.ws.map (·.key)).Nodup ∧ (∀ p ∈ ps, ∀ w ∈ D.ws, p.key ≠ w.key) ∧
 ∀ H' v (l' : List Pr), Fr [] H H' → l'.Perm (ps ++ upN a b D.ws) → OutQ H H' v (l'.take 64) → K H' v
def MUp (H : List HObj) (D : DealS) (a b : Str) (ps : List Pr) (k : Nat) (st : St) : Prop := ∃ (i : Nat) (v : DV) (H' : List HObj), i ≤ D.ws.length ∧ k = D.ws.length - i ∧ Fr [] H H' ∧ OutQ H H' v (ps ++ upN a b (D.ws.take i)) ∧
 st = mk 59 [(0, .ptr D.d 0), (2, .str a), (3, .str b), (9, v), (17, .hsl D.wi 3 0 D.ws.length D.cap), (18, .int .i64 D.ws.length), (19, .int .i64 i)] [] H' []
set_option maxHeartbeats 8000000 in
theorem rcUpN : RC (loneJ pp) 91 SUpN := by
 have hI := hI1
 refine rc_of_code (isObj := isU) (Γ := envOf [(92, SClQ), (155, SDelN 156 SUp1), (157, SSortP)]) (rs := [8]) mixed hI (envOf_rc (by simpa using ⟨rcClQ, rcDelN hI (rcUp1 hI), rcSortP⟩)) Go.Proofs.Tryz.func91 (by kernel_rfl) hb91 Go.Proofs.Tryz.results91 Go.Proofs.Tryz.ntmps91 (by decide) ?_
 rintro H args K ⟨D, own, ps, a, b, rfl, h1, h2, h3, hn, hps, hK⟩
 refine ⟨by simp, rfl, ?_⟩
 unfold b91 Go.Proofs.Tryz.f91
 simp only [Option.getD_some, argSlots, BB2, Nat.zero_add, BB1, Nat.reduceAdd, BB0, constDV, Proofs.Tryz.underlying64, cn96, dropLk, Nat.reduceLT, movK, Nat.reduceBEq, BB3, lkGet, BB4, BB5, Nat.reduceEqDiff, if_false, if_true, List.all_cons, List.all_nil, Bool.and_self, List.map_cons, List.map_nil, true_and]
 refine ⟨_, ps, rfl, h3, fun H1 v1 f1 o1 => ?_⟩
 have d1 := h1.fr f1 (by simp)
 have oo := o1
 obtain ⟨id, cap, rfl, o⟩ := o1
 simp only [BB1, BB5, Pos.isHp, List.filter_nil, dropLk, BB0, Nat.reduceLT, takK, BB3, movK, Nat.reduceBEq, BB2, dnil, fp143_4, Nat.zero_add, d1.top, List.drop_succ_cons, List.drop_zero, la33, dlh33, constDV]
 refine w_loop [0, 2, 3, 9, 17, 18, 19] (MUp H D a b ps) D.ws.length ?_ ?_
 ·exact ⟨0, _, H1, by omega, by omega, f1, by simpa [upN] using oo, by simp only [BB1, List.map_cons, Nat.reduceBEq, BB3, List.map_nil, BB4]; try rfl⟩
 ·rintro k st ⟨i, v, H2, hi, rfl, f2, o2, rfl⟩
  have d2 := h1.fr f2 (by simp)
  have hle2 : H.length ≤ H2.length := f2.1
  by_cases e : i < D.ws.length
  ·have e1 : (i : Int) < D.ws.length := by omega
   have e2 : (0 : Int) ≤ i := by omega
   have wi : IntKind.i64.wrap ((i : Int) + 1) = ((i + 1 : Nat) : Int) := by rw [wrap_i64 (by omega) (by omega)]; omega
   obtain ⟨cs, c1, c2⟩ := d2.wrs.row.2 (by intro h; rw [h] at e; simp at e)
   obtain ⟨r, x1⟩ := hroww_cells c2 e
   rw [Nat.zero_add] at x1
   have htk : upN a b (D.ws.take (i + 1)) = upN a b (D.ws.take i) ++ (if inAB a b D.ws[i].key && !D.ws[i].del then [⟨D.ws[i].key, D.ws[i].val⟩] else []) := by
    rw [List.take_succ_eq_append_getElem e, upN_snoc]
   have g2 : ∀ X, (H2 ++ [X])[H2.length]? = some X := fun X => by simp
   have f3 : ∀ X, Fr [] H (H2 ++ [X]) := fun X => (f2.trans (Fr.app [] _ _)).mono (by simp)
   have o3 : ∀ X, OutQ H (H2 ++ [X]) v (ps ++ upN a b (D.ws.take i)) := fun X => o2.fr (Fr.app [] _ _)
   have skip : inAB a b D.ws[i].key = false → MUp H D a b ps (D.ws.length - (i + 1)) (mk 59 [(0, .ptr D.d 0), (2, .str a), (3, .str b), (9, v), (17, .hsl D.wi 3 0 D.ws.length D.cap), (18, .int .i64 D.ws.length), (19, .int .i64 ((i + 1 : Nat) : Int))] [] (H2 ++ [.cells [.str D.ws[i].key, .bool D.ws[i].del, .str D.ws[i].val]]) []) := fun hin => by
    rw [hin] at htk
    exact ⟨i + 1, v, _, by omega, rfl, f3 _, by rw [htk]; simpa using o3 _, rfl⟩
   have hnone : ∀ x ∈ ps ++ upN a b (D.ws.take i), decide (x.key = D.ws[i].key) = false := fun x hx => by
    rw [decide_eq_false_iff_not]
    intro hk
    rcases List.mem_append.1 hx with hx | hx
    ·exact hps x hx _ (List.getElem_mem e) hk
    ·obtain ⟨w, hw, hk2⟩ := upN_mem hx
     obtain ⟨j, hj, rfl⟩ := List.getElem_of_mem hw
     rw [List.getElem_take] at hk2
     have hj2 : j < i := by rw [List.length_take] at hj; omega
     have := key_inj hn (by omega) e (hk2.trans hk)
     omega
   have hlen : (ps ++ upN a b (D.ws.take i)).length < 200000 := by
    have := List.length_filterMap_le (fun w => if inAB a b w.key && !w.del then some (⟨w.key, w.val⟩ : Pr) else none) (D.ws.take i)
    rw [List.length_append]
    unfold upN
    rw [List.length_take] at this
    omega
   have hdone : D.ws[i].del = true → upN a b (D.ws.take (i + 1)) = upN a b (D.ws.take i) := fun hd => by
    rw [htk, hd]; simp
   have hmore : inAB a b D.ws[i].key = true → D.ws[i].del = false → upN a b (D.ws.take (i + 1)) = upN a b (D.ws.take i) ++ [⟨D.ws[i].key, D.ws[i].val⟩] := fun hin hd => by
    rw [htk, hin, hd]; rfl
   cases hA : Op.bytesLess D.ws[i].key a
   ·have hin : inAB a b D.ws[i].key = true ∨ (b ≠ [] ∧ Op.bytesLess D.ws[i].key b = false) := by
     by_cases hb : b = []
     ·exact .inl (by simp [inAB, hA, hb])
     ·cases hB : Op.bytesLess D.ws[i].key b
      ·exact .inr ⟨hb, rfl⟩
      ·exact .inl (by simp [inAB, hA, hB])
    rcases hin with hin | ⟨hb, hB⟩
    ·generalize hdn : ps ++ upN a b (D.ws.take i) = done at *
     obtain ⟨id, cap, rfl, hr, hid⟩ := o2
     have em : D.ws[i].del = false → ps ++ upN a b (D.ws.take (i + 1)) = done ++ [⟨D.ws[i].key, D.ws[i].val⟩] := fun hd => by rw [hmore (by first | exact hin | exact hin) hd, ← List.append_assoc, hdn]
     have ed : D.ws[i].del = true → ps ++ upN a b (D.ws.take (i + 1)) = done := fun hd => by rw [hdone hd, hdn]
     have fin : ∀ (H3 : List HObj) (v3 : DV) (l3 : List Pr) (b' : Str), b' = b → Fr [] H H3 → OutQ H H3 v3 l3 → ps ++ upN a b (D.ws.take (i + 1)) = l3 → ∃ m', m' < D.ws.length - i ∧ MUp H D a b ps m' (mk 59 [(0, .ptr D.d 0), (2, .str a), (3, .str b'), (9, v3), (17, .hsl D.wi 3 0 D.ws.length D.cap), (18, .int .i64 D.ws.length), (19, .int .i64 ((i + 1 : Nat) : Int))] [] H3 []) := fun H3 v3 l3 b' eb f3 o3 e3 => ⟨D.ws.length - (i + 1), by omega, i + 1, v3, H3, by omega, rfl, f3, by rw [e3]; exact o3, by rw [eb]⟩
     have f4 : ∀ L, Fr [] H (H2 ++ L) := fun L => (f2.trans (Fr.app [] _ _)).mono (by simp)
     have hlt : cap ≠ 0 → id < H2.length := fun hc => by
      obtain ⟨sp, k1, _⟩ := hr.2 hc
      exact (List.getElem?_eq_some_iff.1 k1).1
     by_cases hb : b = []
     all_goals
      first
       | (have hB := hb; clear hb; have hb : b = [] := hB)
       | (have hB : Op.bytesLess D.ws[i].key b = true := by simpa [inAB, hA, hb] using hin)
      simp only [hb, BB0, BB1, BB4, Bool.false_eq_true, Nat.reduceLT, Nat.reduceBEq, BB3, e1, decide_true, dropLk, cd_t, ixh33, e2, Int.toNat_natCast, Nat.zero_add, c1, x1, la32, List.length_cons, Nat.reduceLeDiff, List.take_succ_cons, List.take_zero, List.map_cons, List.map_nil, al32, isU_eq, beq_self_eq_true, Bool.or_true, bgen_eq, if_true, takK, BB5, Proofs.Tryz.underlying32, Option.isSome_some, List.length_nil, Nat.reduceAdd, cn32, List.all_cons, List.all_nil, Bool.and_self, List.nil_append, List.drop_succ_cons, List.drop_nil, List.append_nil, Pos.inHp, List.filter_nil, fp32_0, Nat.add_zero, List.drop_zero, la9, movK, hA, gs2_ff, constDV, ne_eq, not_true_eq_false, decide_false, gs2_ft, BB2, if_false, cd_f, List.mem_singleton, DV.plain, forall_eq, Nat.reduceEqDiff, true_and, not_false_eq_true, gs2_tt, hB, Bool.not_true]
      refine ⟨id, cap, done, _, fun q => decide (q.key = D.ws[i].key), rfl, hr.fr (Fr.app [] _ _) (by simp), by omega, rfl, fun q K' hK' => ⟨H2.length, q, D.ws[i], rfl, g2 _, hK'⟩, hnone, ?_⟩
      cases hd : D.ws[i].del
     all_goals
      by_cases hc : cap = 0
     all_goals
      first
       | (
         subst hc
         have hdl : done = [] := List.eq_nil_of_length_eq_zero (by have := hr.1; omega)
         simp only [BB1, BB5, Pos.isHp, List.filter_nil, dropLk, BB0, Nat.reduceLT, takK, BB3, Nat.reduceBEq, fp32_1, Nat.zero_add, g2, List.drop_succ_cons, List.drop_zero, la4, BB4, Bool.not_false, cd_t, movK, fp32_0, Nat.add_zero, la9, fp32_2, bd96, bd96_0, BB6, List.length_cons, List.length_nil, Nat.reduceAdd, Nat.reduceLeDiff, List.all_cons, List.all_nil, Bool.and_self, List.take_zero, List.nil_append, List.cons_append, bd96_1, List.take_succ_cons, List.drop_nil, List.append_nil, bs64_1, isU_eq, beq_self_eq_true, Bool.or_false, List.map_cons, List.map_nil, List.flatMap_cons, List.flatMap_nil, List.append_assoc, aph64_64, Bool.false_eq_true, constDV, wi, if_false, ne_eq, srcC_h Go.Proofs.Tryz.underlying64, List.getElem?_cons_succ, List.getElem?_cons_zero, Nat.reduceMul, reduceCtorEq, false_implies, not_false_eq_true, true_implies, true_and, not_true_eq_false, and_true, if_true, Bool.not_true, cd_f])
       | (
         obtain ⟨sp, k1, hsp⟩ := hr.2 hc
         have k2 : ∀ L, (H2 ++ L)[id]? = some (.cells (flatP done ++ sp)) := fun L => by rw [List.getElem?_append_left (hlt hc)]; exact k1
         have t3 : List.take (done.length * 2) (flatP done ++ sp) = flatP done := List.take_left' (flatP_len _)
         have l1 : done.length * 2 ≤ (flatP done ++ sp).length := by rw [List.length_append, flatP_len]; omega
         have hdr : List.drop (done.length * 2 + 2) (flatP done ++ sp) = sp.drop 2 := by
          rw [List.drop_append, List.drop_eq_nil_of_le (by rw [flatP_len]; omega), flatP_len, List.nil_append]
          congr 1; omega
         simp only [BB1, BB5, Pos.isHp, List.filter_nil, dropLk, BB0, Nat.reduceLT, takK, BB3, Nat.reduceBEq, fp32_1, Nat.zero_add, g2, List.drop_succ_cons, List.drop_zero, la4, BB4, Bool.not_false, cd_t, movK, fp32_0, Nat.add_zero, la9, fp32_2, bd96, bd96_0, BB6, List.length_cons, List.length_nil, Nat.reduceAdd, Nat.reduceLeDiff, List.all_cons, List.all_nil, Bool.and_self, List.take_zero, List.nil_append, List.cons_append, bd96_1, List.take_succ_cons, List.drop_nil, List.append_nil, bs64_1, isU_eq, beq_self_eq_true, Bool.or_false, List.map_cons, List.map_nil, List.flatMap_cons, List.flatMap_nil, List.append_assoc, aph64_64, hc, Bool.false_eq_true, constDV, wi, if_false, ne_eq, srcC_h Go.Proofs.Tryz.underlying64, List.getElem?_cons_succ, List.getElem?_cons_zero, Nat.reduceMul, reduceCtorEq, false_implies, not_false_eq_true, true_implies, true_and, k2, l1, t3, flatP_sca, Pos.inHp, flatP_ro, hdr, if_true, Bool.not_true, cd_f])
      first
       | exact fin _ _ done _ (by first | rfl | exact hb.symm) (f4 _) ⟨id, _, rfl, hr.fr (Fr.app [] _ _) (by simp), hid⟩ (ed hd)
       | (
         intro q hq
         exact fin _ _ (done ++ [⟨D.ws[i].key, D.ws[i].val⟩]) _ (by first | rfl | exact hb.symm) (f4 _) ⟨H2.length + 2, q, by rw [hdl]; rfl, ⟨by rw [hdl]; simpa using hq, fun _ => ⟨List.replicate ((q - 1) * 2) .undef, by rw [hdl]; simp [flatP, Pr.cells], by rw [hdl]; simp⟩⟩, fun _ => by omega⟩ (em hd))
       | (
         have hfl := flatP_len done
         have hidl := hlt hc
         have hid2 := hid hc
         refine ⟨by omega, by omega, fun hroom => ⟨by rw [List.length_append, hfl, hsp]; omega, ?_⟩, fun hgr q hq => ?_⟩
         ·refine fin _ _ (done ++ [⟨D.ws[i].key, D.ws[i].val⟩]) _ (by first | rfl | exact hb.symm) (((f4 _).trans (Fr.set _ id _)).mono fun j hj hm => by simp at hm; omega) ⟨id, cap, by simp, ⟨by simpa using hroom, fun _ => ⟨sp.drop 2, ?_, by rw [List.length_drop, hsp]; simp; omega⟩⟩, fun _ => hid2⟩ (em hd)
          rw [List.getElem?_set_self (by simp; omega), flatP_app]
          simp [flatP, Pr.cells]
         ·exact fin _ _ (done ++ [⟨D.ws[i].key, D.ws[i].val⟩]) _ (by first | rfl | exact hb.symm) (f4 _) ⟨H2.length + 2, q, by simp, ⟨by simpa using hq, fun _ => ⟨List.replicate ((q - (done.length + 1)) * 2) .undef, by simp [flatP, Pr.cells], by simp⟩⟩, fun _ => by omega⟩ (em hd))
    ·simp only [BB0, BB1, BB4, Bool.false_eq_true, Nat.reduceLT, Nat.reduceBEq, BB3, e1, decide_true, dropLk, cd_t, ixh33, e2, Int.toNat_natCast, Nat.zero_add, c1, x1, la32, List.length_cons, Nat.reduceLeDiff, List.take_succ_cons, List.take_zero, List.map_cons, List.map_nil, al32, isU_eq, beq_self_eq_true, Bool.or_true, bgen_eq, if_true, takK, BB5, Proofs.Tryz.underlying32, Option.isSome_some, List.length_nil, Nat.reduceAdd, cn32, List.all_cons, List.all_nil, Bool.and_self, List.nil_append, List.drop_succ_cons, List.drop_nil, List.append_nil, Pos.inHp, List.filter_nil, fp32_0, Nat.add_zero, List.drop_zero, la9, movK, hA, gs2_ff, constDV, ne_eq, hb, not_false_eq_true, gs2_tt, hB, Bool.not_false, if_false, wi, reduceCtorEq, Nat.reduceEqDiff, lkGet, rho_fn, Bool.and_true, true_and]
     refine ⟨_, ?_, skip (by simp [inAB, hA, hb, hB])⟩
     omega
   ·simp only [BB0, BB1, BB4, Bool.false_eq_true, Nat.reduceLT, Nat.reduceBEq, BB3, e1, decide_true, dropLk, cd_t, ixh33, e2, Int.toNat_natCast, Nat.zero_add, c1, x1, la32, List.length_cons, Nat.reduceLeDiff, List.take_succ_cons, List.take_zero, List.map_cons, List.map_nil, al32, isU_eq, beq_self_eq_true, Bool.or_true, bgen_eq, if_true, takK, BB5, Proofs.Tryz.underlying32, Option.isSome_some, List.length_nil, Nat.reduceAdd, cn32, List.all_cons, List.all_nil, Bool.and_self, List.nil_append, List.drop_succ_cons, List.drop_nil, List.append_nil, Pos.inHp, List.filter_nil, fp32_0, Nat.add_zero, List.drop_zero, la9, movK, hA, gs2_tf, constDV, BB2, wi, if_false, reduceCtorEq, Nat.reduceEqDiff, lkGet, rho_fn, Bool.and_true, true_and]
    refine ⟨_, ?_, skip (by simp [inAB, hA])⟩
    omega
  ·obtain rfl : i = D.ws.length := by omega
   have e1 : ¬ (D.ws.length : Int) < D.ws.length := by omega
   rw [List.take_length] at o2
   obtain ⟨id, cap, rfl, hr, hid⟩ := o2
   simp only [BB0, BB1, BB4, Bool.false_eq_true, Nat.reduceLT, Nat.reduceBEq, BB3, e1, decide_false, dropLk, cd_f, movK, rho_fn, BB5, Nat.reduceEqDiff, if_true, if_false, List.all_cons, List.all_nil, Bool.and_self, List.map_cons, List.map_nil, true_and]
   have hlen : (ps ++ upN a b D.ws).length < 200000 := by
    have := List.length_filterMap_le (fun w => if inAB a b w.key && !w.del then some (⟨w.key, w.val⟩ : Pr) else none) D.ws
    rw [List.length_append]
    unfold upN
    omega
   generalize hdn : ps ++ upN a b D.ws = done at *
   have hrl := hr.1
   have hm : ∀ l' : List Pr, l'.Perm done → (l'.take 64).length = min done.length 64 := fun l' hp => by rw [List.length_take, hp.length_eq, Nat.min_comm]
   have w64 : min (done.length : Int) 64 = ((min done.length 64 : Nat) : Int) := by omega
   have w0 : (0 : Int) ≤ ((min done.length 64 : Nat) : Int) := by omega
   have wc : ((min done.length 64 : Nat) : Int) ≤ (cap : Int) := by omega
   by_cases hd : done = []
   ·subst hd
    refine .inr ⟨id, cap, [], [], rfl, fun h => absurd rfl h, by simp, fun _ => ?_, fun h => absurd rfl h⟩
    simp only [List.length_nil, BB1, BB5, Pos.isHp, List.filter_nil, dropLk, BB0, Nat.reduceLT, movK, Nat.reduceBEq, BB3, dlh64, BB4, constDV, Int.reduceLT, if_false, Option.map_none, Option.map_some, sch64, dbound, Int.reduceLE, Nat.zero_mul, Nat.add_zero, Int.reduceToNat, Nat.sub_zero, takK, BB6, true_and]
    exact ⟨Int.natCast_nonneg _, hK H2 _ [] f2 (.refl _) ⟨id, cap, rfl, hr, hid⟩⟩
   ·have hpos : 0 < done.length := List.length_pos_iff.2 hd
    have hc : cap ≠ 0 := by omega
    obtain ⟨sp, ho, hsp⟩ := hr.2 hc
    refine .inr ⟨id, cap, done, sp, rfl, fun _ => ho, by omega, fun h => absurd h hd, fun _ l' hp => ?_⟩
    simp only [BB1, BB5, Pos.isHp, List.filter_nil, dropLk, BB0, Nat.reduceLT, movK, Nat.reduceBEq, BB3, dlh64, constDV, BB4, Option.map_none, Option.map_some, sch64, dbound, Nat.zero_mul, Nat.add_zero, takK, BB6, true_and]
    have wm : (if (64 : Int) < done.length then (64 : Int) else done.length) = ((min done.length 64 : Nat) : Int) := by split <;> omega
    rw [wm, Int.toNat_natCast, Nat.sub_zero, Nat.sub_zero]
    have hidl := (List.getElem?_eq_some_iff.1 ho).1
    have hid2 := hid hc
    refine ⟨w0, wc, hK _ _ l' ((f2.trans (Fr.set _ id _)).mono fun j hj hm => by simp at hm; omega) hp ⟨id, cap, by rw [hm l' hp], ⟨by rw [hm l' hp]; omega, fun _ => ⟨flatP (l'.drop 64) ++ sp, ?_, ?_⟩⟩, fun _ => hid2⟩⟩
    ·rw [List.getElem?_set_self hidl, ← List.append_assoc, ← flatP_app, List.take_append_drop]
    ·rw [List.length_append, flatP_len, hsp, hm l' hp, List.length_drop, hp.length_eq]
     omega
end Go.Ab.En
namespace Go.Ab.En
open Go Go.Conc Go.RowKit Go.Ab
set_option maxRecDepth 10000
theorem gE_mem (n : Int) : ∀ (f : Nat) (es : List Ent) (e : Ent), e ∈ (gE f es).filterMap (visG n) → e ∈ es
 | 0, _, e, h => by simp [gE] at h
 | _ + 1, [], e, h => by simp [gE] at h
 | f + 1, x :: r, e, h => by
  obtain ⟨g, hg, hv⟩ := List.mem_filterMap.1 h
  have hsub : ∀ y ∈ g, y ∈ x :: r ∨ y ∈ g := fun y hy => .inr hy
  rcases List.mem_cons.1 hg with rfl | hg
  ·unfold visG at hv
   split at hv
   ·rename_i y hy
    split at hv
    ·cases hv
    ·obtain rfl := Option.some.inj hv
     exact (List.takeWhile_prefix _).subset (List.mem_of_getElem? hy)
   ·cases hv
  ·exact (List.dropWhile_suffix _).subset (gE_mem n f _ e (List.mem_filterMap.2 ⟨g, hg, hv⟩))
theorem scan_key {es : List Ent} (hs : Sorted es) {a b : Str} (ha : a ≠ []) {n : Int} {p : Pr} (h : p ∈ scanE es a b n) : p.key ≠ [] := by
 unfold scanE at h
 obtain ⟨e, he, rfl⟩ := List.mem_map.1 h
 have h1 := gE_mem n _ _ _ (List.mem_of_mem_take he)
 have h2 := (List.takeWhile_prefix _).subset h1
 obtain ⟨i, hi, rfl⟩ := List.getElem_of_mem h2
 rw [List.getElem_drop]
 intro hk
 have h3 := firstE_ge hs (k := a) (n := 1000000) (j := firstE es a 1000000 + i) (Nat.le_add_right _ _) (by rw [List.length_drop] at hi; omega)
 rw [Bool.eq_false_iff, ne_eq, ltE_iff, not_or] at h3
 refine h3.1 ?_
 simp only at hk
 rw [hk]
 cases a with
 | nil => exact absurd rfl ha
 | cons x r => simp [cmpS, Lib.compareBytes]
def cutP (p : Pr) : Pr := ⟨p.key.drop 1, p.val⟩
def scdE (es : List Ent) (c : Int) (a b : Str) (n : Int) : List Pr := (scanE es (lowE c a) (highE c b) n).map cutP
noncomputable def b90 : Code := (Go.Proofs.Tryz.f90.body).getD .skip
theorem hb90 : Go.Proofs.Tryz.f90.body = some b90 := by kernel_rfl
def SScd : Spec := fun H args K => ∃ (D : DealS) (E : EngS) (m : Nat) (c : Int) (a b : Str), args = [.ptr D.d 0, .int .u8 c, .str a, .str b] ∧ D.At H ∧ D.over = false ∧ E.x = D.x ∧ E.At H ∧ E.Good m ∧ m < 300 ∧ 0 ≤ c ∧ c < 256 ∧ a.length < 4000000000000000000 ∧ b.length < 4000000000000000000 ∧
 ∀ H', Fr [] H H' → K H' (.tup [.sl true 2 ((scdE E.es c a b (min D.n m)).map prD), .int .i64 0])
def MSd2 (H : List HObj) (l : List Pr) (k : Nat) (st : St) : Prop := ∃ (i : Nat) (B : List (Nat × Nat × List DV)), i ≤ l.length ∧ k = l.length - i ∧ (B = [] ∨ ∃ g c, B = [(16, g, c)]) ∧
 st = mk 54 [(14, .sl true 2 (((l.take i).map cutP).map prD)), (37, .sl false 2 (l.map prD)), (38, .int .i64 l.length), (39, .int .i64 i)] B H []
set_option maxHeartbeats 4000000 in
theorem rcScd {I : Jd pp} (hI : ∀ w e, I.Ok w e) (hS : RC I 58 SSnScan) : RC I 90 SScd := by
 refine rc_of_code (isObj := noO) (Γ := envOf [(154, SEnds), (58, SSnScan)]) (rs := [8, 9]) mixed hI (envOf_rc (by simpa using ⟨rcEnds hI, hS⟩)) Go.Proofs.Tryz.func90 (by kernel_rfl) hb90 Go.Proofs.Tryz.results90 Go.Proofs.Tryz.ntmps90 (by decide) ?_
 rintro H args K ⟨D, E, m, c, a, b, rfl, h1, ho, hx, h2, hg, hm, c0, c1, la, lb, hK⟩
 have t0 := h1.top
 have sn := h1.snap
 rw [ho] at sn
 refine ⟨by simp, rfl, ?_⟩
 unfold b90 Go.Proofs.Tryz.f90
 simp only [Option.getD_some, argSlots, BB2, Nat.zero_add, BB1, Nat.reduceAdd, BB0, constDV, Proofs.Tryz.underlying64, cn96, dropLk, Nat.reduceLT, movK, Nat.reduceBEq, BB3, BB4, BB5, Nat.reduceEqDiff, if_false, if_true, List.all_cons, List.all_nil, Bool.and_self, List.map_cons, List.map_nil, true_and]
 refine appEnds c0 c1 la lb ?_
 simp only [BB1, BB5, Pos.isHp, List.filter_nil, dropLk, BB0, Nat.reduceLT, movK, BB3, BB2, List.map_cons, List.map_nil, extK, Nat.reduceBEq, takK, dnil, fp143_1, Nat.zero_add, t0, List.drop_succ_cons, List.drop_zero, la34, BB4, Nat.reduceEqDiff, if_true, if_false, List.all_cons, List.all_nil, Bool.and_self, true_and]
 refine appSnScanX hx sn h2 hg hm fun H1 f1 => ?_
 simp only [BB1, BB5, Pos.isHp, List.filter_nil, dropLk, BB0, Nat.reduceLT, movK, BB3, BB2, List.map_cons, List.map_nil, extK, Nat.reduceEqDiff, Nat.zero_add, if_false, Nat.reduceBEq, Pos.atSlot, Bool.or_self, Bool.false_eq_true, takK, lkGet, if_true, BB6, pt1, reduceCtorEq, BB4, constDV, ne_eq, not_true_eq_false, decide_false, cd_f, Proofs.Tryz.underlying64, cn96, dl64, List.length_map]
 have hkey : ∀ p ∈ scanE E.es (lowE c a) (highE c b) (min D.n m), p.key ≠ [] := fun p hp => scan_key h2.sorted (by simp [lowE, keyS]) hp
 have hll := scanE_len E.es (lowE c a) (highE c b) (min D.n m)
 have hfin := hK H1 f1
 unfold scdE at hfin
 generalize scanE E.es (lowE c a) (highE c b) (min D.n m) = l at *
 refine w_loop [14, 37, 38, 39] (MSd2 H1 l) l.length ?_ ?_
 ·exact ⟨0, [], by omega, by omega, .inl rfl, by simp only [BB1, List.map_cons, Nat.reduceBEq, BB3, List.map_nil, List.take_zero, BB4]; try rfl⟩
 ·rintro k st ⟨i, B, hi, rfl, hB, rfl⟩
  obtain ⟨g, hb1, hb2⟩ := box1 hB
  by_cases e : i < l.length
  ·have e1 : (i : Int) < l.length := by omega
   have e2 : (0 : Int) ≤ i := by omega
   have wi : IntKind.i64.wrap ((i : Int) + 1) = ((i + 1 : Nat) : Int) := by rw [wrap_i64 (by omega) (by omega)]; omega
   have hx2 := prD_get e
   have hk := hkey _ (List.getElem_mem e)
   have hk1 : 1 ≤ (l[i]).key.length := List.length_pos_iff.2 hk
   have hk2 : (1 : Int) ≤ ((l[i]).key.length : Int) := by omega
   simp only [BB0, BB1, BB4, Bool.false_eq_true, Nat.reduceLT, Nat.reduceBEq, BB3, e1, decide_true, dropLk, cd_t, ix64, e2, List.length_map, Int.toNat_natCast, hx2, la96, List.length_cons, List.length_nil, Nat.zero_add, Nat.reduceAdd, Nat.reduceLeDiff, List.take_succ_cons, List.take_zero, List.map_cons, List.map_nil, al96, isO_eq, hb1, hb2, if_false, takK, if_true, Proofs.Tryz.underlying96, Option.isSome_some, cn96, List.all_cons, List.all_nil, Bool.and_self, List.nil_append, List.drop_succ_cons, List.drop_nil, List.append_nil, Pos.inBox, List.filter_nil, true_and]
   refine w_draw [0, 3, 6, 7, 8, 9] (.quiet 1 (.quiet 2 (.quiet 4 (.quiet 5 (.acts [(0, [5, 4, 2, 1], .acts [(3, [5, 4], .acts [(6, [], .acts [(7, [], .acts [(8, [], .acts [(9, [], .done)])])])])]), (3, [5, 4], .acts [(0, [5, 4, 2, 1], .acts [(6, [], .acts [(7, [], .acts [(8, [], .acts [(9, [], .done)])])])]), (6, [], .acts [(0, [5, 4, 2, 1], .acts [(7, [], .acts [(8, [], .acts [(9, [], .done)])])]), (7, [], .acts [(0, [5, 4, 2, 1], .acts [(8, [], .acts [(9, [], .done)])])])])])]))))) (by decide) (by kernel_rfl) ?_
   simp only [BB0, BB5, BB1, Nat.reduceLT, Nat.reduceBEq, BB3, fl96_0, Nat.add_zero, dropLk, if_true, List.drop_zero, la9, true_and, fl96_1, Nat.zero_add, List.drop_succ_cons, movK, Nat.reduceEqDiff, if_false, and_true, dropLks, Pos.atSlot, Bool.or_self, Bool.false_eq_true, Option.map_some, constDV, Option.map_none, sc9, dbound, Int.reduceLE, hk2, Int.reduceToNat, bd96, bd96_0, takK, BB6, List.length_cons, List.length_nil, Nat.reduceAdd, Nat.reduceLeDiff, List.all_cons, List.all_nil, Bool.and_self, BB4, List.take_zero, List.nil_append, List.cons_append, bd96_1, List.take_succ_cons, List.drop_nil, List.append_nil, bs64_1, isO_eq, List.map_cons, List.map_nil, beq_self_eq_true, apo64_64, lkGet, ap64_64, List.length_map, Bool.or_true, wi]
   have htk : ((l.take i).map cutP).map prD ++ [.agg [.str (List.drop 1 (List.take (List.length l[i].key) l[i].key)), .str l[i].val]] = ((l.take (i + 1)).map cutP).map prD := by
    rw [List.take_succ_eq_append_getElem e, List.map_append, List.map_append, List.take_length]; rfl
   have hit : (l.take i).length = i := by rw [List.length_take]; omega
   rw [htk, hit]
   repeat' with_reducible apply And.intro
   all_goals
    first
     | omega
     | (refine ⟨_, ?_, i + 1, _, by omega, rfl, .inr ⟨_, _, rfl⟩, rfl⟩; omega)
  ·obtain rfl : i = l.length := by omega
   have e1 : ¬ (l.length : Int) < l.length := by omega
   simp only [List.take_length, BB0, BB1, BB4, Bool.false_eq_true, Nat.reduceLT, Nat.reduceBEq, BB3, e1, decide_false, dropLk, cd_f, movK, Nat.reduceEqDiff, if_false, takK, lkGet, if_true, BB6, Pos.atSlot, Bool.or_self, constDV, and_true, true_and]
   exact hfin
noncomputable def b35 : Code := (Go.Proofs.Tryz.f35.body).getD .skip
theorem hb35 : Go.Proofs.Tryz.f35.body = some b35 := by kernel_rfl
def SDScan : Spec := fun H args K => ∃ (D : DealS) (E : EngS) (m : Nat) (c : Int) (a b : Str), args = [.ptr D.d 0, .int .u8 c, .str a, .str b] ∧ c = D.home ∧ D.At H ∧ D.over = false ∧ E.x = D.x ∧ E.At H ∧ E.Good m ∧ m < 300 ∧ 0 ≤ c ∧ c < 256 ∧ a.length < 4000000000000000000 ∧ b.length < 4000000000000000000 ∧ D.ws.length < 100000 ∧ D.reads.length < 100000 ∧ (D.ws.map (·.key)).Nodup ∧ (∀ p ∈ scdE E.es c a b (min D.n m), ∀ w ∈ D.ws, p.key ≠ w.key) ∧
 ∀ H' v (l' : List Pr), Fr [D.d] H H' → DealS.At { D with reads := D.reads ++ [⟨c, true, a, b, scdE E.es c a b (min D.n m)⟩] } H' → l'.Perm (scdE E.es c a b (min D.n m) ++ upN a b D.ws) → OutQ H H' v (l'.take 64) → K H' (.tup [v, .int .i64 0])
set_option maxHeartbeats 4000000 in
theorem rcDScan (hS : RC (loneJ pp) 58 SSnScan) : RC (loneJ pp) 35 SDScan := by
 have hI := hI1
 refine rc_of_code (isObj := noO) (Γ := envOf [(90, SScd), (91, SUpN)]) (rs := [8, 9]) mixed hI (envOf_rc (by simpa using ⟨rcScd hI hS, rcUpN⟩)) Go.Proofs.Tryz.func35 (by kernel_rfl) hb35 Go.Proofs.Tryz.results35 Go.Proofs.Tryz.ntmps35 (by decide) ?_
 rintro H args K ⟨D, E, m, c, a, b, rfl, hc, h1, ho, hx, h2, hg, hm, c0, c1, la, lb, hwl, hrl, hnd, hap, hK⟩
 subst hc
 have t0 := h1.top
 rw [ho] at t0
 refine ⟨by simp, rfl, ?_⟩
 unfold b35 Go.Proofs.Tryz.f35
 simp only [Option.getD_some, argSlots, BB2, Nat.zero_add, BB1, Nat.reduceAdd, BB0, constDV, Proofs.Tryz.underlying64, cn96, dropLk, Nat.reduceLT, movK, Nat.reduceBEq, BB3, dnil, fp143_5, t0, List.drop_succ_cons, List.drop_zero, la4, cd_f, BB4, BB5, Nat.reduceEqDiff, if_false, if_true, List.all_cons, List.all_nil, Bool.and_self, List.map_cons, List.map_nil, true_and]
 refine ⟨D, E, m, D.home, a, b, rfl, h1, ho, hx, h2, hg, hm, c0, c1, la, lb, fun H1 f1 => ?_⟩
 have d1 := h1.fr f1 (by simp)
 have t1 := d1.top
 rw [ho] at t1
 have w2 : IntKind.i64.wrap D.home = D.home := wrap_i64 (by omega) (by omega)
 obtain ⟨sc, hsc⟩ : ∃ sc, scdE E.es D.home a b (min D.n m) = sc := ⟨_, rfl⟩
 rw [hsc] at hK hap
 have lt1 := (List.getElem?_eq_some_iff.1 t1).1
 have g1 : ∀ X, (H1.set D.d X)[D.d]? = some X := fun X => List.getElem?_set_self lt1
 simp only [hsc, BB1, BB5, Pos.isHp, List.filter_nil, dropLk, BB0, Nat.reduceLT, movK, BB3, BB2, List.map_cons, List.map_nil, extK, Nat.reduceEqDiff, Nat.zero_add, if_false, Nat.reduceBEq, Pos.atSlot, Bool.or_self, Bool.false_eq_true, takK, lkGet, if_true, BB6, pt1, reduceCtorEq, BB4, constDV, ne_eq, not_true_eq_false, decide_false, cd_f, dnil, fp143_3, t1, List.drop_succ_cons, List.drop_zero, la67, addrPos, ia67, cv5_3, w2, bd148, isO_eq, BB7, bd148_0, List.length_cons, List.length_nil, Nat.reduceAdd, Nat.reduceLeDiff, List.all_cons, List.all_nil, Bool.and_self, List.take_zero, List.nil_append, List.cons_append, bd148_1, List.take_succ_cons, bd148_2, bd148_3, bd148_4, List.drop_nil, List.append_nil, bs67_1, beq_self_eq_true, apo67_67, List.getElem?_cons_succ, List.getElem?_cons_zero, List.getD_cons_succ, List.getD_cons_zero, List.set_cons_succ, List.set_cons_zero, ap67_67, g1, Proofs.Tryz.underlying67, Option.isSome_some, cn67, List.set_set, Pos.inHp, List.filter_cons, Bool.not_true, fp143_2, la5, decide_true, cd_t, true_and]
 have hup : DealS.At { D with reads := D.reads ++ [⟨D.home, true, a, b, sc⟩] } (H1.set D.d (.cells [.ptr D.x 0, .ptr D.s 0, .int .u8 D.home, .sl true 5 (D.reads.map rdD ++ [.agg [.int .i64 D.home, .bool true, .str a, .str b, .sl false 2 (sc.map prD)]]), .hsl D.wi 3 0 D.ws.length D.cap, .bool false])) :=
  h1.readUp f1 (D.reads ++ [⟨D.home, true, a, b, sc⟩]) _ (by rw [ho, List.map_append]; rfl)
 have hsl : sc.length < 100000 := by
  rw [← hsc]
  unfold scdE scanE
  rw [List.length_map, List.length_map, List.length_take]; omega
 refine ⟨by rw [List.length_map]; omega, by rw [List.length_map]; omega, ?_⟩
 refine ⟨{ D with reads := D.reads ++ [⟨D.home, true, a, b, sc⟩] }, false, sc, a, b, rfl, hup, hwl, hsl, hnd, hap, fun H2 v l' f2 hp o2 => ?_⟩
 have hle : H.length ≤ (H1.set D.d (HObj.cells [.ptr D.x 0, .ptr D.s 0, .int .u8 D.home, .sl true 5 (D.reads.map rdD ++ [.agg [.int .i64 D.home, .bool true, .str a, .str b, .sl false 2 (sc.map prD)]]), .hsl D.wi 3 0 D.ws.length D.cap, .bool false])).length := by
  rw [List.length_set]; exact f1.1
 obtain ⟨id, cap, rfl, q2, q3⟩ := o2
 simp only [BB1, BB5, Pos.isHp, List.filter_nil, dropLk, BB0, Nat.reduceLT, takK, BB3, constDV, BB6, Nat.reduceBEq, and_true, true_and]
 exact hK H2 _ l' (((f1.trans (Fr.set _ D.d _)).trans f2).mono (by simp)) (hup.fr f2 (by simp)) hp ⟨id, cap, rfl, q2, fun h => Nat.le_trans hle (q3 h)⟩
theorem L_dscan : RC (loneJ pp) 35 SDScan := rcDScan L_sscan
section
variable {H : List HObj} {K : List HObj → DV → Prop} {E : EngS} {x m : Nat} {es : List Ent} {hd : Hd} {D : DealS}
theorem appScanX {a b : Str} {p : Nat} (hpd : D.d = p) (h : E.Is x m es hd H) (hD : D.On E H) (hm : m < 300) (ho : D.over = false) (hh : D.home = 97) (la : a.length < 4000000000000000000) (lb : b.length < 4000000000000000000) (hw : D.ws.length < 100000) (hr : D.reads.length < 100000) (hnd : (D.ws.map (·.key)).Nodup) (hap : ∀ p ∈ scdE es 97 a b (min D.n m), ∀ w ∈ D.ws, p.key ≠ w.key)
  (hK : ∀ H' id cap (l' : List Pr) (D' : DealS), Fr [D.d] H H' → E.Is x m es hd H' → D'.On E H' → D' = { D with reads := D.reads ++ [⟨97, true, a, b, scdE es 97 a b (min D.n m)⟩] } → l'.Perm (scdE es 97 a b (min D.n m) ++ upN a b D.ws) → K H' (.tup [.hsl id 2 0 (l'.take 64).length cap, .int .i64 0])) : app SDScan H [.ptr p 0, .int .u8 97, .str a, .str b] K := by
 subst hpd
 refine ⟨D, E, m, 97, a, b, rfl, hh.symm, hD.at', ho, hD.hx, h.at', h.good, hm, by omega, by omega, la, lb, hw, hr, hnd, by rw [h.es']; exact hap, fun H' v l' f a' hp o => ?_⟩
 rw [h.es'] at a' hp
 obtain ⟨id, cap, rfl, _⟩ := o
 exact hK H' id cap l' _ f (h.fr f (fun y hy => by rw [List.mem_singleton.1 hy]; exact hD.ap _ (by simp [DealS.all]))) ⟨a', hD.hx, fun y hy => hD.ap y hy⟩ rfl hp
end
theorem upN_all (ws : List Wr) : (upN [] [] ws).length = (ws.filter fun w => !w.del).length := by
 unfold upN
 induction ws with
 | nil => rfl
 | cons w r ih =>
  have h : inAB [] [] w.key = true := by simp [inAB, bytesLess_cmp]; cases w.key <;> simp [cmpS, Lib.compareBytes]
  rw [List.filterMap_cons, List.filter_cons, h]
  cases hd : w.del
  ·simpa using ih
  ·simpa using ih
end Go.Ab.En
namespace Go.Ab.En
open Go Go.Conc Go.RowKit Go.Ab
set_option maxRecDepth 10000
theorem capO {A R : Prop} (h : A) (g : A → R) : R := g h
theorem pneqO {i o : Nat} {K : DV → Prop} : dbin pp .neq 23 (.ptr i o) .nilp K = K (.bool true) := by simp [dbin, Go.Proofs.Tryz.underlying23]
theorem kOf_of {a : Int} (h0 : 0 ≤ a) (_h1 : a < 256) : bytesOf [DV.int .u8 (IntKind.u8.wrap (97 + a.tmod 8))] = some (kOf (a % 8).toNat) := by
 have h2 : a.tmod 8 = a % 8 := Int.tmod_eq_emod_of_nonneg h0
 rw [h2, wrap_u8 (by omega) (by omega)]
 have h3 : (97 + a % 8).toNat = 97 + (a % 8).toNat := by omega
 simp [bytesOf, kOf, h3]
theorem getD_mapO {α β : Type} (f : α → β) (l : List α) (d : β) (i : Nat) (h : i < l.length) : (l.map f).getD i d = f l[i] := by simp [List.getD, h]
def tD (t : Nat → Bool) : List DV := (List.range 8).map fun j => .bool (t j)
theorem tD_set (t : Nat → Bool) (b : Bool) {i : Nat} (h : i < 8) : (tD t).set i (.bool b) = tD fun j => if j = i then b else t j := by
 refine List.ext_getElem? fun j => ?_
 rw [List.getElem?_set]
 unfold tD
 by_cases hj : j < 8
 ·by_cases e : i = j
  ·subst e; simp [h]
  ·simp [e, hj, Ne.symm e]
 ·have h1 : i ≠ j := by omega
  simp [h1, hj]
theorem tD_put (t : Nat → Bool) (b : Bool) {i : Nat} (h : i < 8) : List.take (i * 1) (tD t) ++ .bool b :: List.drop (i * 1 + 1) (tD t) = tD fun j => if j = i then b else t j := by
 rw [← tD_set t b h, List.set_eq_take_append_cons_drop, if_pos (by simp [tD]; omega), Nat.mul_one]
theorem tD_drop (t : Nat → Bool) {i : Nat} (h : i < 8) : ∃ r, List.drop (i * 1) (tD t) = .bool (t i) :: r := by
 have hl : i < (tD t).length := by simp [tD]; omega
 refine ⟨(tD t).drop (i + 1), ?_⟩
 rw [Nat.mul_one, List.drop_eq_getElem_cons hl]
 congr 1
 simp [tD]
theorem tD_len (t : Nat → Bool) : (tD t).length = 8 := by simp [tD]
def cnt (t : Nat → Bool) (i : Nat) : Nat := ((List.range i).filter t).length
theorem cnt_succ (t : Nat → Bool) (i : Nat) : cnt t (i + 1) = cnt t i + if t i then 1 else 0 := by
 unfold cnt
 rw [List.range_succ, List.filter_append, List.length_append]
 cases h : t i <;> simp [h]
theorem cnt_le (t : Nat → Bool) (i : Nat) : cnt t i ≤ i := by
 unfold cnt
 have := List.length_filter_le t (List.range i)
 simpa using this
noncomputable def b28 : Code := (Go.Proofs.Tryz.f28.body).getD .skip
theorem hb28 : Go.Proofs.Tryz.f28.body = some b28 := by kernel_rfl
def SOpn : Spec := fun H args K => args = [] ∧ ∀ H' (E : EngS), Fr [] H H' → E.Is E.x 0 [] [] H' → K H' (.ptr E.x 0)
theorem rcOpn : RC (loneJ pp) 28 SOpn := by
 have hI := hI1
 refine rc_of_code (isObj := noO) (Γ := envOf [(17, S17), (16, SMade)]) (rs := [0]) mixed hI (envOf_rc (by simpa using ⟨L_new, L_open⟩)) Go.Proofs.Tryz.func28 (by kernel_rfl) hb28 Go.Proofs.Tryz.results28 Go.Proofs.Tryz.ntmps28 (by decide) ?_
 rintro H args K ⟨rfl, hK⟩
 refine ⟨by simp, rfl, ?_⟩
 unfold b28 Go.Proofs.Tryz.f28
 simp only [Option.getD_some, argSlots, BB0, BB1, constDV, dropLk, BB4, BB5, Nat.reduceEqDiff, if_false, if_true, List.all_cons, List.all_nil, Bool.and_self, List.map_cons, List.map_nil, true_and]
 refine capp17 fun H1 f1 l1 s1 => ?_
 simp only [BB1, BB5, Pos.isHp, List.filter_nil, dropLk, BB0, BB4, Nat.reduceLT, BB3, Nat.reduceEqDiff, if_true, if_false, List.all_cons, BB2, List.all_nil, Bool.and_self, List.map_cons, List.map_nil, true_and]
 refine appMadeX s1 (by decide) fun H2 E f2 a2 g2 es2 hd2 => ?_
 simp only [BB1, BB5, Pos.isHp, List.filter_nil, dropLk, BB0, Nat.reduceLT, movK, BB3, BB2, List.map_cons, List.map_nil, extK, Nat.reduceBEq, takK, BB4, Bool.false_eq_true, constDV, ne_eq, not_true_eq_false, decide_false, cd_f, BB6, true_and, if_false]
 exact hK H2 E ((f1.trans f2).mono fun j hj hm => by simp at hm; omega) ⟨rfl, a2, g2, es2, hd2⟩
theorem scd_nil (c : Int) (a b : Str) (n : Int) : scdE [] c a b n = [] := by
 unfold scdE
 rw [scan_filter (by exact List.Pairwise.nil) (by simp)]
 rfl
theorem ready_same (es : List Ent) (n : Int) (rs : List Rd) : readyC false es n n rs = 0 := by
 have h : ∀ r, movedE es n n r = false := fun r => by unfold movedE; simp
 have h2 : rs.any (movedE es n n) = false := List.any_eq_false.2 fun r _ => by rw [h r]; simp
 unfold readyC
 rw [h2]; rfl
theorem Own.all {D : DealS} {r : Rd} : DealS.all { D with reads := D.reads ++ [r] } = D.all := rfl
theorem appComO {H : List HObj} {K : List HObj → DV → Prop} {E : EngS} {x m : Nat} {es : List Ent} {hd : Hd} {D : DealS} {p : Nat} (hpd : D.d = p) (h : E.Is x m es hd H) (hD : D.On E H) (hm : m < 299) (c0 : 0 ≤ cntI hd D.n) (c1 : cntI hd D.n < 1000000000) (hrd : ∀ r ∈ D.reads, RdOk r) (hrl : D.reads.length < 100000) (hwl : D.ws.length < 100000) (hkl : ∀ w ∈ D.ws, w.key.length < 4000000000000000000) (hb : isBatch (neatW (homeW D.home D.ws)) = true) (hr : readyC D.over es D.n m D.reads = 0)
  (hK : ∀ H' (E' : EngS) (D' : DealS) m' es' hd' (r1 : Int), Fr (E.all ++ [D.s, D.d]) H H' → E'.Is x m' es' hd' H' → D'.On E' H' → (∀ y ∈ E'.all, y ∈ E.all ∨ H.length ≤ y) → m' = (if D.ws.isEmpty then m else m + 1) → es' = (if D.ws.isEmpty then es else (entsB ((m + 1 : Nat) : Int) (neatW (homeW D.home D.ws))).foldl putE es) → hd' = (if D.over then hd else freeH hd D.n) →
   K H' (.tup [.int .i64 r1, .int .i64 0])) : app SCommit H [.ptr p 0] K := by
 have hc : comD D es m = !D.ws.isEmpty := by unfold comD; rw [hr]; rfl
 refine appComX hpd h hD hm c0 c1 hrd hrl hwl hkl hb fun H' E' D' m' es' hd' f i on _ al hm' hes' hhd' => ?_
 have hr2 : (if comD D es m then (0 : Int) else readyC D.over es D.n m D.reads) = 0 := by rw [hr]; split <;> rfl
 rw [hr2]
 refine hK H' E' D' m' es' hd' _ f i on al ?_ ?_ hhd'
 ·rw [hm', hc]; cases D.ws.isEmpty <;> rfl
 ·rw [hes', hc]; cases D.ws.isEmpty <;> rfl
def hdO : Hd := holdH (holdH [] ((0 : Nat) : Int)) ((0 : Nat) : Int)
structure Own (E : EngS) (x p q : Nat) (hd : Hd) (D O : DealS) (H : List HObj) : Prop where
 is : E.Is x 0 [] hd H
 d : D.On E H
 o : O.On E H
 ap : ∀ y ∈ D.all, y ∉ O.all
 dp : D.d = p
 dv : D.over = false
 dn : D.n = 0
 dh : D.home = 97
 op : O.d = q
 ov : O.over = false
 on : O.n = 0
 oh : O.home = 97
 or : O.reads = []
 ow : O.ws = []
theorem Own.step {E : EngS} {x p q : Nat} {hd : Hd} {D D' O : DealS} {H H' : List HObj} (h : Own E x p q hd D O H) {S : List Nat} (f : Fr S H H') (hS : ∀ y ∈ S, y ∈ D.all) (i : E.Is x 0 [] hd H') (on : D'.On E H') (d : D'.d = D.d) (n : D'.n = D.n) (m : D'.home = D.home) (o : D'.over = D.over) (l : ∀ y ∈ D'.all, y ∈ D.all ∨ H.length ≤ y) : Own E x p q hd D' O H' :=
 ⟨i, on, h.o.fr f fun y hy hm => h.ap y (hS y hm) hy, fun y hy hm => by
  rcases l y hy with h1 | h1
  ·exact h.ap y h1 hm
  ·have := h.o.at'.lt y hm; omega, by rw [d, h.dp], by rw [o, h.dv], by rw [n, h.dn], by rw [m, h.dh], h.op, h.ov, h.on, h.oh, h.or, h.ow⟩
def MO1 (E : EngS) (x p q : Nat) (hd : Hd) (O : DealS) (ks : List Int) (ask : Int) (k : Nat) (st : St) : Prop := ∃ (i : Nat) (H' : List HObj) (D : DealS) (t : Nat → Bool), i ≤ ks.length ∧ k = ks.length - i ∧ Own E x p q hd D O H' ∧ D.reads = [] ∧ OwnI D.ws t ∧ D.ws.length ≤ i ∧
 st = mk 178 [(0, .sl false 1 (ks.map (.int .u8))), (1, .int .u8 ask), (5, .ptr x 0), (6, .ptr p 0), (7, .ptr q 0), (8, .lptr 8 0 0), (9, .int .i64 i)] [(8, 0, tD t)] H' []
def MO2 (H' : List HObj) (x p q : Nat) (t : Nat → Bool) (ask : Int) (k : Nat) (st : St) : Prop := ∃ (i : Nat), i ≤ 8 ∧ k = 8 - i ∧
 st = mk 178 [(1, .int .u8 ask), (5, .ptr x 0), (6, .ptr p 0), (7, .ptr q 0), (8, .lptr 8 0 0), (11, .int .i64 (cnt t i)), (12, .int .i64 i)] [(8, 0, tD t)] H' []
noncomputable def b8 : Code := (Go.Proofs.Tryz.f8.body).getD .skip
theorem hb8 : Go.Proofs.Tryz.f8.body = some b8 := by kernel_rfl
set_option maxHeartbeats 8000000 in
theorem law8 {N0 : Nat} {w0 : World} {d : Nat} {G : Gh} {w : World} {vs : Array Value} (ks : List Int) (ask : Int) (hks : ∀ k ∈ ks, 0 ≤ k ∧ k < 256) (ha : 0 ≤ ask) (ha2 : ask < 256) (hW : WRel N0 w0 G w []) (hF : Fits G w [.sl false 1 (ks.map (.int .u8)), .int .u8 ask] vs) :
  Calls pp 8 vs w fun e w' => ∃ v, e = .returned v ∧ Back N0 w0 d G w (fun _ dv => dv = .bool true) v w' := by
 refine calls_of_code (isObj := noO) (Γ := envOf [(27, SKn), (28, SOpn), (29, SDOpen), (35, SDScan), (30, SPut), (31, SDel), (34, SDGet), (37, SCommit)]) (rs := [4]) mixed (envOf_rc (by simpa using ⟨rcKn17, rcOpn, L_dopen, L_dscan, L_put, L_del, L_dget, L_commit⟩)) Go.Proofs.Tryz.func8 hb8 Go.Proofs.Tryz.results8 Go.Proofs.Tryz.ntmps8 (by decide) (args := [.sl false 1 (ks.map (.int .u8)), .int .u8 ask]) (by simp) rfl ?_ hW hF
 unfold b8 Go.Proofs.Tryz.f8
 simp only [List.append_eq, List.cons_append, List.nil_append, Option.getD_some, argSlots, BB1, Nat.zero_add, BB0, constDV, dropLk, BB4, BB5, Nat.reduceEqDiff, if_false, if_true, List.all_nil, List.map_nil, true_and]
 refine ⟨rfl, fun H0 => ?_⟩
 simp only [BB1, BB5, Pos.isHp, List.filter_nil, dropLk, BB0, Nat.reduceLT, BB3, BB4, Bool.not_true, cd_f, Nat.reduceEqDiff, if_false, if_true, List.all_nil, List.map_nil, true_and]
 refine ⟨rfl, fun H1 E1 f1 i1 => ?_⟩
 obtain ⟨x, hx⟩ : ∃ x, E1.x = x := ⟨_, rfl⟩
 rw [hx] at i1
 by_cases hlen : (8 : Int) < ks.length
 ·simp only [hx, BB1, BB5, Pos.isHp, List.filter_nil, dropLk, BB0, Nat.reduceLT, takK, BB3, BB2, movK, BB4, Bool.false_eq_true, constDV, p_eql Go.Proofs.Tryz.underlying23, gs2_ff, Nat.reduceBEq, lkGet, dl36, List.length_map, hlen, decide_true, if_false, cd_t, pneqO, BB6, and_self]
 simp only [hx, BB1, BB5, Pos.isHp, List.filter_nil, dropLk, BB0, Nat.reduceLT, takK, BB3, BB2, movK, BB4, Bool.false_eq_true, constDV, p_eql Go.Proofs.Tryz.underlying23, gs2_ff, Nat.reduceBEq, lkGet, dl36, List.length_map, hlen, decide_false, if_false, cd_f, Nat.reduceEqDiff, if_true, List.all_cons, List.all_nil, Bool.and_self, List.map_cons, List.map_nil, true_and]
 have hl8 : ks.length ≤ 8 := by omega
 refine appDOpenX i1 (by decide) (by decide) fun H2 E2 D f2 i2 al2 D2 nD mD rD wD oD lD => ?_
 obtain ⟨p, hp⟩ : ∃ p, D.d = p := ⟨_, rfl⟩
 simp only [hp, BB1, BB5, Pos.isHp, List.filter_nil, dropLk, BB0, Nat.reduceLT, movK, Nat.reduceBEq, BB3, BB2, BB4, constDV, Nat.reduceEqDiff, if_false, if_true, List.all_cons, List.all_nil, Bool.and_self, List.map_cons, List.map_nil, true_and]
 refine appDOpenX i2 (by decide +kernel) (by decide +kernel) fun H3 E3 O f3 i3 al3 O3 nO mO rO wO oO lO => ?_
 obtain ⟨q, hq⟩ : ∃ q, O.d = q := ⟨_, rfl⟩
 have D3 : D.On E3 H3 := D2.move f3 D2.ap (by rw [i3.hx, i2.hx]) fun y hy => .inl (by rw [← al3]; exact hy)
 have hDO : ∀ y ∈ D.all, y ∉ O.all := fun y hy hm => by
  have h1 := D2.at'.lt y hy
  have h2 := lO y hm
  omega
 have own3 : Own E3 x p q hdO D O H3 := ⟨i3, D3, O3, hDO, hp, oD, nD, mD, hq, oO, nO, mO, rO, wO⟩
 simp only [hq, BB1, BB5, Pos.isHp, List.filter_nil, dropLk, BB0, Nat.reduceLT, takK, Nat.reduceBEq, BB3, BB2, al81, BB4, isO_eq, Bool.false_eq_true, bgen_eq, if_false, constDV]
 refine w_loop [0, 1, 5, 6, 7, 8, 9] (MO1 E3 x p q hdO O ks ask) ks.length ?_ ?_
 ·exact ⟨0, H3, D, fun _ => false, by omega, by omega, own3, rD, by rw [wD]; exact OwnI.nil, by rw [wD]; exact Nat.le_refl _, by simp only [BB1, List.map_cons, Nat.reduceBEq, BB3, List.map_nil, BB4]; try rfl⟩
 rintro k st ⟨i, H4, D4, t, hi, rfl, own4, r4, I4, l4, rfl⟩
 by_cases e : i < ks.length
 ·have e1 : (i : Int) < ks.length := by omega
  have e2 : (0 : Int) ≤ i := by omega
  have wi : IntKind.i64.wrap ((i : Int) + 1) = ((i + 1 : Nat) : Int) := by rw [wrap_i64 (by omega) (by omega)]; omega
  have hx2 : (ks.map (DV.int .u8)).getD i .undef = .int .u8 ks[i] := getD_mapO _ _ _ i e
  have hb := hks _ (List.getElem_mem e)
  generalize ks[i] = k at hx2 hb
  obtain ⟨j, hj⟩ : ∃ j, (k % 8).toNat = j := ⟨_, rfl⟩
  have hj8 : j < 8 := by omega
  have t8 : k.tmod 8 = (j : Int) := by rw [Int.tmod_eq_emod_of_nonneg hb.1]; omega
  have hk := kOf_of hb.1 hb.2
  rw [hj] at hk
  by_cases h16 : (8 : Int) ≤ k.tmod 16
  ·simp only [BB0, BB1, Nat.reduceLT, movK, Nat.reduceBEq, BB3, dropLk, lkGet, dl36, List.length_map, BB4, Bool.false_eq_true, e1, decide_true, cd_t, ix36, e2, Int.toNat_natCast, hx2, la5, constDV, ne_eq, Int.reduceEq, not_false_eq_true, bs36_1, isO_eq, List.all_cons, List.length_cons, List.length_nil, Nat.zero_add, beq_self_eq_true, List.all_nil, Bool.and_self, cv36_9, takK, h16, ixl81, if_true, Proofs.Tryz.underlying4, Option.isSome_some, cn4, List.append_assoc, List.cons_append, List.nil_append, Pos.inBox, List.filter_nil, BB2, BB5, Nat.reduceEqDiff, if_false, List.map_cons, List.map_nil, true_and]
   refine ⟨_, hk, ?_⟩
   simp only [t8, Int.toNat_natCast]
   refine ⟨by omega, by omega, by rw [tD_len]; omega, ?_⟩
   refine appDelX own4.dp own4.is own4.d (by omega) I4.ok.nodup fun H5 D5 f5 i5 D5on d5 s5 n5 m5 r5 o5 w5 l5 => ?_
   simp only [BB1, t8, Int.toNat_natCast, tD_put t false hj8, BB5, Pos.isHp, List.filter_nil, dropLk, BB0, Nat.reduceLT, movK, Nat.reduceBEq, BB3, BB4, Bool.false_eq_true, constDV, wi, takK, List.map_cons, List.map_nil, if_false]
   refine ⟨ks.length - (i + 1), by omega, i + 1, H5, D5, _, by omega, rfl, own4.step f5 (fun y hy => DealS.sub hy) i5 D5on d5 n5 m5 o5 l5, by rw [r5, r4], ?_, ?_, rfl⟩
   ·rw [w5, own4.dv]; exact I4.step (by omega) hj8 true
   ·rw [w5, own4.dv]
    exact Nat.le_trans (write_mem I4.ok.nodup (ownC (by omega) j true)).2.2 (by omega)
  ·simp only [BB0, BB1, Nat.reduceLT, movK, Nat.reduceBEq, BB3, dropLk, lkGet, dl36, List.length_map, BB4, Bool.false_eq_true, e1, decide_true, cd_t, ix36, e2, Int.toNat_natCast, hx2, la5, constDV, ne_eq, Int.reduceEq, not_false_eq_true, bs36_1, isO_eq, List.all_cons, List.length_cons, List.length_nil, Nat.zero_add, beq_self_eq_true, List.all_nil, Bool.and_self, cv36_9, takK, h16, decide_false, cd_f, ixl81, if_true, Proofs.Tryz.underlying4, Option.isSome_some, cn4, List.append_assoc, List.cons_append, List.nil_append, Pos.inBox, List.filter_nil, BB2, BB5, Nat.reduceEqDiff, if_false, List.map_cons, List.map_nil, true_and]
   refine ⟨_, hk, ?_⟩
   simp only [t8, Int.toNat_natCast]
   refine ⟨by omega, by omega, by rw [tD_len]; omega, ?_⟩
   refine appPutX own4.dp own4.is own4.d (by omega) I4.ok.nodup (by decide) fun H5 D5 f5 i5 D5on d5 s5 n5 m5 r5 o5 w5 l5 => ?_
   simp only [BB1, t8, Int.toNat_natCast, tD_put t true hj8, BB5, Pos.isHp, List.filter_nil, dropLk, BB0, Nat.reduceLT, movK, Nat.reduceBEq, BB3, BB4, Bool.false_eq_true, constDV, wi, takK, List.map_cons, List.map_nil, if_false]
   refine ⟨ks.length - (i + 1), by omega, i + 1, H5, D5, _, by omega, rfl, own4.step f5 (fun y hy => DealS.sub hy) i5 D5on d5 n5 m5 o5 l5, by rw [r5, r4], ?_, ?_, rfl⟩
   ·rw [w5, own4.dv]; exact I4.step (by omega) hj8 false
   ·rw [w5, own4.dv]
    exact Nat.le_trans (write_mem I4.ok.nodup (ownC (by omega) j false)).2.2 (by omega)
 ·obtain rfl : i = ks.length := by omega
  have e1 : ¬ (ks.length : Int) < ks.length := by omega
  simp only [BB0, BB1, Nat.reduceLT, movK, Nat.reduceBEq, BB3, dropLk, lkGet, dl36, List.length_map, BB4, Bool.false_eq_true, e1, decide_false, cd_f, constDV, if_true, if_false]
  refine w_loop [1, 5, 6, 7, 8, 11, 12] (MO2 H4 x p q t ask) 8 ?_ ?_
  ·exact ⟨0, by omega, by omega, by simp only [BB1, List.map_cons, Nat.reduceBEq, BB3, List.map_nil, BB4]; try rfl⟩
  rintro k st ⟨i, hi, rfl, rfl⟩
  have wi : IntKind.i64.wrap ((i : Int) + 1) = ((i + 1 : Nat) : Int) := by rw [wrap_i64 (by omega) (by omega)]; omega
  have hcl := cnt_le t i
  have wn : IntKind.i64.wrap ((cnt t i : Int) + 1) = ((cnt t i + 1 : Nat) : Int) := by rw [wrap_i64 (by omega) (by omega)]; omega
  by_cases e8 : i < 8
  ·have e1 : (i : Int) < 8 := by omega
   have e2 : (0 : Int) ≤ i := by omega
   obtain ⟨r, hg⟩ := tD_drop t e8
   have hs := cnt_succ t i
   cases hti : t i
   all_goals
    rw [hti] at hg hs
    simp only [BB0, BB1, Nat.reduceLT, movK, Nat.reduceBEq, BB3, dropLk, BB4, Bool.false_eq_true, constDV, e1, decide_true, cd_t, ixl81, e2, Int.toNat_natCast, Nat.zero_add, if_true, hg, la4, cd_f, wi, takK, List.map_cons, List.map_nil, if_false, true_and, wn]
    refine ⟨by omega, 8 - (i + 1), by omega, i + 1, by omega, rfl, ?_⟩
    rw [hs]; rfl
  ·obtain rfl : i = 8 := by omega
   have e1 : ¬ (((8 : Nat) : Int) < 8) := by omega
   simp only [Nat.reduceSub, BB0, BB1, Nat.reduceLT, movK, Nat.reduceBEq, BB3, dropLk, BB4, Bool.false_eq_true, constDV, e1, decide_false, cd_f, BB2, ne_eq, Int.reduceEq, not_false_eq_true, bs36_1, isO_eq, List.all_cons, List.length_cons, List.length_nil, Nat.zero_add, beq_self_eq_true, List.all_nil, Bool.and_self, cv36_9, BB5, Nat.reduceEqDiff, if_false, if_true, List.map_cons, List.map_nil, true_and]
   obtain ⟨ja, hja⟩ : ∃ j, (ask % 8).toNat = j := ⟨_, rfl⟩
   have hja8 : ja < 8 := by omega
   have hka := kOf_of ha ha2
   rw [hja] at hka
   refine ⟨_, hka, ?_⟩
   have lk4 : D4.ws.length < 100000 := by omega
   have sk : keyedB (kOf ja) = true := rfl
   refine' capO (A := ∀ (H5 : List HObj) (D5 : DealS) (l : List (Nat × DV)), Own E3 x p q hdO D5 O H5 → D5.ws = D4.ws → (D5.reads = [] ∨ ∃ r, D5.reads = [r] ∧ RdOk r ∧ movedE [] 0 0 r = false) → (look 1 l = .int .u8 ask ∧ look 5 l = .ptr x 0 ∧ look 6 l = .ptr p 0 ∧ look 7 l = .ptr q 0 ∧ look 8 l = .lptr 8 0 0 ∧ look 11 l = .int .i64 (cnt t 8) ∧ look 14 l = .bool (t ja) ∧ look 15 l = .int .i64 0) → dwp pp noO _ _ _ (mk 178 l [(8, 0, tD t)] H5 [])) ?h23 ?g23
   case g23 =>
    intro key
    rcases I4.get hja8 with ⟨j, w, hp1, hw1, ht1⟩ | ⟨hp1, ht1⟩
    ·refine appDGetO own4.dp own4.is own4.d (by decide) own4.dv (by decide) (by decide) sk (by simp [kOf]) lk4 (by rw [r4]; simp) own4.dh.symm hp1 hw1 fun H5 f5 => ?_
     rw [← ht1]
     simp only [BZ1, BZ2, Pos.isHp, List.filter_nil, mk_put?_some, dropLk, Nat.reduceLT, movK, BZ3, List.map_cons, List.map_nil, extK, Nat.reduceBEq, takK]
     with_reducible refine key H5 D4 _ (own4.step f5 (fun y hy => by simp at hy) (own4.is.fr f5 (by simp)) (own4.d.fr f5 (by simp)) rfl rfl rfl rfl fun y hy => .inl hy) rfl (.inl r4) ?_
     exact ⟨rfl, rfl, rfl, rfl, rfl, rfl, rfl, rfl⟩
    ·refine appDGetX own4.dp own4.is own4.d (by decide) own4.dv (by decide) (by decide) sk (by simp [kOf]) lk4 (by rw [r4]; simp) (fun _ => hp1) fun H5 v D5 f5 i5 D5on e5 hv => ?_
     have hse : (seenE [] (keyS 97 (kOf ja)) (min D4.n ((0 : Nat) : Int))).isSome = false := rfl
     rw [hse] at e5 ⊢
     have q5 : Own E3 x p q hdO D5 O H5 := own4.step f5 (fun y hy => by rw [List.mem_singleton.1 hy]; simp [DealS.all]) i5 D5on (by rw [e5]) (by rw [e5]) (by rw [e5]) (by rw [e5]) fun y hy => .inl (by rw [e5, Own.all] at hy; exact hy)
     have q6 : D5.reads = [getR 97 (kOf ja) v false] := by rw [e5]; show D4.reads ++ _ = _; rw [r4]; rfl
     have q7 : RdOk (getR 97 (kOf ja) v false) := ⟨by show (0 : Int) ≤ 97; decide, by show (97 : Int) < 256; decide, by simp [getR, kOf], by simp [getR], by simp [getR, pairsL]⟩
     have q8 : D5.ws = D4.ws := by rw [e5]
     simp only [BZ1, BZ2, Pos.isHp, List.filter_nil, mk_put?_some, dropLk, Nat.reduceLT, movK, BZ3, List.map_cons, List.map_nil, extK, Nat.reduceBEq, takK]
     with_reducible refine key H5 D5 _ q5 q8 (.inr ⟨_, q6, q7, rfl⟩) ?_
     exact ⟨rfl, rfl, rfl, rfl, rfl, rfl, by rw [ht1]; rfl, rfl⟩
   clear own4 r4
   rintro H5 D5 l own5 ws5 rd5 ⟨k1, k5, k6, k7, k8, k11, k14, k15⟩
   rw [w_seq]
   simp only [BB0, BB1, Nat.reduceLT, movK, k6, BB2, dropLk, BB4, BB3, constDV, BB5, Nat.reduceEqDiff, if_false, if_true, List.all_cons, List.all_nil, Bool.and_self, List.map_cons, List.map_nil, true_and]
   have hn5 : (D5.ws.map (·.key)).Nodup := by rw [ws5]; exact I4.ok.nodup
   have hrl5 : D5.reads.length ≤ 1 := by
    rcases rd5 with h | ⟨r, h, _⟩ <;> rw [h] <;> simp
   have hc8 := cnt_le t 8
   have hcw : (D4.ws.filter fun w => !w.del).length = cnt t 8 := I4.count.symm
   refine appScanX own5.dp own5.is own5.d (by decide) own5.dv own5.dh (by decide) (by decide) (by rw [ws5]; exact lk4) (by omega) hn5 (by rw [scd_nil]; simp) fun H6 id6 cap6 l6 D6 f6 i6 D6on e6 hp6 => ?_
   have c6 : (l6.take 64).length = cnt t 8 := by
    rw [List.length_take, hp6.length_eq, scd_nil, List.nil_append, upN_all, ws5, hcw]; omega
   rw [c6]
   have O6 := own5.o.fr f6 fun y hy hm => own5.ap D5.d (by simp [DealS.all]) (by rw [List.mem_singleton.1 hm] at hy; exact hy)
   simp only [BB1, BB5, Pos.isHp, List.filter_nil, dropLk, BB0, Nat.reduceLT, movK, BB3, BB2, List.map_cons, List.map_nil, extK, Nat.reduceBEq, takK, k7, BB4, constDV, Nat.reduceEqDiff, if_false, if_true, List.all_cons, List.all_nil, Bool.and_self, true_and]
   refine appScanX own5.op i6 O6 (by decide) own5.ov own5.oh (by decide) (by decide) (by rw [own5.ow]; decide) (by rw [own5.or]; decide) (by rw [own5.ow]; exact List.nodup_nil) (by rw [scd_nil]; simp) fun H7 id7 cap7 l7 O7 f7 i7 O7on e7 hp7 => ?_
   have c7 : (l7.take 64).length = 0 := by
    rw [List.length_take, hp7.length_eq, scd_nil, List.nil_append, own5.ow]; rfl
   rw [c7]
   have D7 := D6on.fr f7 fun y hy hm => own5.ap y (by rw [e6, Own.all] at hy; exact hy) (by rw [List.mem_singleton.1 hm]; simp [DealS.all])
   have p6 : D6.d = p := by rw [e6]; exact own5.dp
   have v6 : D6.over = false := by rw [e6]; exact own5.dv
   have n6 : D6.n = 0 := by rw [e6]; exact own5.dn
   have h6 : D6.home = 97 := by rw [e6]; exact own5.dh
   have w6 : D6.ws = D4.ws := by rw [e6]; exact ws5
   have r6 : D6.reads = D5.reads ++ [⟨97, true, [], [], scdE [] 97 [] [] (min D5.n ((0 : Nat) : Int))⟩] := by rw [e6]
   have a6 : D6.all = D5.all := by rw [e6, Own.all]
   have rok : ∀ r ∈ D6.reads, RdOk r := fun r hr => by
    rw [r6] at hr
    rcases List.mem_append.1 hr with hr | hr
    ·rcases rd5 with h | ⟨r', h, ok, _⟩
     ·rw [h] at hr; cases hr
     ·rw [h] at hr; rw [List.mem_singleton.1 hr]; exact ok
    ·rw [List.mem_singleton.1 hr, scd_nil]; exact ⟨by show (0 : Int) ≤ 97; decide, by show (97 : Int) < 256; decide, by simp, by simp, by simp⟩
   simp only [BB1, BB5, Pos.isHp, List.filter_nil, dropLk, BB0, Nat.reduceLT, movK, BB3, BB2, List.map_cons, List.map_nil, extK, Nat.reduceBEq, takK, k6, BB4, Nat.reduceEqDiff, if_true, if_false, List.all_cons, List.all_nil, Bool.and_self, true_and]
   refine appComO p6 i7 D7 (by decide) (by rw [n6]; decide +kernel) (by rw [n6]; decide +kernel) rok (by rw [r6]; simp; omega) (by rw [w6]; exact lk4) (fun w hw => by rw [w6] at hw; have := (I4.ok.ok w hw).2.1; omega) (by rw [w6, h6]; exact I4.ok.batch 97) (by rw [v6, n6]; exact ready_same _ _ _) fun H8 E8 D8 m8 es8 hd8 r1 f8 i8 D8on al8 hm8 hes8 hhd8 => ?_
   rw [w6] at hm8 hes8
   rw [h6] at hes8
   rw [v6, n6] at hhd8
   have ap7 : ∀ y ∈ O7.all, y ∉ E3.all ++ [D6.s, D6.d] := fun y hy hm => by
    rcases List.mem_append.1 hm with h | h
    ·exact O7on.ap y hy h
    ·refine own5.ap y ?_ (by rw [e7, Own.all] at hy; exact hy)
     rw [← a6]
     rcases List.mem_cons.1 h with rfl | h
     ·simp [DealS.all]
     ·rw [List.mem_singleton.1 h]; simp [DealS.all]
   have O8 : O7.On E8 H8 := O7on.move f8 ap7 (by rw [i8.hx, i7.hx]) al8
   have sq8 : ∀ e ∈ es8, e.seq = 1 := fun e he => by
    rw [hes8] at he
    split at he
    ·cases he
    ·have := (fold_perm (entsB ((0 + 1 : Nat) : Int) (neatW (homeW 97 D4.ws))) []).mem_iff.1 he
     rw [List.append_nil] at this
     unfold entsB at this
     obtain ⟨w, _, rfl⟩ := List.mem_map.1 this
     rfl
   have so8 : Sorted es8 := by rw [← i8.es']; exact i8.at'.sorted
   have m8le : m8 ≤ 1 := by rw [hm8]; split <;> omega
   have sc8 : scdE es8 97 [] [] (min O7.n m8) = [] := by
    have e0 : min O7.n (m8 : Int) = 0 := by rw [e7]; show min O.n _ = 0; rw [own5.on]; omega
    rw [e0]
    unfold scdE
    rw [viz_none (fun e he => by rw [sq8 e he]; decide) so8 (fun e he => by rw [sq8 e he]; decide)]
    rfl
   simp only [BB1, BB5, Pos.isHp, List.filter_nil, dropLk, BB0, Nat.reduceLT, movK, BB3, BB2, List.map_cons, List.map_nil, extK, Nat.reduceBEq, takK, k7, BB4, constDV, Nat.reduceEqDiff, if_false, if_true, List.all_cons, List.all_nil, Bool.and_self, true_and]
   refine appScanX (by rw [e7]; exact own5.op) i8 O8 (by omega) (by rw [e7]; exact own5.ov) (by rw [e7]; exact own5.oh) (by decide) (by decide) (by rw [e7]; show O.ws.length < _; rw [own5.ow]; decide) (by rw [e7]; simp [own5.or]) (by rw [e7]; show (O.ws.map _).Nodup; rw [own5.ow]; exact List.nodup_nil) (by rw [sc8]; simp) fun H9 id9 cap9 l9 O9 f9 i9 O9on e9 hp9 => ?_
   have c9 : (l9.take 64).length = 0 := by
    rw [List.length_take, hp9.length_eq, sc8, List.nil_append, e7]
    show min 64 (upN [] [] O.ws).length = 0
    rw [own5.ow]; rfl
   rw [c9]
   simp only [BB1, BB5, Pos.isHp, List.filter_nil, dropLk, BB0, Nat.reduceLT, movK, BB3, BB2, List.map_cons, List.map_nil, extK, Nat.reduceBEq, takK, k5, BB4, constDV, Nat.reduceEqDiff, if_false, if_true, List.all_cons, List.all_nil, Bool.and_self, true_and]
   have hcn : cntI hd8 m8 = 0 ∨ cntI hd8 m8 = 1 := by
    rw [hhd8, hm8]
    by_cases hw0 : D4.ws.isEmpty = true
    ·rw [if_pos hw0]; right; decide +kernel
    ·rw [if_neg hw0]; left; decide +kernel
   refine appDOpenX i9 (by rcases hcn with h | h <;> rw [h] <;> decide) (by rcases hcn with h | h <;> rw [h] <;> decide) fun H10 E10 T f10 i10 al10 T10 nT mT rT wT oT lT => ?_
   obtain ⟨tp, htp⟩ : ∃ tp, T.d = tp := ⟨_, rfl⟩
   have sc10 : (scdE es8 97 [] [] (min T.n m8)).length = cnt t 8 := by
    have e0 : min T.n (m8 : Int) = m8 := by rw [nT]; exact Int.min_self _
    rw [e0, ← hcw]
    by_cases hw0 : D4.ws.isEmpty
    ·rw [if_pos hw0] at hes8
     rw [hes8, scd_nil, List.isEmpty_iff.1 hw0]; rfl
    ·rw [if_neg hw0] at hes8 hm8
     rw [hm8]
     unfold scdE
     rw [List.length_map]
     exact scan_home I4.ok so8 hes8
   simp only [htp, BB1, BB5, Pos.isHp, List.filter_nil, dropLk, BB0, BB4, Nat.reduceLT, BB3, constDV, Nat.reduceEqDiff, if_false, if_true, List.all_cons, BB2, List.all_nil, Bool.and_self, List.map_cons, List.map_nil, true_and]
   refine appScanX htp i10 T10 (by omega) oT mT (by decide) (by decide) (by rw [wT]; decide) (by rw [rT]; decide) (by rw [wT]; exact List.nodup_nil) (by rw [wT]; simp) fun H11 id11 cap11 l11 T11 f11 i11 T11on e11 hp11 => ?_
   have c11 : (l11.take 64).length = cnt t 8 := by
    rw [List.length_take, hp11.length_eq, List.length_append, sc10, wT]
    show min 64 (cnt t 8 + (upN [] [] []).length) = _
    show min 64 (cnt t 8 + 0) = _
    omega
   rw [c11]
   obtain ⟨r, hg⟩ := tD_drop t hja8
   have tja : ask.tmod 8 = (ja : Int) := by rw [Int.tmod_eq_emod_of_nonneg ha]; omega
   have j0 : (0 : Int) ≤ ja := by omega
   have j1 : (ja : Int) < ((8 : Nat) : Int) := by omega
   simp only [BB1, BB5, Pos.isHp, List.filter_nil, dropLk, BB0, Nat.reduceLT, movK, BB3, BB2, List.map_cons, List.map_nil, extK, Nat.reduceBEq, takK, k15, BB4, Bool.false_eq_true, constDV, decide_true, gs2_tt, k14, k1, ne_eq, Int.reduceEq, not_false_eq_true, tja, k8, ixl81, j0, j1, Int.toNat_natCast, Nat.zero_add, if_true, hg, la4, t_eql Go.Proofs.Tryz.underlying4, beq_self_eq_true, dlh64, k11, BB6, and_self, if_false]
end Go.Ab.En
