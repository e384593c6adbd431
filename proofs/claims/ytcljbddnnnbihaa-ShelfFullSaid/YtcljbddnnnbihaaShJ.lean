/- A part of the proofs that a law function returns true at every input; it has no condition of its own. -/
import Derived.Test.YtcljbddnnnbihaaShI
set_option linter.unusedSimpArgs false
set_option linter.unusedVariables false
/- ShJ: Names: the contract. -/
namespace Go.Ab.Sh
open Go Go.Conc Go.RowKit Go.Ab Go.Maps
open Go.WideElems (Fit rd rg)
def namesF (fs : Files) : List Str := (fs.map (·.1)).mergeSort leB
/-- Names. -/
def S31 : Spec := fun H args K => ∃ id k n kept now acts room, args = [.ptr id 0] ∧ ShelfAt H id k n kept now acts room ∧ (now.map (·.1)).Nodup ∧ now.length < 100000 ∧ (∀ x ∈ now, x.1.length ≤ maxLen) ∧ K H (.sl false 1 ((namesF now).map .str))
theorem app31 {H : List HObj} {K : List HObj → DV → Prop} {id k n : Nat} {kept now : Files} {acts : List Act} {room : Int} (h1 : ShelfAt H id k n kept now acts room) (h2 : (now.map (·.1)).Nodup) (h3 : now.length < 100000) (h4 : ∀ x ∈ now, x.1.length ≤ maxLen) (h : K H (.sl false 1 ((namesF now).map .str))) : app S31 H [.ptr id 0] K := ⟨id, k, n, kept, now, acts, room, rfl, h1, h2, h3, h4, h⟩
def RN : Value → Option (DataW Unit × List MemPlace) := fun _ => some (.nil, [])
theorem keyOf9 (x : Str) (h : x.length ≤ maxLen) : keyOf Go.Proofs.Try.prog 9 (.string ⟨x.toArray⟩) = some (.string x) := by
  simp [keyOf, mapKey, Go.Proofs.Try.underlying9, ByteArray.size, h]
theorem fit_of {G : Gh} {w : World} {fs : Files} {ms : Array MapEntry} {ck : Nat} (h : MapRel G w (enc fs) ms ck) (hn : (fs.map (·.1)).Nodup) (hl : fs.length < 100000) (hx : ∀ x ∈ fs, x.1.length ≤ maxLen) :
    Fit Go.Proofs.Try.prog 9 RN ms ck ∧ (ms.toList.map (rg Go.Proofs.Try.prog 9 RN)) = fs.map fun x => (.string x.1, .nil) := by
  obtain ⟨k1, k2, k3⟩ := h
  have hsz : fs.length = ms.size := by rw [← k1, enc_length]
  have hkey : ∀ (i : Nat) (hi : i < fs.length), (ms[i]'(by omega)).key = .string ⟨(fs[i]).1.toArray⟩ := by
    intro i hi
    have := (k2 i (.str fs[i].1, .str fs[i].2) (ms[i]'(by omega)) (by simp [enc, hi]) (by simp [show i < ms.size by omega])).1
    exact SV.str (d := 0) this
  have hrd : ∀ (i : Nat) (hi : i < fs.length), rd Go.Proofs.Try.prog 9 RN (ms[i]'(by omega)) = some (.string fs[i].1, .nil) := by
    intro i hi
    unfold rd
    rw [hkey i hi, keyOf9 _ (hx _ (List.getElem_mem hi))]
    rfl
  have hborn : ∀ x ∈ ms.toList, x.born < ck := by
    intro x hx
    obtain ⟨i, hi⟩ := List.mem_iff_getElem?.1 hx
    have hi2 : i < (enc fs).length := by
      have := (List.getElem?_eq_some_iff.1 hi).1
      simp at this
      omega
    exact (k2 i _ x (List.getElem?_eq_getElem hi2) (by simpa using hi)).2.2
  refine ⟨⟨by unfold maxLen; omega, (MapKept.stamped_iff _ _).2 ⟨hborn, nodup_map_of _ _ fun i j a b ha hb h => k3 i j a b (by simpa using ha) (by simpa using hb) h, ?_⟩, ?_⟩, ?_⟩
  · refine List.pairwise_iff_getElem.2 fun i j hi hj hij he => ?_
    simp only [Array.length_toList] at hi hj
    simp only [Array.getElem_toList] at he
    rw [hkey i (by omega), hkey j (by omega)] at he
    have he2 : (fs[i]'(by omega)).1 = (fs[j]'(by omega)).1 := by simpa using he
    have := List.pairwise_iff_getElem.1 hn i j (by simp; omega) (by simp; omega) hij
    simp at this
    exact this he2
  · intro x hx
    obtain ⟨i, hi, rfl⟩ := List.mem_iff_getElem.1 hx
    simp only [Array.length_toList] at hi
    exact ⟨_, by simpa using hrd i (by omega)⟩
  · refine List.ext_getElem (by simp [hsz]) fun i h1 h2 => ?_
    simp only [List.getElem_map, Array.getElem_toList]
    unfold rg
    rw [hrd i (by simpa using h2)]
    rfl
theorem strKeys_of {fs : Files} : (strKeys (DataW.map (H := Unit) ((fs.map fun x => (Lit.string x.1, DataW.nil)).foldr DataW.insert []))).Perm (fs.map (·.1)) := by
  show ((((fs.map fun x => (Lit.string x.1, DataW.nil (H := Unit))).foldr DataW.insert []).map fun p => strOf p.1)).Perm _
  refine ((Go.WideShapes.sorted_perm _).map _).trans ?_
  exact List.Perm.of_eq (by simp [strOf])
theorem rc31 : RC (loneJ pp) 31 S31 := by
  refine rc_of_calls ⟨_, Go.Proofs.Try.func31, by kernel_rfl, by kernel_rfl⟩ fun N0 w0 d G w H args vs K hS hW hF => ?_
  obtain ⟨id, k, n, kept, now, acts, room, rfl, ⟨h1, h2, h3, h4⟩, hn, hl, hx, hK⟩ := hS
  have hsz : vs.size = 1 := hF.1.symm
  obtain ⟨v, rfl⟩ : ∃ v, vs = #[v] := Array.size_eq_one_iff.1 hsz
  obtain ⟨b, hb, rfl⟩ := SV.ptr (d := 0) (hF.2 0 _ _ rfl rfl)
  obtain ⟨b', cs, e, g1, g2, g3, g4, g5⟩ := hW.objs id _ h1
  obtain rfl : b = b' := by rw [hb] at g1; exact Option.some.inj g1
  have hcs : 1 < cs.size := by rw [← g4]; simp [shelfC]
  obtain ⟨bm, hbm, hv⟩ := SV.map (d := 0) (g5 1 (.map n) cs[1] rfl (by simp [hcs])).1
  have hcell : w.cell? ⟨b, 1, none⟩ = some (.map (some bm)) := by
    unfold World.cell?
    rw [g3]
    simp [hcs, hv]
  obtain ⟨bm', ms, ck, q1, q2, q3, q4⟩ := hW.objs n _ h3
  obtain rfl : bm = bm' := by rw [hbm] at q1; exact Option.some.inj q1
  obtain ⟨hfit, hrg⟩ := fit_of q4 hn hl hx
  have hown : w.ownsMap Go.Proofs.Try.prog 9 RN bm ms.size (.map ((ms.toList.map (rg Go.Proofs.Try.prog 9 RN)).foldr DataW.insert [])) := ⟨ms, ck, q3, hfit, Nat.le_refl _, rfl⟩
  rw [hrg] at hown
  have hmsz : Maps.size (DataW.map (H := Unit) ((now.map fun x => (Lit.string x.1, DataW.nil)).foldr DataW.insert [])) = now.length := by
    simp [Maps.size, length_sorted]
  refine (Go.Proofs.calls31 b bm ms.size _ RN w hcell hown (by rw [hmsz]; unfold maxLen; omega) (by rw [hmsz]; omega)).mono fun e w' ⟨v, ss, he, hp, hrow, hbl⟩ => ?_
  subst he
  have hss : ss.mergeSort leB = namesF now := mergeSort_of_perm (hp.trans strKeys_of)
  have hlen : ss.length = (namesF now).length := by rw [← hss, List.length_mergeSort]
  have e1 : (fun x y : List UInt8 => decide (x ≤ y)) = leB := rfl
  rw [e1, hss] at hrow
  obtain ⟨r1, r2⟩ := hrow
  rcases r2 with ⟨rfl, hz⟩ | ⟨g, cap, cur, rfl, hg, hh, hc1, hc2, hc3, hc4⟩
  · have hn2 : Neu G w G w' := ⟨hbl.os, hbl.tape, hbl.output, hbl.size, fun b hb => ⟨hbl.block b hb, rfl⟩, rfl, rfl, fun h b hb => h b (Nat.le_trans hbl.size hb)⟩
    have hnil : namesF now = [] := List.eq_nil_of_length_eq_zero (by omega)
    rw [hnil] at hK
    exact ⟨_, rfl, _, _, _, hK, hn2.ext hW.fresh _, hW.neu hn2, SV.of_vp (.sl0), sown_of_noOwn rfl⟩
  · have hgl : g < w'.heap.size := (Array.getElem?_eq_some_iff.1 hh).1
    have hn2 : Neu G w (G.setRole g .imm) w' := ⟨hbl.os, hbl.tape, hbl.output, hbl.size, fun b hb => ⟨hbl.block b hb, G.setRole_ne _ (by omega)⟩, rfl, rfl, fun h b hb => by rw [G.setRole_ne _ (by omega)]; exact h b (Nat.le_trans hbl.size hb)⟩
    refine ⟨_, rfl, _, _, .sl false 1 ((namesF now).map .str), hK, hn2.ext hW.fresh _, hW.neu hn2, SV.of_vp ?_, sown_of_noOwn rfl⟩
    refine .sl (fun i j => Go.Proofs.encStr ((namesF now).getD i [])) (by simp [hlen]) hc1 hc2 (fun i x hx => ?_) (fun i j x c hx hc => ?_) (fun i j x c hx hc => ?_)
    · obtain ⟨s, _, rfl⟩ := by simpa using hx
      exact ⟨rfl, rfl⟩
    · have hx' := hx
      rw [List.getElem?_map] at hx'
      obtain ⟨s, hs, rfl⟩ := Option.map_eq_some_iff.1 hx'
      have hj : j = 0 := by
        cases j with
        | zero => rfl
        | succ j => simp [DV.cells] at hc
      subst hj
      have hi : i < (namesF now).length := (List.getElem?_eq_some_iff.1 hs).1
      refine ⟨by rw [G.setRole_same]; exact .inl rfl, ?_⟩
      unfold World.cell?
      simp only [hh, Option.isSome_none, Bool.false_eq_true, if_false]
      have h0 : cur.toList[i]? = some (Go.Proofs.encStr s) := by
        have h1 : (cur.toList.take (ss.length * 1))[i]? = ((namesF now).map Go.Proofs.encStr)[i]? := by rw [hc4]
        rw [List.getElem?_take, if_pos (by omega), List.getElem?_map, hs] at h1
        exact h1
      have h2 : (namesF now).getD i [] = s := by simp [List.getD, hs]
      rw [h2]
      simpa using h0
    · rw [List.getElem?_map] at hx
      obtain ⟨s, hs, rfl⟩ := Option.map_eq_some_iff.1 hx
      have hj : j = 0 := by
        cases j with
        | zero => rfl
        | succ j => simp [DV.cells] at hc
      subst hj
      have h2 : (namesF now).getD i [] = s := by simp [List.getD, hs]
      simp only [DV.cells, List.getElem?_cons_zero, Option.some.injEq] at hc
      subst hc
      rw [h2]
      exact .str s
end Go.Ab.Sh
