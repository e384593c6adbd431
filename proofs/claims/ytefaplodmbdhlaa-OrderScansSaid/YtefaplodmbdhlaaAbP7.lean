/- A part of the proofs that a law function returns true at every input; it has no condition of its own. -/
import Derived.Test.YtefaplodmbdhlaaAbP6
set_option linter.unusedSimpArgs false
set_option linter.unusedVariables false
/- AbP7: An append whose row becomes an object. -/
namespace Go.Ab
open Go Go.Conc Go.RowKit

variable {P : Program} {isObj : ObjT} {N0 : Nat} {w0 : World} {d : Nat} {G : Gh} {w : World} {st : St} {a : Act} {K : St → Prop}

theorem flat_idx {sz : Nat} : ∀ (ys : List DV), (∀ x ∈ ys, x.cells.length = sz) → ∀ (m : Nat) (c : DV), (ys.flatMap DV.cells)[m]? = some c → ∃ i j x, ys[i]? = some x ∧ x.cells[j]? = some c ∧ m = i * sz + j
  | [], _, m, c, h => by simp at h
  | y :: r, hl, m, c, h => by
    have hy := hl y (by simp)
    rw [List.flatMap_cons, List.getElem?_append] at h
    split at h
    · exact ⟨0, m, y, rfl, h, by omega⟩
    · rename_i hge
      obtain ⟨i, j, x, h1, h2, h3⟩ := flat_idx r (fun x hx => hl x (by simp [hx])) _ c h
      refine ⟨i + 1, j, x, by simpa using h1, h2, ?_⟩
      rw [Nat.add_mul]
      omega
theorem flat_len' {sz : Nat} : ∀ (ys : List DV), (∀ x ∈ ys, x.cells.length = sz) → (ys.flatMap DV.cells).length = ys.length * sz
  | [], _ => by simp
  | y :: r, hl => by
    rw [List.flatMap_cons, List.length_append, hl y (by simp), flat_len' r fun x hx => hl x (by simp [hx]), List.length_cons, Nat.add_mul]
    omega
/-- The cells of a row's elements, and what lies behind them. -/
theorem rowCells {sz k : Nat} {ys : List DV} {news rest : List Value} (hy : ∀ (i : Nat) (x : DV), ys[i]? = some x → x.cells.length = sz ∧ x.cells.all DV.scalar = true) (hnl : news.length = ys.length * sz) (hk : rest.length = k)
    (hyc : ∀ (i j : Nat) (x c : DV), ys[i]? = some x → x.cells[j]? = some c → ∃ u, news[i * sz + j]? = some u ∧ VP G w c u) :
    ((ys.flatMap DV.cells).map DV.ro1 ++ List.replicate k DV.undef).length = (news ++ rest).toArray.size ∧ ∀ (j : Nat) (c : DV) (v : Value), ((ys.flatMap DV.cells).map DV.ro1 ++ List.replicate k DV.undef)[j]? = some c → (news ++ rest).toArray[j]? = some v → VP G w c v := by
  have hl : ∀ x ∈ ys, x.cells.length = sz := fun x hx => by
    obtain ⟨i, hi⟩ := List.mem_iff_getElem?.1 hx
    exact (hy i x hi).1
  have hfl := flat_len' ys hl
  refine ⟨by simp only [List.length_append, List.length_map, List.length_replicate, List.size_toArray, hfl, hnl, hk], fun j c v hc hv => ?_⟩
  rw [List.getElem?_toArray] at hv
  rw [List.getElem?_append] at hc
  split at hc
  · rename_i hlt
    rw [List.getElem?_map] at hc
    obtain ⟨c0, hc0, rfl⟩ := Option.map_eq_some_iff.1 hc
    obtain ⟨i, j', x, h1, h2, h3⟩ := flat_idx ys hl j c0 hc0
    obtain ⟨u, h4, h5⟩ := hyc i j' x c0 h1 h2
    rw [← h3] at h4
    have hjl := (List.getElem?_eq_some_iff.1 h4).1
    rw [List.getElem?_append_left hjl, h4] at hv
    cases hv
    exact h5.ro1
  · have := (List.mem_replicate.1 (List.mem_of_getElem? hc)).2
    subst this
    exact .undef _
/-- The own row has room, and is empty: from now on it is an object. -/
theorem Rel.appendObjIn {N0 : Nat} {w0 : World} {st : St} {tmps : Array Value} (h : Rel N0 w0 d G w st tmps) {s sz b cap : Nat} {ys : List DV} {news : List Value} {cur : Array Value} {te : TypeId}
    (hr : G.role b = .arr (.ret d 0 0) 0) (hg : w.heap[b]? = some (.cells cur te (0, 0))) (hcur : cur.size = cap * sz) (hroom : ys.length ≤ cap) (hnl : news.length = ys.length * sz)
    (hy : ∀ (i : Nat) (x : DV), ys[i]? = some x → x.cells.length = sz ∧ x.cells.all DV.scalar = true) (hyc : ∀ (i j : Nat) (x c : DV), ys[i]? = some x → x.cells[j]? = some c → ∃ u, news[i * sz + j]? = some u ∧ VP G w c u) :
    ∃ G' k, Rel N0 w0 d G' (w.setRow b (news ++ cur.toList.drop news.length).toArray) ({ st with H := st.H ++ [HObj.cells ((ys.flatMap DV.cells).map DV.ro1 ++ List.replicate k DV.undef)] }.put s (.hsl st.H.length sz 0 ys.length)) (tmps.setIfInBounds s (.slice (some ⟨b, 0, none⟩) ys.length cap)) ∧
      Ext d G w G' (w.setRow b (news ++ cur.toList.drop news.length).toArray) := by
  have hmul : ys.length * sz ≤ cap * sz := Nat.mul_le_mul_right sz hroom
  generalize hcs : (news ++ cur.toList.drop news.length).toArray = cs' at *
  have hcsz : cs'.size = cap * sz := by rw [← hcs]; simp; omega
  have hm : Mod b G w (G.setRole b (.obj st.H.length)) (w.setRow b cs') := by
    refine ⟨rfl, rfl, rfl, by simp, lt_of_heap hg, fun x hx => ⟨setRow_other w b x cs' hx, G.setRole_ne _ hx⟩, rfl, rfl, fun x o v hi => ?_, fun _ _ x => x⟩
    by_cases e : x = b
    · subst e
      rcases hi.1 with hi1 | ⟨ow, wm, hi1, hi2⟩
      · rw [hr] at hi1; cases hi1
      · rw [hr] at hi1
        cases hi1
        omega
    · refine ⟨by rw [G.setRole_ne _ e]; exact hi.1, ?_⟩
      have := hi.2
      simp only [World.cell?] at this ⊢
      rw [setRow_other w b x cs' e]; exact this
  have hno : ∀ o wm, (∀ i j, o ≠ .ret d i j) → G.role b ≠ .arr o wm := by
    intro o wm ho e
    rw [hr] at e
    cases e
    exact ho 0 0 rfl
  have hrel : Rel N0 w0 d (G.setRole b (.obj st.H.length)) (w.setRow b cs') st tmps := by
    refine ⟨h.len, fun s dv v hs hv => ⟨(h.slots s dv v hs hv).1.mod hm, (h.slots s dv v hs hv).2.mod hm fun i j wm => hno _ wm (by simp)⟩, fun s g cs' hbx => ?_, h.nobox, fun t p v hlk ht => ?_, h.heap.mod hm (by rw [hr]; simp) rfl fun id ob hob => (h.heap.objs id ob hob).mod hm (by rw [hr]; simp) fun j wm => hno _ wm (by simp)⟩
    · obtain ⟨b', vs', e', a1, a2, a3, a4⟩ := h.boxes s g cs' hbx
      have hne : b' ≠ b := by rintro rfl; rw [hr] at a2; cases a2
      exact ⟨b', vs', e', a1, by rw [(hm.block b' hne).2]; exact a2, hm.heap hne a3, a4.mod hm fun j wm => hno _ wm (by simp)⟩
    · refine posVal_mod hm (h.links t p v hlk ht) (fun x hx => (hm.block x hx).2) ?_
      cases p with
      | slot s i => trivial
      | box s' g' o => rintro x hx hrx rfl; rw [hr] at hrx; cases hrx
      | hp i o => rintro x hx hrx rfl; rw [hr] at hrx; cases hrx
  have hrow := rowCells (G := G) (w := w) (k := cap * sz - news.length) (rest := cur.toList.drop news.length) hy hnl (by simp; omega) hyc
  rw [hcs] at hrow
  have hk := hm.keep.trans (keep_setBl hrel.heap b)
  have hno1 : ∀ c ∈ (ys.flatMap DV.cells).map DV.ro1 ++ List.replicate (cap * sz - news.length) DV.undef, ∀ sz xs, c ≠ .sl true sz xs := by
    intro c hc sz xs e
    subst e
    rcases List.mem_append.1 hc with h1 | h1
    · obtain ⟨c0, _, e⟩ := List.mem_map.1 h1
      have := own1_ro1 c0
      rw [e] at this
      simp [DV.own1] at this
    · have := (List.mem_replicate.1 h1).2
      cases this
  have h3 := hrel.addObj (n := b) (ob := .cells ((ys.flatMap DV.cells).map DV.ro1 ++ List.replicate (cap * sz - news.length) DV.undef)) (G.setRole_same _ _)
    ⟨b, cs', te, by simp [Gh.setBl], G.setRole_same _ _, setRow_heap w b cur cs' te (0, 0) hg, hrow.1, fun j c v a b => ⟨(hrow.2 j c v a b).keep hk, fun sz xs e => absurd e (hno1 c (List.mem_of_getElem? a) sz xs)⟩⟩
  refine ⟨_, cap * sz - news.length, h3.put (s := s) (dv := .hsl st.H.length sz 0 ys.length) (v := .slice (some ⟨b, 0, none⟩) ys.length cap) (VP.hsl (by simp [Gh.setBl]) hroom (.inr rfl)) (sown_of_noOwn rfl), ?_⟩
  exact (hm.ext d (by intro e s _; rw [hr]; simp) (by intro o wm ho e; rw [hr] at e; cases e; simp [Owner.outer] at ho)).trans (ext_setBl hrel.heap b)
theorem op_appendObj {o : Oper} {x y : Operand} {t t2 : TypeId} (ho : o.op = .call { callee := .builtin .append, args := #[x, y], argTypes := #[t, t2] }) (hR : Rel N0 w0 d G w st a.tmps) {s : Nat} (hd : o.dst = some s)
    (h : appendObjD P st s t t2 x (rho P st t2 y) K) : OpTo P N0 w0 d G w a o K := by
  unfold appendObjD at h
  split at h
  · rename_i e hu
    obtain ⟨he, hpos, hz, h⟩ := h
    obtain ⟨dse, he'⟩ := Option.isSome_iff_exists.1 he
    obtain ⟨i, hi⟩ := info_of_underlying he'
    have hcs : P.cellsOf e = i.size := by simp [Program.cellsOf, hi]
    have hbs : P.bytesOf e = i.bytes := by simp [Program.bytesOf, hi]
    obtain ⟨z, hzr, _⟩ := zeroOk_sound (G := G) (w := w) hz
    have hzz : i.zero = some z := by
      simp only [zeroValue, typeInfo, Sem.run_bind, run_program, Result.andThen_ok, hi, Sem.run_pure] at hzr
      cases hiz : i.zero with
      | none => rw [hiz] at hzr; simp at hzr
      | some z' => rw [hiz] at hzr; simp at hzr; rw [hzr]
    have hzs : z.cells.size = i.size := by
      unfold zeroOk at hz
      simp only [hi, hzz, Bool.and_eq_true, beq_iff_eq] at hz
      exact hz.1.1.2
    obtain ⟨f, hf, h1, h2, h3, _⟩ := take_sound (P := P) hR t x
    split at h
    · rename_i sz hx
      obtain ⟨rfl, h⟩ := h
      rw [hx] at h2 h3
      have hyv := (hR.rho (P := P) t2 y).ren (f := f)
      obtain ⟨ys, news, ds2, ⟨hb, hlim, hK0, hK⟩, hu2, hni, hsrc, hnl, hone, hyc, hyv⟩ := src_sound (P := P) hpos hyv h
      have hexec : (execOp a.eval o).run P w = ((Builtin.append_ #[t, t2] o.type #[a.eval x, a.eval y]).run P w).andThen fun v w' => .ok (.value v) w' := by
        simp [execOp, ho, resolve, invoke, builtin]
      have hown := sown_at h2 h3
      have hvp : VP (G.ren f) w (.sl true (P.cellsOf e) []) (a.eval x) := h2
      -- growing
      have grow : ∀ base cap, a.eval x = .slice base 0 cap → cap < ys.length → OpTo P N0 w0 d G w a o K := by
        intro base cap hev hgr
        have hne : ys ≠ [] := by rintro rfl; simp at hgr
        have hfo : (Builtin.firstCells i.size 0 (.slice base 0 cap)).run P w.drew = .ok ([] : List Value).toArray w.drew := by
          rcases VP.slAt hvp with ⟨e1, _⟩ | ⟨b, off, cap', e1, _⟩
          · rw [hev] at e1
            cases e1
            simp [Builtin.firstCells]
          · rw [hev] at e1
            cases e1
            refine run_firstCells_some (P := P) w.drew i.size 0 ⟨b, off, none⟩ 0 cap [] (by simp) fun j v hv => ?_
            simp at hv
        have hrun := run_append_out (P := P) (w := w) (ty := o.type) hu hu2 hni hi hzz (base := base) (sLen := 0) (sCap := cap) (n := ys.length) (olds := []) (news := news) (by rw [← hcs]; exact hsrc w.drew fun _ => rfl) hfo (hsrc w fun _ => rfl).len (by omega) (by omega)
          (growslice_fits (by omega) (by rw [← hbs]; simpa using hb))
        have hge := grownCap_ge w (0 + ys.length) cap e
        have hnd := h1.neu (Neu.drew (G.ren f) w)
        have hrow := rowCells (G := G.ren f) (w := w.drew) (k := (Builtin.zeroCells z.cells (grownCap w (0 + ys.length) cap e - (0 + ys.length))).toList.length) (rest := (Builtin.zeroCells z.cells (grownCap w (0 + ys.length) cap e - (0 + ys.length))).toList) hyc hnl rfl
          (fun i j x c hi hj => by obtain ⟨u, u1, u2⟩ := hyv i j x c hi hj; exact ⟨u, u1, u2.keep (Neu.drew _ w).keep⟩)
        have hvs : (([] : List Value).toArray ++ news.toArray ++ Builtin.zeroCells z.cells (grownCap w (0 + ys.length) cap e - (0 + ys.length))) = (news ++ (Builtin.zeroCells z.cells (grownCap w (0 + ys.length) cap e - (0 + ys.length))).toList).toArray := by
          apply Array.toList_inj.1
          simp
        obtain ⟨G', n1, n2⟩ := hnd.newRowObj (s := s) (sz := P.cellsOf e) (len := 0 + ys.length) (cap := grownCap w (0 + ys.length) cap e) (cs := (ys.flatMap DV.cells).map DV.ro1 ++ List.replicate (Builtin.zeroCells z.cells (grownCap w (0 + ys.length) cap e - (0 + ys.length))).toList.length DV.undef)
          (vs := (([] : List Value).toArray ++ news.toArray ++ Builtin.zeroCells z.cells (grownCap w (0 + ys.length) cap e - (0 + ys.length)))) e hge (by rw [hvs]; exact hrow.1) (by rw [hvs]; exact hrow.2)
          (fun c hc sz xs e => by
            subst e
            rcases List.mem_append.1 hc with h1 | h1
            · obtain ⟨c0, _, e⟩ := List.mem_map.1 h1
              have := own1_ro1 c0
              rw [e] at this
              simp [DV.own1] at this
            · have := (List.mem_replicate.1 h1).2
              cases this)
        have e0 : ∀ n, 0 + n = n := Nat.zero_add
        simp only [e0] at n1 n2 hrun
        refine ⟨_, _, G', _, .inl ?_, hK hne _, (ext_ren hf).trans (((Neu.drew (G.ren f) w).ext h1.heap.fresh d).trans n2), by rw [hd]; exact n1⟩
        rw [hexec, hev, hrun]
        rfl
      rcases hown with hnil | ⟨b, len, cap, cur, te, e1, e2, e3, e4, e5⟩
      · -- nil
        by_cases hy0 : ys = []
        · subst hy0
          have hn0 : news = [] := List.eq_nil_of_length_eq_zero (by simpa using hnl)
          subst hn0
          have hs0 := hsrc w fun _ => rfl
          have hrun : (Builtin.append_ #[t, t2] o.type #[a.eval x, a.eval y]).run P w = .ok (.slice none 0 0) w := by
            have hzz2 : (match ds2 with | .int _ => true | _ => false) = false := by cases ds2 <;> first | rfl | exact absurd rfl (hni _)
            have hl0 : (Builtin.lenOf (a.eval y)).run P w = .ok 0 w := hs0.len
            have hf0 : (Builtin.firstCells (P.cellsOf e) 0 (a.eval y)).run P w = .ok #[] w := hs0.first
            rw [hnil]
            simp only [Builtin.append_, List.getElem?_toArray, List.getElem?_cons_zero, List.getElem?_cons_succ, Sem.run_bind, run_underlying hu, run_underlying hu2, Result.andThen_ok, run_sizeOf' he', Sem.run_pure, hzz2, Bool.false_eq_true, if_false, hl0, Nat.le_refl, Nat.add_zero, if_true, Bool.not_false, hf0]
          have hput := h1.put (s := s) (dv := .sl true (P.cellsOf e) []) (v := .slice none 0 0) (SV.of_vp .sl0) (sown_sl .sl0 (.inl rfl))
          exact ⟨_, _, _, _, .inl (by rw [hexec, hrun]; rfl), hK0 rfl, ext_ren hf, by rw [hd]; exact hput⟩
        · exact grow none 0 hnil (List.length_pos_iff.2 hy0)
      · have hlen : len = 0 := by
          rcases VP.slAt hvp with ⟨q, _⟩ | ⟨b', off, cap', q, _⟩
          · rw [e1] at q; cases q
          · rw [e1] at q; cases q; rfl
        subst hlen
        simp only [Nat.zero_mul] at e2
        by_cases hroom : ys.length ≤ cap
        · have hmul : ys.length * P.cellsOf e ≤ cap * P.cellsOf e := Nat.mul_le_mul_right _ hroom
          have hrun := run_append_in (P := P) (w := w) (ty := o.type) hu hu2 hni ⟨_, he'⟩ (hsrc w fun _ => rfl) e3 hone (show 0 + ys.length ≤ cap by omega) (by omega)
          by_cases hy0 : ys = []
          · subst hy0
            have hn0 : news = [] := List.eq_nil_of_length_eq_zero (by simpa using hnl)
            subst hn0
            obtain ⟨G', n1, n2⟩ := h1.appendIn (s := s) (ys := []) (news := []) (xs := []) (by rw [e1] at hvp; exact hvp) (by simpa using e2) e3 e4 (by simp) (by simp) (by intro i x h; simp at h) (by intro i j x c h; simp at h)
            refine ⟨_, _, G', _, .inl ?_, hK0 rfl, (ext_ren hf).trans n2, by rw [hd]; exact n1⟩
            rw [hexec, e1, hrun]
            rfl
          · obtain ⟨G', k, n1, n2⟩ := h1.appendObjIn (s := s) (sz := P.cellsOf e) e2 e3 e4 hroom hnl hyc hyv
            refine ⟨_, _, G', _, .inl ?_, hK hy0 k, (ext_ren hf).trans n2, by rw [hd]; exact n1⟩
            rw [hexec, e1, hrun]
            simp
        · exact grow (some ⟨b, 0, none⟩) cap e1 (by omega)
    · exact h.elim
  · exact h.elim
/-- A slice literal whose row is an object. -/
theorem op_buildSliceObj {o : Oper} {t e : TypeId} {len : Nat} {parts : Array (Nat × Operand)} (ho : o.op = .buildSlice t len parts) (hR : Rel N0 w0 d G w st a.tmps) {s : Nat} (hd : o.dst = some s) (hu : P.underlying t = some (.slice e))
    (he : (P.underlying e).isSome = true) (hpos : 0 < P.cellsOf e) (hsm : len * P.cellsOf e ≤ 16777216) (hz : (P.info? e).any (·.zero.isSome) = true) (hparts : parts.toList.map (·.1) = List.range len)
    (hc : ∀ x ∈ parts.toList, (rho P st e x.2).ro.cells.length = P.cellsOf e ∧ (rho P st e x.2).ro.cells.all DV.scalar = true)
    (h : K ({ st with H := st.H ++ [HObj.cells (((parts.toList.map fun x : Nat × Operand => (rho P st e x.2).ro).flatMap DV.cells).map DV.ro1)] }.put s (.hsl st.H.length (P.cellsOf e) 0 len))) : OpTo P N0 w0 d G w a o K := by
  have hlen : parts.toList.length = len := by have := congrArg List.length hparts; simpa using this
  have hvp : ∀ x ∈ parts.toList, VP G w (rho P st e x.2).ro (a.eval x.2) := fun x hx => vp_of_sv (hR.rho e x.2).ro (hc x hx).2
  have hvs : ((parts.map fun (i, x) => (i, a.eval x))) = (((parts.toList.map fun x : Nat × Operand => a.eval x.2).zipIdx 0).map fun x => (x.2, x.1)).toArray := by
    apply Array.toList_inj.1
    rw [Array.toList_map]
    apply List.ext_getElem?
    intro i
    simp only [List.getElem?_map, List.getElem?_zipIdx, List.getElem?_toArray, Nat.zero_add]
    cases hi : parts.toList[i]? with
    | none => simp [hi]
    | some x =>
      have h1 : (parts.toList.map (·.1))[i]? = some x.1 := by rw [List.getElem?_map, hi]; rfl
      rw [hparts] at h1
      have h2 : x.1 = i := by
        have := (List.getElem?_eq_some_iff.1 h1)
        obtain ⟨hl, he⟩ := this
        simp at he
        exact he.symm
      simp [hi, h2]
  have h1 : ∀ v ∈ parts.toList.map fun x : Nat × Operand => a.eval x.2, v.cells.size = P.cellsOf e := by
    intro v hv
    obtain ⟨x, hx, rfl⟩ := List.mem_map.1 hv
    rw [← (vp_cells (hvp x hx) (hc x hx).2).1]; exact (hc x hx).1
  have hrun := run_buildSlice' (P := P) (w := w) t e len (parts.toList.map fun x : Nat × Operand => a.eval x.2) hu he hz hpos hsm (by simpa using hlen) h1
  have hyc : ∀ (i : Nat) (x : DV), (parts.toList.map fun x : Nat × Operand => (rho P st e x.2).ro)[i]? = some x → x.cells.length = P.cellsOf e ∧ x.cells.all DV.scalar = true := fun i x hx => by
    rw [List.getElem?_map] at hx
    obtain ⟨y, hy, rfl⟩ := Option.map_eq_some_iff.1 hx
    exact hc y (List.mem_of_getElem? hy)
  have hsz : ((parts.toList.map fun x : Nat × Operand => a.eval x.2).flatMap fun v => v.cells.toList).length = (parts.toList.map fun x : Nat × Operand => (rho P st e x.2).ro).length * P.cellsOf e := by
    rw [List.length_map, hlen, List.length_flatMap]
    have : ((parts.toList.map fun x : Nat × Operand => a.eval x.2).map fun v => v.cells.toList.length) = List.replicate len (P.cellsOf e) := by
      rw [List.eq_replicate_iff]
      refine ⟨by simpa using hlen, fun b hb => ?_⟩
      obtain ⟨v, hv, rfl⟩ := List.mem_map.1 hb
      simpa using h1 v hv
    rw [this]
    clear this h1 hvs hrun hparts hlen hsm h ho
    induction len with
    | zero => simp
    | succ n ih => rw [List.replicate_succ, List.sum_cons, ih, Nat.succ_mul]; omega
  have hrow := rowCells (G := G) (w := w) (k := 0) (ys := parts.toList.map fun x : Nat × Operand => (rho P st e x.2).ro) (news := (parts.toList.map fun x : Nat × Operand => a.eval x.2).flatMap fun v => v.cells.toList) (rest := []) hyc hsz rfl
    (fun i j x c hx hj => by
      rw [List.getElem?_map] at hx
      obtain ⟨y, hy, rfl⟩ := Option.map_eq_some_iff.1 hx
      have hm := List.mem_of_getElem? hy
      obtain ⟨hl, hcc⟩ := vp_cells (hvp y hm) (hc y hm).2
      have hjl : j < (a.eval y.2).cells.size := by rw [← hl]; exact (List.getElem?_eq_some_iff.1 hj).1
      refine ⟨(a.eval y.2).cells[j], ?_, hcc j c _ hj (by simp [hjl])⟩
      exact flat_get' hpos _ h1 i j (a.eval y.2) _ (by rw [List.getElem?_map, hy]; rfl) (by simp [hjl]))
  simp only [List.append_nil, List.replicate_zero] at hrow
  obtain ⟨G', h2, h3⟩ := hR.newRowObj (s := s) (sz := P.cellsOf e) (len := len) (cap := len) (cs := ((parts.toList.map fun x : Nat × Operand => (rho P st e x.2).ro).flatMap DV.cells).map DV.ro1) (vs := ((parts.toList.map fun x : Nat × Operand => a.eval x.2).flatMap fun v => v.cells.toList).toArray) e (Nat.le_refl _)
    hrow.1 hrow.2
    (fun c hc sz xs e => by
      subst e
      obtain ⟨c0, _, e⟩ := List.mem_map.1 hc
      have := own1_ro1 c0
      rw [e] at this
      simp [DV.own1] at this)
  refine ⟨_, _, G', _, .inl ?_, h, h3, by rw [hd]; exact h2⟩
  rw [exec_v (s := Instr.buildSlice t len (parts.map fun (i, x) => (i, a.eval x))) (by simp only [execOp, ho]), hvs, hrun]
  rfl
/-- A new variable of a function's type: what it shows is not known. -/
theorem op_allocF {o : Oper} {e : TypeId} (ho : o.op = .alloc e) (hR : Rel N0 w0 d G w st a.tmps) {s : Nat} (hd : o.dst = some s) (hf : funT P e = true) (h : K ({ st with H := st.H ++ [HObj.cells [.undef]] }.put s (.ptr st.H.length 0))) : OpTo P N0 w0 d G w a o K := by
  obtain ⟨i, hi, hz⟩ : ∃ i, P.info? e = some i ∧ i.zero = some .nilFunc := by
    unfold funT at hf
    cases hi : P.info? e with
    | none => simp [hi] at hf
    | some i =>
      simp only [hi, Option.bind_some] at hf
      refine ⟨i, rfl, ?_⟩
      split at hf
      · assumption
      · cases hf
  have hzr : (zeroValue e).run P w = .ok .nilFunc w := by simp [zeroValue, typeInfo, hi, hz]
  have hn := Neu.alloc G w (.cells #[.nilFunc] e) (.obj st.H.length)
  have h2 := hR.neu hn
  have h3 := h2.addObj (n := w.heap.size) (ob := .cells [.undef]) (by simp) ⟨w.heap.size, #[.nilFunc], e, by simp [Gh.setBl], by simp, heap_new w _, rfl, fun j c v a b => by
    match j with
    | 0 => cases a; cases b; exact ⟨.undef _, fun sz xs e => by cases e⟩
    | n + 1 => simp at a⟩
  refine ⟨.pointer (some ⟨w.heap.size, 0, none⟩), _, _, _, .inl ?_, h, (hn.ext hR.heap.fresh d).trans (ext_setBl h2.heap _), by rw [hd]; exact h3.put (s := s) (dv := .ptr st.H.length 0) (v := .pointer (some ⟨w.heap.size, 0, none⟩)) (VP.ptr (by simp [Gh.setBl])) (sown_of_noOwn rfl)⟩
  simp [execOp, ho, Instr.alloc, hzr, newVar, Go.newRow, Value.cells]
end Go.Ab
