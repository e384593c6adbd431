/- A part of the proofs that a law function returns true at every input; it has no condition of its own. -/
import Derived.Laws.Externs
import Derived.MapKept
import Derived.WalkKit
import Derived.Test.YtcljbddnnnbihaaShF
set_option linter.unusedSimpArgs false
set_option linter.unusedVariables false
/- ShX1: maps.Clone at the shelf's files: a walk by the kit's words, then the contract. -/
namespace Go.Proofs
open Go.RowKit
section
variable {P : Program} (w : World)
theorem run_equalIn_map_nil_sh (d : Nat) (t k e : TypeId) (p : Option Nat) (h : P.underlying t = some (.map k e)) :
    (Op.equalIn (d + 1) t (.map p) (.map none)).run P w = .ok p.isNone w := by
  cases p <;> simp [Op.equalIn, run_underlying h]
theorem run_eql_map_nil_sh (t k e : TypeId) (p : Option Nat) (h : P.underlying t = some (.map k e)) :
    (binOp .eql t (.map p) (.map none)).run P w = .ok (.bool p.isNone) w := by
  simp only [binOp]
  simp [show Op.equal t (.map p) (.map none) = Op.equalIn (9999 + 1) t (.map p) (.map none) from rfl, run_equalIn_map_nil_sh w 9999 t k e p h]
theorem run_typeAssert_map_sh (t xT k e : TypeId) (v : Value) (h : P.underlying t = some (.map k e)) : (Instr.typeAssert (.iface t v) xT t false).run P w = .ok v w := by
  simp [Instr.typeAssert, run_underlying h, go_sem, Result.andThen]
theorem run_maps_clone_sh {r : Nat} {es : Array MapEntry} {clock : Nat} (t : TypeId) (hb : w.heap[r]? = some (.map es clock)) :
    (Extern.MapsClone.clone #[.iface t (.map (some r))]).run P w = .ok (.iface t (.map (some w.heap.size))) (w.alloc (.map es clock)) := by
  obtain ⟨F, e⟩ : ∃ F : Sem Value, Extern.MapsClone.clone #[.iface t (.map (some r))] = (getObj r >>= fun o => match o with
      | .map entries clock => (newObj (.map entries clock) >>= fun n => pure (.iface t (.map (some n))))
      | _ => F) := ⟨_, rfl⟩
  rw [e]
  simp [MapKept.run_getObj_map hb, Result.andThen, go_sem]
end
set_option maxRecDepth 100000 in
set_option maxHeartbeats 2000000 in
theorem calls41 (b : Nat) (es : Array MapEntry) (clock : Nat) (w : World) (hb : w.heap[b]? = some (.map es clock)) :
    Calls Try.prog 41 #[.map (some b)] w fun e w' => e = .returned (.map (some w.heap.size)) ∧ w' = w.alloc (.map es clock) := by
  have hq := fun w => run_eql_map_nil_sh (P := Try.prog) w 54 _ _ (some b) Try.underlying54
  go_enter Try.func41, Try.ntmps41
  go_wp2
  rw [run_callFunc_extern Try.func49 (by kernel_rfl) (by kernel_rfl) (by kernel_rfl) (e := Extern.MapsClone.clone) (by kernel_rfl), run_maps_clone_sh w 54 hb]
  simp only [Result.andThen]
  rw [Oper.upon_value]
  go_wp2
  rw [run_typeAssert_map_sh _ 54 20 _ _ _ Try.underlying54]
  simp only [Result.andThen]
  rw [Oper.upon_value]
  go_wp2
  go_ret
  exact ⟨rfl, rfl⟩
end Go.Proofs
namespace Go.Ab.Sh
open Go Go.Conc Go.RowKit Go.Ab
theorem rc41 : RC (loneJ pp) 41 S41 := by
  refine rc_of_calls ⟨_, Go.Proofs.Try.func41, by kernel_rfl, by kernel_rfl⟩ fun N0 w0 d G w H args vs K hS hW hF => ?_
  obtain ⟨m, es, rfl, h1, hK⟩ := hS
  have hsz : vs.size = 1 := hF.1.symm
  obtain ⟨v, rfl⟩ : ∃ v, vs = #[v] := Array.size_eq_one_iff.1 hsz
  obtain ⟨b, hb, rfl⟩ := SV.map (d := 0) (hF.2 0 _ _ rfl rfl)
  obtain ⟨b', ms, ck, g1, g2, g3, g4⟩ := hW.objs m _ h1
  obtain rfl : b = b' := by rw [hb] at g1; exact Option.some.inj g1
  refine (Go.Proofs.calls41 b ms ck w g3).mono fun e w' ⟨he, hw⟩ => ?_
  subst he hw
  have hn := Neu.alloc G w (.map ms ck) (.obj H.length)
  have hW1 := hW.neu hn
  have hW2 := hW1.addObj (n := w.heap.size) (ob := .map es) (G.setRole_same _ _) ⟨w.heap.size, ms, ck, by simp [Gh.setBl], by simp, (MapKept.heap_alloc w _).1, by
    obtain ⟨k1, k2, k3⟩ := g4
    have hk := hn.keep.trans (keep_setBl hW1 w.heap.size)
    exact ⟨k1, fun i e m he hm => ⟨(k2 i e m he hm).1.keep hk, (k2 i e m he hm).2.1.keep hk, (k2 i e m he hm).2.2⟩, k3⟩⟩
  exact ⟨_, rfl, _, _, .map H.length, hK, (hn.ext hW.fresh _).trans (ext_setBl hW1 _), hW2, SV.of_vp (.map (by simp [Gh.setBl])), sown_of_noOwn rfl⟩
end Go.Ab.Sh
