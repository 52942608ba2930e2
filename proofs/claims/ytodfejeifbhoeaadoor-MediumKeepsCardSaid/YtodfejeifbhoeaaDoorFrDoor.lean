/- The table, out of what the program's text lays. -/
import Derived.Test.YtodfejeifbhoeaaDoorRows
import Derived.Test.YtodfejeifbhoeaaDoorTie
import Derived.Test.YtodfejeifbhoeaaDoorFr2
import Derived.ProofKit
import Derived.LaidMore
import Derived.OpenShut
import Derived.Stop.Joined
namespace Go.Proofs.YtodfejeifbhoeaaDoor
open Go.ChangeShapes Go.WideShapes Go.ChangeAt Go.WideMaps Go.WideElems Go.RowKit
set_option linter.unusedVariables false

theorem gHalves : Tryd.prog.globalNamed "terrazzo/frame.halves" = some 0 := by kernel_rfl
theorem tHalves : (Tryd.prog.globals[0]?).map (·.type) = some 74 := by kernel_rfl

/-- The door's own heap meets the condition. -/
theorem door_met (os : Os) (args : Array Value) : laidMetH Tryd.prog [("terrazzo/frame.halves", Rows.laid_terrazzo_frame_halves)] ((World.doorLaid Tryd.prog 14 os).forCall (fun _ _ => 0) ⟨#[], args, []⟩).memory :=
  laidMetH_of_parts3 (fuel := 8) (laidMet_of_run' 8 (by kernel_rfl) (by kernel_rfl)) (by kernel_rfl) (by kernel_rfl)

theorem lits_at {H : Type} (L : List (DataW H)) (hL : (.agg L : DataW H) = Rows.laid_terrazzo_frame_halves) (i : Nat) (hi : i < 16) : L[i]? = some (.lit (.int .u32 (hv i : Int))) := by
  unfold Rows.laid_terrazzo_frame_halves at hL
  injection hL with hL
  subst hL
  have : i = 0 ∨ i = 1 ∨ i = 2 ∨ i = 3 ∨ i = 4 ∨ i = 5 ∨ i = 6 ∨ i = 7 ∨ i = 8 ∨ i = 9 ∨ i = 10 ∨ i = 11 ∨ i = 12 ∨ i = 13 ∨ i = 14 ∨ i = 15 := by omega
  rcases this with rfl | rfl | rfl | rfl | rfl | rfl | rfl | rfl | rfl | rfl | rfl | rfl | rfl | rfl | rfl | rfl <;> rfl

theorem of_laid {W : World} (h : laidMetH Tryd.prog [("terrazzo/frame.halves", Rows.laid_terrazzo_frame_halves)] W) : Tab W := by
  rw [MakeChecks.laidMetH_plain _ _ _ (by kernel_rfl)] at h
  obtain ⟨ps, ⟨g0, t0, cs0, f0, p0, q0, hg0, ht0, hv0, hd0, _, _⟩, _, _⟩ := h
  obtain rfl := Option.some.inj (gHalves.symm.trans hg0)
  obtain rfl := Option.some.inj (tHalves.symm.trans ht0)
  obtain ⟨xs, m1, rfl, hx1, hlen, hn3, hel⟩ := DataW.trod_array Tryd.underlying74 hd0
  have ce : Tryd.prog.cellsOf 70 = 1 := by kernel_rfl
  simp only [Prod.mk.injEq] at hx1
  intro i hi
  have h1 := hel i hi
  have h2 := lits_at _ hx1.1.symm i hi
  rw [List.getElem?_map] at h2
  have hx : xs[i]? = some (xs[i]'(by omega)) := List.getElem?_eq_getElem _
  rw [hx] at h1 h2
  obtain ⟨k, e1, e2, _⟩ := DataW.trod_int Tryd.underlying70 h1
  rw [ce, Nat.mul_one] at e1
  rw [e2] at h2
  simp only [Option.map_some, Option.some.injEq, DataW.lit.injEq, Lit.int.injEq] at h2
  obtain ⟨_, rfl⟩ := h2
  have h3 := World.var?_cell hg0 hv0 i
  rw [h3]
  have h4 := congrArg (fun l => l[0]?) e1
  simpa [List.getElem?_take, List.getElem?_drop] using h4
end Go.Proofs.YtodfejeifbhoeaaDoor
