/- The three tables, out of what the program's text lays. -/
import Derived.Test.YthpmmnpjdpgamaaDoorRows
import Derived.Test.YthpmmnpjdpgamaaDoorTie
import Derived.Test.YthpmmnpjdpgamaaDoorEn9
import Derived.ProofKit
import Derived.LaidMore
import Derived.OpenShut
import Derived.Stop.Joined
import Derived.Stop.LaidErr
import Derived.Lib.LaidTab
namespace Go.Proofs.YthpmmnpjdpgamaaDoor
open Go.ChangeShapes Go.WideShapes Go.ChangeAt Go.WideMaps Go.WideElems Go.RowKit
set_option linter.unusedVariables false

def laid7 : List (String × DataW Unit) := [("math/bits.deBruijn32tab", Rows.laid_math_bits_deBruijn32tab), ("math/bits.deBruijn64tab", Rows.laid_math_bits_deBruijn64tab), ("internal/strconv.uint64pow10", Rows.laid_internal_strconv_uint64pow10), ("terrazzo/frame.halves", Rows.laid_terrazzo_frame_halves), ("terrazzo/entry.names", Rows.laid_terrazzo_entry_names)]

theorem pow_tab : (Rows.laid_internal_strconv_uint64pow10 : DataW Unit) = Lib.tabData .u64 Lib.pow10Tab := by rfl
theorem half_tab : (Rows.laid_terrazzo_frame_halves : DataW Unit) = Lib.tabData .u32 ((List.range 16).map fun i => (hv i : Int)) := by rfl
theorem name_tab : (Rows.laid_terrazzo_entry_names : DataW Unit) = Lib.tabData .i64 [0, 9, 3, 2, 0, 4, 4] := by rfl
theorem gPow : Tryd.prog.globalNamed "internal/strconv.uint64pow10" = some 2 := by kernel_rfl
theorem tPow : (Tryd.prog.globals[2]?).map (·.type) = some 99 := by kernel_rfl
theorem gHalves : Tryd.prog.globalNamed "terrazzo/frame.halves" = some 1 := by kernel_rfl
theorem tHalves : (Tryd.prog.globals[1]?).map (·.type) = some 90 := by kernel_rfl
theorem gNames : Tryd.prog.globalNamed "terrazzo/entry.names" = some 0 := by kernel_rfl
theorem tNames : (Tryd.prog.globals[0]?).map (·.type) = some 59 := by kernel_rfl

theorem of_laid {W : World} (h : laidMetH Tryd.prog laid7 W) : Tab W ∧ TabE W ∧ TabS W := by
  rw [MakeChecks.laidMetH_plain _ _ _ (by kernel_rfl)] at h
  have h3 := h.tail.tail
  rw [pow_tab] at h3
  have h4 := h3.tail
  rw [half_tab] at h4
  have h5 := h4.tail
  rw [name_tab] at h5
  have p3 := Lib.tabIs_of_head gPow tPow Tryd.underlying99 Tryd.underlying86 (by kernel_rfl) (by kernel_rfl) h3
  have p4 := Lib.tabIs_of_head gHalves tHalves Tryd.underlying90 Tryd.underlying81 (by kernel_rfl) (by kernel_rfl) h4
  have p5 := Lib.tabIs_of_head gNames tNames Tryd.underlying59 Tryd.underlying3 (by kernel_rfl) (by kernel_rfl) h5
  refine ⟨fun i hi => ?_, fun i hi => ?_, p3⟩
  · rw [p4.cell gHalves i (by simpa using hi)]
    simp [List.getD, hi]
  · rw [p5.cell gNames i hi]
    rfl

/-- The door's own heap meets the condition. -/
theorem door_met (os : Os) (args : Array Value) : laidMetH Tryd.prog laid7 ((World.doorLaid Tryd.prog 34 os).forCall (fun _ _ => 0) ⟨#[], args, []⟩).memory :=
  laidMetH_of_parts3 (fuel := 8) (laidMet_of_run' 8 (by kernel_rfl) (by kernel_rfl)) (by kernel_rfl) (by kernel_rfl)
end Go.Proofs.YthpmmnpjdpgamaaDoor
