/- The document's medium. -/
import Derived.Test.YtodfejeifbhoeaaDoorMdE
import Derived.Laws.Rows
import Derived.Laws.ResultCell
namespace Go.Proofs.YtodfejeifbhoeaaDoor
open Go.RowKit
set_option linter.unusedVariables false

def cutI : Option Int → Int
  | none => -1
  | some n => max n 0
def mW (s : MS) (A : Option Addr) (n c : Nat) : Value := .agg #[.slice A n c, .int .i64 s.room, .bool s.up, .int .i64 (cutI s.cut)]

theorem infoW : (Tryd.prog.info? 43).map (·.size) = some 4 := by kernel_rfl

theorem rNew_any (room : Int) (w : World) : Calls Tryd.prog 20 #[.int .i64 room] w fun e w' => e = .returned (mW (newS room) none 0 0) ∧ Below w.heap.size w w' := by
  go_enter Tryd.func20, Tryd.ntmps20
  go_wp2_with fail
  refine bodyPost_ret (results_cell_row rfl _ _ w.heap.size _ _ (0, 0) _ rfl (heap_alloc_new w _) Tryd.underlying43 rfl infoW) rfl ?_
  exact ⟨rfl, below_new _ _⟩
theorem below_two (w : World) (a b : Obj) : Below w.heap.size w ((w.alloc a).alloc b) := (below_new w a).thenB' (below_new _ b)
theorem rCrash_any (s : MS) (A : Option Addr) (n c : Nat) (w : World) : Calls Tryd.prog 23 #[mW s A n c] w fun e w' => e = .returned (mW s.crash A n c) ∧ Below w.heap.size w w' := by
  have E : Hid (mW s.crash A n c = .agg #[.slice A n c, .int .i64 s.room, .bool false, .int .i64 (-1)]) := Lib.hid rfl
  unfold mW at E ⊢
  go_enter Tryd.func23, Tryd.ntmps23
  go_wp2_with fail
  refine bodyPost_ret (results_cell_row rfl _ _ (w.heap.size + 1) _ _ (0, 0) _ rfl (heap_alloc2_new w _ _) Tryd.underlying43 rfl infoW) rfl ?_
  exact ⟨rfl, below_two _ _ _⟩
theorem rSet_any (s : MS) (A : Option Addr) (n c : Nat) (k : Int) (w : World) : Calls Tryd.prog 22 #[mW s A n c, .int .i64 k] w fun e w' => e = .returned (mW (s.set k) A n c) ∧ Below w.heap.size w w' := by
  cases hup : s.up
  · have E : Hid (mW (s.set k) A n c = .agg #[.slice A n c, .int .i64 s.room, .bool false, .int .i64 (cutI s.cut)]) := by unfold Hid MS.set mW; rw [hup]; simp [hup]
    unfold mW at E ⊢
    rw [hup]
    go_enter Tryd.func22, Tryd.ntmps22
    go_wp2_with fail
    refine bodyPost_ret (results_cell_row rfl _ _ (w.heap.size + 1) _ _ (0, 0) _ rfl (heap_alloc2_new w _ _) Tryd.underlying43 rfl infoW) rfl ?_
    exact ⟨by rw [E.out], below_two _ _ _⟩
  · have E : Hid (mW (s.set k) A n c = .agg #[.slice A n c, .int .i64 s.room, .bool true, .int .i64 (max k 0)]) := by unfold Hid MS.set mW; rw [hup]; simp [cutI]
    unfold mW at E ⊢
    rw [hup]
    go_enter Tryd.func22, Tryd.ntmps22
    go_wp2_with fail
    refine bodyPost_ret (results_cell_row rfl _ _ (w.heap.size + 1) _ _ (0, 0) _ rfl (heap_alloc2_new w _ _) Tryd.underlying43 rfl infoW) rfl ?_
    exact ⟨by rw [E.out], below_two _ _ _⟩
end Go.Proofs.YtodfejeifbhoeaaDoor
