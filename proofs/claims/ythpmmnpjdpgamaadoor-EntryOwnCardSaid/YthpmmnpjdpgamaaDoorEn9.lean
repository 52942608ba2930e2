/- The law package's awake. -/
import Derived.Test.YthpmmnpjdpgamaaDoorEn8
import Derived.Lib.SlBytesConst
namespace Go.Proofs.YthpmmnpjdpgamaaDoor
open Go.RowKit
set_option linter.unusedVariables false
set_option maxRecDepth 100000

theorem TabS.below {w w' : World} (h : TabS w) (hb : Below w.heap.size w w') : TabS w' := by
  unfold TabS Lib.TabIs World.var? at *
  cases hg : Tryd.prog.globalNamed "internal/strconv.uint64pow10" with
  | none => rw [hg] at h; exact h
  | some g =>
    rw [hg] at h
    simp only [Option.bind_some] at h ⊢
    have hlt : g < w.heap.size := by
      rcases Nat.lt_or_ge g w.heap.size with hh | hh
      · exact hh
      · rw [Array.getElem?_eq_none hh] at h; exact absurd h (by simp)
    rw [hb.block g hlt]
    exact h
theorem rd_mark7 (w : World) (bs : List UInt8) (cs : Array Value) (m : Nat × Nat) (hcs : cs = (bs.map cB).toArray) : RdB (w.alloc (.cells cs 5 m)) (· = w.heap.size) (some ⟨w.heap.size, 0, none⟩) bs := by
  refine ⟨by simp, fun _ => ⟨_, rfl, rfl, fun j u hj => ?_⟩⟩
  rw [add_head, cell_of_row _ w.heap.size j cs 5 m (heap_alloc_new w _), hcs]
  simpa using hj
def ex7 : E7 := ⟨9, 2, 1, 5, 7, 0, [97, 98]⟩
deriving instance DecidableEq for E7
theorem back7 : unpO (packO ex7) = (⟨9, 2, 1, 5, 0, 0, [97, 98]⟩, 0) := by decide +kernel
theorem name7 : nameO 7 = [101, 48, 48, 48, 48, 48, 48, 48, 48, 55] := by decide +kernel
theorem may7 : mayE ⟨1, 0, 1, 0, 0, 0, []⟩ = false := by decide +kernel
theorem pack7_len : (packO ex7).length ≤ 1000000 := by decide +kernel

set_option maxHeartbeats 2000000 in
theorem awake_any7 (w : World) (ht : Tab w) (hte : TabE w) (hts : TabS w) : Calls Tryd.prog 9 #[] w fun e w' => e = .returned (.bool true) ∧ Below w.heap.size w w' := by
  have nN := below_new w (.cells #[.int .u8 97, .int .u8 98] 5 (2, 3))
  have oN := rd_mark7 w [97, 98] #[.int .u8 97, .int .u8 98] (2, 3) rfl
  have hcv : (convert 22 22 (.slice (some ⟨w.heap.size, 0, none⟩) 2 2)).run Tryd.prog (w.alloc (.cells #[.int .u8 97, .int .u8 98] 5)) = .ok (.slice (some ⟨w.heap.size, 0, none⟩) 2 2) (w.alloc (.cells #[.int .u8 97, .int .u8 98] 5 (2, 3))) := Lib.run_convert_bytes_const w 22 5 _ 2 2 Tryd.underlying22 Tryd.underlying5
  go_enter Tryd.func9, Tryd.ntmps9
  go_wp2_with fail
  have n2 := nN.thenB' (below_new (w.alloc (.cells #[.int .u8 97, .int .u8 98] 5 (2, 3))) (.cells (enA ex7 (some ⟨w.heap.size, 0, none⟩) 2) 24))
  have r2 := oN.below (below_new (w.alloc (.cells #[.int .u8 97, .int .u8 98] 5 (2, 3))) (.cells (enA ex7 (some ⟨w.heap.size, 0, none⟩) 2) 24))
  have hp := Pack_any ex7 _ (some ⟨w.heap.size, 0, none⟩) 2 _ r2 (by show 2 ≤ big; unfold big; omega) (ht.below n2) (hte.below n2)
  refine hp.mono ?_
  clear hp hcv
  rintro e w3 ⟨v1, rfl, o1, b1⟩
  have bb := n2.thenB' b1
  clear nN oN n2 r2 b1
  obtain ⟨A1, n1, c1, rfl, e1, hc1, hm1⟩ := OwnB.form' o1
  have hu := Unpack_any _ A1 c1 (packO ex7) w3 o1.rd' pack7_len (by rw [← e1.out]; exact hc1) hm1 (ht.below bb) (hte.below bb)
  rw [← e1.out, back7] at hu
  clear e1 o1
  (try dsimp only at hu)
  go_wp2_with fail
  refine hu.mono ?_
  clear hu
  rintro e w4 ⟨A2, c2, rfl, o2, b2⟩
  have bb := bb.thenB' b2
  have n3 := below_new w4 (.cells (enA ⟨9, 2, 1, 5, 0, 0, [97, 98]⟩ A2 c2) 24)
  have b3 := bb.thenB' n3
  have hn := Name_any 7 _ (hts.below b3)
  rw [name7] at hn
  unfold enV
  dsimp only [enA, List.length_cons, List.length_nil] at *
  go_wp2_with fail
  refine hn.mono ?_
  clear hn
  rintro e w5 ⟨rfl, b5⟩
  have hB := (Blk.new w4 24 #[.int .i64 9, .int .i64 2, .int .i64 1, .int .i64 5, .int .i64 0, .int .i64 0, .slice A2 2 c2]).below b5
  have k3 : w5.cell? ⟨w4.heap.size, 3, none⟩ = some (.int .i64 5) := by rw [hB.cell] <;> rfl
  have k4 : w5.cell? ⟨w4.heap.size, 4, none⟩ = some (.int .i64 0) := by rw [hB.cell] <;> rfl
  have k6 : w5.cell? ⟨w4.heap.size, 6, none⟩ = some (.slice A2 2 c2) := by rw [hB.cell] <;> rfl
  have hs := str_rd (n := 2) (c := c2) ((o2.rd'.below n3).below b5) rfl
  have hk := fun W => Check_any ⟨1, 0, 1, 0, 0, 0, []⟩ none 0 W
  rw [may7] at hk
  have b6 := b3.thenB' b5
  clear n3 o2 b2 bb b3
  go_wp2_with fail
  refine (hk _).mono ?_
  rintro e w6 ⟨rfl, b7⟩
  go_wp2_with fail
  go_ret
  exact ⟨rfl, b6.thenB' b7⟩
end Go.Proofs.YthpmmnpjdpgamaaDoor
