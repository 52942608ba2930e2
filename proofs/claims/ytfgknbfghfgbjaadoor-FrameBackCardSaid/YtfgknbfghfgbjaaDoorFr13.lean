/- The law package's awake. -/
import Derived.Test.YtfgknbfghfgbjaaDoorFr12
import Derived.Lib.SlBytesConst
namespace Go.Proofs.YtfgknbfghfgbjaaDoor
open Go.RowKit
set_option linter.unusedVariables false

theorem rd_mark (w : World) (bs : List UInt8) (cs : Array Value) (m : Nat × Nat) (hcs : cs = (bs.map cB).toArray) : RdB (w.alloc (.cells cs 5 m)) (fun _ => True) (some ⟨w.heap.size, 0, none⟩) bs := by
  refine ⟨by simp, fun _ => ⟨_, rfl, trivial, fun j u hj => ?_⟩⟩
  rw [add_head, cell_of_row _ w.heap.size j cs 5 m (heap_alloc_new w _), hcs]
  simpa using hj
def f3 : List UInt8 := frameO 3 []
theorem f3_len : f3.length = 12 := frameO_len 3 []
theorem make3 : makeO 3 [] = (f3, 0) := rfl
theorem next3 : (nextO (f3 ++ [1, 2])).k = 3 ∧ (nextO (f3 ++ [1, 2])).body = [] ∧ (nextO (f3 ++ [1, 2])).rest = [1, 2] ∧ (nextO (f3 ++ [1, 2])).e = 0 := by decide +kernel
theorem whole3 : (wholeO f3).length = 1 := by decide +kernel
def nine : List UInt8 := [49, 50, 51, 52, 53, 54, 55, 56, 57]
theorem sum9 : ((sumO nine).toNat : Int) = 3808858755 := by decide +kernel

set_option maxHeartbeats 2000000 in
set_option maxRecDepth 100000 in
theorem awake_any (w : World) (ht : Tab w) : Calls Tryd.prog 9 #[] w fun e w' => e = .returned (.bool true) ∧ Below w.heap.size w w' := by
  go_enter Tryd.func9, Tryd.ntmps9
  go_wp2_with fail
  have hm := Make_any (fun _ => True) none 0 3 [] w RdB.nil (by simp) ht
  rw [make3] at hm
  have hm : Calls Tryd.prog 10 #[.int .i64 3, .slice none 0 0] w fun e w' => ∃ v, e = .returned (.tuple #[v, .int .i64 0]) ∧ OwnB w' w.heap.size v f3 ∧ Below w.heap.size w w' := hm
  refine hm.mono ?_
  clear hm
  rintro e w1 ⟨v1, rfl, o1, b1⟩
  have ht1 := ht.below b1
  obtain ⟨A1, n1, c1, rfl, e1, hc1, hm1⟩ := OwnB.form' o1
  obtain rfl : n1 = 12 := e1.out.trans f3_len
  have r1 := o1.rd'
  have hl12 : ([] : List UInt8).length + f3.length ≤ big := by rw [f3_len]; unfold big; simp
  have hl14 : ([] ++ f3 : List UInt8).length + ([1, 2] : List UInt8).length ≤ big := by rw [List.nil_append, f3_len]; unfold big; simp
  have oE := litB w1 [] 0 #[] rfl rfl (by unfold big; simp)
  have nE := below_new w1 (.cells #[] 5)
  have hr1 := r1.below nE
  go_wp2_with first
    | (at_builtin; refine wpList_appB rfl (.tmp 12) (.tmp 13) rfl w1.heap.size _ [] rfl oE _ A1 12 c1 f3 rfl e1.out hr1 hl12 nE.size ?_; intro v2 w2 h2 x2
       have b2 := nE.trans (x2.below oE (Nat.le_refl _) nE.size)
       have nL := below_new w2 (.cells #[.int .u8 1, .int .u8 2] 5)
       have oL := litB w2 [1, 2] 2 #[.int .u8 1, .int .u8 2] rfl rfl (by unfold big; simp)
       have rL := oL.rd'
       have h2 := OwnB.below h2 nL
       have b2 := b2.thenB' nL)
    | (at_builtin; refine wpList_appB rfl (.tmp 14) (.tmp 15) rfl w1.heap.size _ ([] ++ f3) rfl h2 _ (some ⟨w2.heap.size, 0, none⟩) 2 2 [1, 2] rfl rfl rL hl14 b2.size ?_; intro v3 w3 h3 x3)
  have b3 := b2.trans (x3.below h2 (Nat.le_refl _) b2.size)
  rw [List.nil_append] at h3
  obtain ⟨A3, n3, c3, rfl, e3, hc3, hm3⟩ := OwnB.form' h3
  have ht3 := ht1.below b3
  have r1 := r1.below b3
  have hl3 : (f3 ++ [1, 2]).length = 14 := by rw [List.length_append, f3_len]; rfl
  have hn := Next_any _ A3 c3 (f3 ++ [1, 2]) w3 h3.rd' (by omega) (by rw [← e3.out]; exact hc3) hm3 ht3
  obtain ⟨k1, k2, k3, k4⟩ := next3
  rw [← e3.out, k1, k2, k3, k4] at hn
  clear oE nE hr1 hl12 hl14 h2 rL oL nL b2 x2 x3 k1 k2 k3 k4 hl3
  refine hn.mono ?_
  clear hn
  rintro e w4 ⟨v4, v5, rfl, o4, o5, b4⟩
  obtain ⟨A4, n4, c4, rfl, e4, _, _⟩ := OwnB.form' o4
  obtain rfl : n4 = 0 := e4.out
  obtain ⟨A5, n5, c5, rfl, e5, _, _⟩ := OwnB.form' o5
  obtain rfl : n5 = 2 := e5.out
  have ht4 := ht3.below b4
  have r1 := r1.below b4
  have bb := b1.thenB' (b3.thenB' b4)
  have nN := below_new w4 (.cells #[.int .u8 49, .int .u8 50, .int .u8 51, .int .u8 52, .int .u8 53, .int .u8 54, .int .u8 55, .int .u8 56, .int .u8 57] 5 (9, 10))
  have oN := rd_mark w4 nine #[.int .u8 49, .int .u8 50, .int .u8 51, .int .u8 52, .int .u8 53, .int .u8 54, .int .u8 55, .int .u8 56, .int .u8 57] (9, 10) rfl
  have hcv : (convert 22 22 (.slice (some ⟨w4.heap.size, 0, none⟩) 9 9)).run Tryd.prog (w4.alloc (.cells #[.int .u8 49, .int .u8 50, .int .u8 51, .int .u8 52, .int .u8 53, .int .u8 54, .int .u8 55, .int .u8 56, .int .u8 57] 5)) = .ok (.slice (some ⟨w4.heap.size, 0, none⟩) 9 9) (w4.alloc (.cells #[.int .u8 49, .int .u8 50, .int .u8 51, .int .u8 52, .int .u8 53, .int .u8 54, .int .u8 55, .int .u8 56, .int .u8 57] 5 (9, 10))) := Lib.run_convert_bytes_const w4 22 5 _ 9 9 Tryd.underlying22 Tryd.underlying5
  have r1 := r1.below nN
  have ht5 := ht4.below nN
  have bb := bb.thenB' nN
  have hs := Sum_any _ (some ⟨w4.heap.size, 0, none⟩) 9 nine _ oN (by show 9 ≤ _; omega) ht5
  rw [sum9] at hs
  have hw := Whole_any _ A1 c1 f3 _ r1 (by rw [f3_len]; omega) (by rw [← e1.out]; exact hc1) hm1 ht5
  rw [f3_len] at hw
  have hs : Calls Tryd.prog 12 #[.slice (some ⟨w4.heap.size, 0, none⟩) 9 9] _ _ := hs
  clear oN nN
  go_wp2_with fail
  refine hs.mono ?_
  clear hs
  rintro e w6 ⟨rfl, rfl⟩
  go_wp2_with fail
  refine hw.mono ?_
  clear hw
  rintro e w7 ⟨v7, rfl, o7, b7⟩
  obtain ⟨A7, c7, rfl, _, _⟩ := own_form o7
  rw [whole3]
  have bb := bb.thenB' b7
  go_wp2_with fail
  go_ret
  exact ⟨rfl, bb⟩
end Go.Proofs.YtfgknbfghfgbjaaDoor
