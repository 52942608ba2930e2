import Derived.Test.YtmifmnpbkdjbaaaObj5
namespace Go.Proofs.Ytmifmnpbkdjbaaa
open Go.RowKit
set_option linter.unusedVariables false

theorem lastN_min (m : List Int) : lastN (gN m) (min m.length 512) = lastN (gN m) 512 := (lastN_far _ _ (Nat.min_le_right _ _) fun k hk => gN_far m k (by omega)).symm

set_option maxRecDepth 100000 in
theorem rRow_any (D : Nat → Prop) (A : Option Addr) (c : Nat) (m : List Int) (w : World) (h : RdI w D A m) (hc : m.length ≤ c) (hm : c ≤ 9223372036854775807) :
    Calls Try.prog 36 #[.slice A m.length c] w fun e w' => ∃ v, e = .returned v ∧ OwnI w' w.heap.size v (rowO m) ∧ Below w.heap.size w w' := by
  have hd : RdI w (fun b => D b ∧ b < w.heap.size) A m := Rd.imp h (fun b h1 h2 => ⟨h2, h1⟩) (by decide)
  have HM := Lib.hid (lastN_min m)
  go_enter Try.func36, Try.ntmps36
  go_wp2_with fail
  go_loopw [3, 4] (fun n i wr => ∃ j : Nat, j ≤ min m.length 512 ∧ i = .int .i64 (j : Int) ∧ n = .int .i64 (lastN (gN m) j : Nat) ∧ w = wr) (fun _ i _ => 512 - (intOf i).toNat)
  case atStart => exact ⟨0, Nat.zero_le _, rfl, rfl, rfl⟩
  case round =>
    obtain ⟨j, hj, rfl, rfl, rfl⟩ := hrel
    by_cases h1 : j < m.length ∧ j < 512
    · obtain ⟨h2, h3⟩ := h1
      have hcall := rGet_any _ A c m j w h
      rw [gO_nat] at hcall
      by_cases hz : gN m j = 0
      · have e : lastN (gN m) (j + 1) = lastN (gN m) j := by rw [lastN, if_pos hz]
        rw [hz] at hcall
        have HE := Lib.hid e
        generalize lastN (gN m) j = q at *
        clear e hz
        go_wp2_with fail
        with_reducible refine hcall.mono ?_
        rintro e w3 ⟨rfl, rfl⟩
        go_wp2_with fail
        go_roundw
        case rel => exact ⟨j + 1, by omega, by go_num, by rw [HE.out], trivial⟩
        case measure => simp [intOf] <;> omega
      · have e : lastN (gN m) (j + 1) = j + 1 := by rw [lastN, if_neg hz]
        have hzb : (gN m j != 0) = true := by simp [hz]
        have HE := Lib.hid e
        generalize lastN (gN m) j = q at *
        generalize gN m j = z at *
        clear e hz
        go_wp2_with fail
        with_reducible refine hcall.mono ?_
        rintro e w3 ⟨rfl, rfl⟩
        go_wp2_with fail
        go_roundw
        case rel => exact ⟨j + 1, by omega, by go_num, by rw [HE.out]; go_num, trivial⟩
        case measure => simp [intOf] <;> omega
    · obtain rfl : j = min m.length 512 := by omega
      rw [HM.out]
      have hN : lastN (gN m) 512 ≤ 512 := lastN_le _ _
      have HR : Hid (rowO m = (List.range (lastN (gN m) 512)).map (gN m)) := rfl
      generalize lastN (gN m) 512 = N at *
      by_cases h2 : min m.length 512 < m.length
      focus
        have h3 : ¬ min m.length 512 < 512 := by omega
      all_goals
        generalize min m.length 512 = j0 at *
        go_wp2_with fail
        go_loopw [5, 6] (fun b i wr => ∃ j : Nat, j ≤ N ∧ i = .int .i64 (j : Int) ∧ OwnI wr w.heap.size b ((List.range j).map (gN m)) ∧ Below w.heap.size w wr) (fun _ i _ => N - (intOf i).toNat)
        case atStart => exact ⟨0, Nat.zero_le _, rfl, OwnI.nil, Below.refl _ _⟩
        case round =>
          obtain ⟨j, hj, rfl, hown, bb⟩ := hrel
          by_cases h4 : j < N
          · have hcall := rGet_any _ A c m j wr (Rd.belowB hd bb (fun _ h => h.2))
            rw [gO_nat] at hcall
            have e : (List.range (j + 1)).map (gN m) = (List.range j).map (gN m) ++ [gN m j] := by rw [List.range_succ, List.map_append]; rfl
            have HE := Lib.hid e
            have hll : ((List.range j).map (gN m)).length = j := by simp
            have HL := Lib.hid hll
            clear e hll
            generalize (List.range j).map (gN m) = xs at *
            generalize gN m j = z at *
            go_wp2_with fail
            with_reducible refine hcall.mono ?_
            rintro e w3 ⟨rfl, rfl⟩
            go_wp2_with (at_builtin; refine wpList_appI rfl (.tmp 28) (.tmp 32) rfl w.heap.size _ xs rfl (OwnI.below hown (below_new _ _)) _ (some ⟨wr.heap.size, 0, none⟩) 1 1 [z] rfl rfl (rd_newI wr z) (by have := HL.out; unfold big; simp only [List.length_cons, List.length_nil]; omega) (Nat.le_trans bb.size (below_new wr _).size) ?_; intro v' w' h1 h2)
            have b2 := (bb.thenB' (below_new wr _)).trans (h2.below (OwnI.below hown (below_new wr _)) (Nat.le_refl _) (Nat.le_trans bb.size (below_new wr _).size))
            go_roundw
            case rel => exact ⟨j + 1, by omega, by go_num, by rw [HE.out]; exact h1, b2⟩
            case measure => simp [intOf] <;> omega
          · obtain rfl : j = N := by omega
            rw [← HR.out] at hown
            go_wp2_with fail
            go_ret
            exact ⟨_, rfl, hown, bb⟩
end Go.Proofs.Ytmifmnpbkdjbaaa
