import Derived.Test.YtfgknbfghfgbjaaDoorLaws
import Derived.Test.YtfgknbfghfgbjaaDoorCan
namespace Go.Proofs.YtfgknbfghfgbjaaDoor
open Go.RowKit
set_option linter.unusedVariables false

theorem Ints_any (D D' : Nat → Prop) (A A' : Option Addr) (c c' : Nat) (xs ys : List Int) {w : World} (h : RdI w D A xs) (h' : RdI w D' A' ys) (hm : xs.length ≤ big) (hm' : ys.length ≤ big) :
    Calls Tryd.prog 16 #[.slice A xs.length c, .slice A' ys.length c'] w fun e w' => e = .returned (.bool (decide (xs = ys))) ∧ ∃ n, w' = w.drewN n := by
  have hm1 : xs.length ≤ 9223372036854775807 := by unfold big at hm; omega
  have hm2 : ys.length ≤ 9223372036854775807 := by unfold big at hm'; omega
  clear hm hm'
  by_cases hl : xs.length = ys.length
  · have hl2 : (((xs.length : Nat) : Int) != ((ys.length : Nat) : Int)) = false := by simp [hl]
    have HL := Lib.hid hl
    clear hl
    go_enter Tryd.func16, Tryd.ntmps16
    go_wp2
    go_loopw [5] (fun i wr => ∃ k : Nat, k ≤ xs.length ∧ i = .int .i64 k ∧ xs.take k = ys.take k ∧ ∃ n, wr = w.drewN n) (fun i _ => xs.length - (intOf i).toNat)
    case atStart => exact ⟨0, Nat.zero_le _, rfl, rfl, 0, rfl⟩
    case round =>
      obtain ⟨k, hk, rfl, hp, n, rfl⟩ := hrel
      have HP := Lib.hid hp
      clear hp
      by_cases hlt : k < xs.length
      · obtain ⟨ad, rfl, _, hc⟩ := h.at_ hlt
        have hlt' : k < ys.length := by have := HL.out; omega
        obtain ⟨ad', rfl, _, hc'⟩ := h'.at_ hlt'
        by_cases he : xs[k] = ys[k]
        · have hb : (xs[k] != ys[k]) = false := by simp [he]
          have HE := Lib.hid he
          clear he
          go_wp2
          go_quiet (fail)
          go_wp2
          go_roundw
          case rel => exact ⟨k + 1, by omega, by go_num, by rw [List.take_succ_eq_append_getElem hlt, List.take_succ_eq_append_getElem hlt', HP.out, HE.out], n + nq, rfl⟩
          case measure => simp [intOf]; omega
        · have hb : (xs[k] != ys[k]) = true := by simp [he]
          have hne : Hid (decide (xs = ys) = false) := by
            unfold Hid
            rw [decide_eq_false_iff_not]
            intro e
            apply he
            simp only [e]
          clear he
          go_wp2
          go_quiet (fail)
          go_wp2
          go_ret
          exact ⟨by rw [hne.out]; rfl, n + nq, by simp⟩
      · go_wp2
        go_ret
        have hd : decide (xs = ys) = true := by
          rw [decide_eq_true_iff]
          have h1 := HP.out
          rw [List.take_of_length_le (by omega), List.take_of_length_le (by have := HL.out; omega)] at h1
          exact h1
        exact ⟨by rw [hd]; rfl, n, rfl⟩
  · have hl2 : (((xs.length : Nat) : Int) != ((ys.length : Nat) : Int)) = true := by simp; omega
    have hd : Hid (decide (xs = ys) = false) := by
      unfold Hid
      rw [decide_eq_false_iff_not]
      intro e
      exact hl (by rw [e])
    clear hl
    go_enter Tryd.func16, Tryd.ntmps16
    go_wp2
    go_ret
    exact ⟨by rw [hd.out]; rfl, 0, rfl⟩
theorem Ints_yes (D D' : Nat → Prop) (A A' : Option Addr) (n c c' : Nat) (xs : List Int) {w : World} (hn : n = xs.length) (h : RdI w D A xs) (h' : RdI w D' A' xs) (hm : xs.length ≤ big) :
    Calls Tryd.prog 16 #[.slice A n c, .slice A' n c'] w fun e w' => e = .returned (.bool true) ∧ Below w.heap.size w w' := by
  subst hn
  exact (Ints_any D D' A A' c c' xs xs h h' hm hm).mono fun e w' ⟨he, n, hw⟩ => by
    subst hw
    exact ⟨by rw [he]; simp, below_drewN (Below.refl _ _) n⟩
end Go.Proofs.YtfgknbfghfgbjaaDoor
