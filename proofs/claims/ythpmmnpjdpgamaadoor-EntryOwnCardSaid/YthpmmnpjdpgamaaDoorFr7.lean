/- Equal. -/
import Derived.Test.YthpmmnpjdpgamaaDoorFr6
namespace Go.Proofs.YthpmmnpjdpgamaaDoor
open Go.RowKit
set_option linter.unusedVariables false

theorem Equal_any (D D' : Nat → Prop) (A A' : Option Addr) (c c' : Nat) (xs ys : List UInt8) (w : World) (h : RdB w D A xs) (h' : RdB w D' A' ys) (hm1 : xs.length ≤ 9223372036854775807) (hm2 : ys.length ≤ 9223372036854775807) :
    Calls Tryd.prog 62 #[.slice A xs.length c, .slice A' ys.length c'] w fun e w' => e = .returned (.bool (decide (xs = ys))) ∧ Below w.heap.size w w' := by
  by_cases hl : xs.length = ys.length
  · have hl2 : (((xs.length : Nat) : Int) != ((ys.length : Nat) : Int)) = false := by simp [hl]
    have HL := Lib.hid hl
    clear hl
    go_enter Tryd.func62, Tryd.ntmps62
    go_wp2
    go_loopw [5, 13] (fun i5 i wr => ∃ k : Nat, k ≤ xs.length ∧ i = .int .i64 k ∧ xs.take k = ys.take k ∧ ∃ n, wr = w.drewN n) (fun _ i _ => xs.length - (intOf i).toNat)
    case atStart => exact ⟨0, Nat.zero_le _, rfl, rfl, 0, rfl⟩
    case round =>
      obtain ⟨k, hk, rfl, hp, n, rfl⟩ := hrel
      have HP := Lib.hid hp
      clear hp
      by_cases hlt : k < xs.length
      · obtain ⟨ad, rfl, _, hc⟩ := h.at_ hlt
        have hlt' : k < ys.length := by have := HL.out; omega
        obtain ⟨ad', rfl, _, hc'⟩ := h'.at_ hlt'
        by_cases he : xs[k] = ys[k]
        · have hb : ((xs[k].toNat : Int) != (ys[k].toNat : Int)) = false := by simp [he]
          have HE := Lib.hid he
          clear he
          go_wp2
          go_quiet (fail)
          go_wp2
          go_roundw
          case rel => exact ⟨k + 1, by omega, by go_num, by rw [List.take_succ_eq_append_getElem hlt, List.take_succ_eq_append_getElem hlt', HP.out, HE.out], n + nq, rfl⟩
          case measure => simp [intOf]; omega
        · have hb : ((xs[k].toNat : Int) != (ys[k].toNat : Int)) = true := by
            have : xs[k].toNat ≠ ys[k].toNat := fun e => he (UInt8.toNat_inj.1 e)
            simp; omega
          have hne : Hid (decide (xs = ys) = false) := by
            unfold Hid
            rw [decide_eq_false_iff_not]
            intro e
            apply he
            simp only [e]
          clear he
          go_wp2
          go_quiet (fail)
          go_wp2
          go_ret
          exact ⟨by rw [hne.out]; rfl, by simpa using below_drewN (Below.refl _ _) _⟩
      · go_wp2
        go_ret
        have hd : decide (xs = ys) = true := by
          rw [decide_eq_true_iff]
          have h1 := HP.out
          rw [List.take_of_length_le (by omega), List.take_of_length_le (by have := HL.out; omega)] at h1
          exact h1
        exact ⟨by rw [hd]; rfl, below_drewN (Below.refl _ _) _⟩
  · have hl2 : (((xs.length : Nat) : Int) != ((ys.length : Nat) : Int)) = true := by simp; omega
    have hd : Hid (decide (xs = ys) = false) := by
      unfold Hid
      rw [decide_eq_false_iff_not]
      intro e
      exact hl (by rw [e])
    clear hl
    go_enter Tryd.func62, Tryd.ntmps62
    go_wp2
    go_ret
    exact ⟨by rw [hd.out]; rfl, Below.refl _ _⟩
end Go.Proofs.YthpmmnpjdpgamaaDoor
