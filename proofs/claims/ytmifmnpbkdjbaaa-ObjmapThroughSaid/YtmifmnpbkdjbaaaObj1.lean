import Derived.Test.YtmifmnpbkdjbaaaInts
import Derived.Test.YtmifmnpbkdjbaaaOSpec
namespace Go.Proofs.Ytmifmnpbkdjbaaa
open Go.RowKit
set_option linter.unusedVariables false

theorem right_any (z : Int) (w : World) : Calls Try.prog 31 #[.int .i64 z] w fun e w' => e = .returned (.bool (okO z)) ∧ w = w' := by
  by_cases h1 : 0 ≤ z
  · go_enter Try.func31, Try.ntmps31
    go_wp2_with fail
    go_ret
    exact ⟨by simp [okO, h1], rfl⟩
  · go_enter Try.func31, Try.ntmps31
    go_wp2_with fail
    go_ret
    have : okO z = false := by unfold okO; rw [decide_eq_false_iff_not]; omega
    exact ⟨by rw [this]; rfl, rfl⟩

theorem gO_nat (m : List Int) (k : Nat) : gO m (k : Int) = gN m k := by unfold gO; rw [if_neg (by omega), Int.toNat_natCast]

theorem Get_any (D : Nat → Prop) (A : Option Addr) (c : Nat) (m : List Int) (i : Int) (w : World) (h : RdI w D A m) :
    Calls Try.prog 13 #[.slice A m.length c, .int .i64 i] w fun e w' => e = .returned (.int .i64 (gO m i)) ∧ w = w' := by
  by_cases h1 : i < 0
  · have e : Hid (gO m i = 0) := by unfold Hid gO; rw [if_pos h1]
    go_enter Try.func13, Try.ntmps13
    go_wp2_with fail
    go_ret
    exact ⟨by rw [e.out]; rfl, rfl⟩
  · obtain ⟨k, rfl⟩ : ∃ k : Nat, i = (k : Int) := ⟨i.toNat, by omega⟩
    rw [gO_nat]
    by_cases h2 : k < m.length ∧ k < 512
    · obtain ⟨ad, rfl, _, hc⟩ := h.at_ h2.1
      have hz := getD_at m k h2.1
      have h3 : ¬ (min (m.length : Int) 512 ≤ (k : Int)) := by omega
      have e : Hid (gN m k = if okO m[k] then m[k] else 0) := by
        unfold Hid gN okO
        rw [hz]
        by_cases h : 0 ≤ m[k] ∧ m[k] ≤ 2
        · rw [if_pos ⟨h2.2, h⟩]; simp [h]
        · rw [if_neg (fun h' => h h'.2)]; simp only [h, decide_false]; rfl
      have h21 := h2.1
      generalize m[k] = z at *
      clear hz
      cases hb : okO z
      all_goals
        rw [hb] at e
        have hcall : ∀ W, Calls Try.prog 31 #[.int .i64 z] W fun e w' => e = .returned (.bool _) ∧ W = w' := fun W => by have := right_any z W; rw [hb] at this; exact this
        clear hb
        go_enter Try.func13, Try.ntmps13
        go_wp2_with fail
        with_reducible refine (hcall w).mono ?_
        rintro e' w1 ⟨rfl, rfl⟩
        go_wp2_with fail
        go_ret
        exact ⟨by rw [e.out]; rfl, rfl⟩
    · have e : Hid (gN m k = 0) := gN_far m k (by omega)
      have h3 : min (m.length : Int) 512 ≤ (k : Int) := by omega
      go_enter Try.func13, Try.ntmps13
      go_wp2_with fail
      go_ret
      exact ⟨by rw [e.out]; rfl, rfl⟩

set_option maxRecDepth 100000 in
theorem rGet_any (D : Nat → Prop) (A : Option Addr) (c : Nat) (m : List Int) (i : Int) (w : World) (h : RdI w D A m) :
    Calls Try.prog 14 #[.slice A m.length c, .int .i64 i] w fun e w' => e = .returned (.int .i64 (gO m i)) ∧ w = w' := by
  by_cases h1 : i < 0
  · have e : Hid (gO m i = 0) := by unfold Hid gO; rw [if_pos h1]
    go_enter Try.func14, Try.ntmps14
    go_wp2_with fail
    go_ret
    exact ⟨by rw [e.out]; rfl, rfl⟩
  · obtain ⟨k, rfl⟩ : ∃ k : Nat, i = (k : Int) := ⟨i.toNat, by omega⟩
    rw [gO_nat]
    by_cases h2 : k < m.length ∧ k < 512
    · obtain ⟨ad, rfl, _, hc⟩ := h.at_ h2.1
      have hz := getD_at m k h2.1
      have h22 := h2.2
      have e : Hid (gN m k = if 0 ≤ m[k] ∧ m[k] ≤ 2 then m[k] else 0) := by
        unfold Hid gN
        rw [hz]
        by_cases h : 0 ≤ m[k] ∧ m[k] ≤ 2
        · rw [if_pos ⟨h2.2, h⟩, if_pos h]
        · rw [if_neg (fun h' => h h'.2), if_neg h]
      have h21 := h2.1
      generalize m[k] = z at *
      clear hz
      by_cases z1 : z < 0
      · go_enter Try.func14, Try.ntmps14
        go_wp2_with fail
        go_ret
        exact ⟨by rw [e.out, if_neg (by omega)]; rfl, rfl⟩
      · by_cases z2 : 2 < z
        · go_enter Try.func14, Try.ntmps14
          go_wp2_with fail
          go_ret
          exact ⟨by rw [e.out, if_neg (by omega)]; rfl, rfl⟩
        · go_enter Try.func14, Try.ntmps14
          go_wp2_with fail
          go_ret
          exact ⟨by rw [e.out, if_pos (by omega)]; rfl, rfl⟩
    · have e : Hid (gN m k = 0) := gN_far m k (by omega)
      by_cases h3 : m.length ≤ k
      · go_enter Try.func14, Try.ntmps14
        go_wp2_with fail
        go_ret
        exact ⟨by rw [e.out]; rfl, rfl⟩
      · have h4 : 512 ≤ k := by omega
        go_enter Try.func14, Try.ntmps14
        go_wp2_with fail
        go_ret
        exact ⟨by rw [e.out]; rfl, rfl⟩
end Go.Proofs.Ytmifmnpbkdjbaaa
