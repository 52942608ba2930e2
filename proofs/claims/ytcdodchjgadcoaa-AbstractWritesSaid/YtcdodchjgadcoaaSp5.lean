/- The document's Has and Same, put. -/
import Derived.Test.YtcdodchjgadcoaaSp4
namespace Go.Proofs.Ytcdodchjgadcoaa
open Go.RowKit
set_option linter.unusedVariables false

theorem has_take (L : List Sp) (n : Int) (j : Nat) (h : j < L.length) : hasS (L.take (j + 1)) n = (hasS (L.take j) n || hasS [L[j]] n) := by
  rw [List.take_succ_eq_append_getElem h, has_append]
theorem has_one_no (s : Sp) (n : Int) (h : ¬ ((0 ≤ n ∧ n < 1099511627776) ∧ s.1 ≤ n ∧ n < s.2)) : hasS [s] n = false := by
  refine has_false.2 fun ⟨h1, x, hx, h2⟩ => ?_
  obtain rfl : x = s := by simpa using hx
  exact h ⟨h1, h2⟩

set_option maxHeartbeats 1000000 in
set_option maxRecDepth 100000 in
theorem rHas_any (D : Nat → Prop) (A : Option Addr) (c : Nat) (L : List Sp) (n : Int) (w : World) (h : RdSp w D A L) (hl : L.length ≤ 1000000) :
    Calls Try.prog 38 #[.slice A L.length c, .int .i64 n] w fun e w' => e = .returned (.bool (hasS L n)) ∧ w = w' := by
  go_enter Try.func38, Try.ntmps38
  go_wp2_with fail
  go_loopw [5] (fun i wr => ∃ j : Nat, j ≤ L.length ∧ i = .int .i64 (j : Int) ∧ hasS (L.take j) n = false ∧ w = wr) (fun i _ => L.length - (intOf i).toNat)
  case atStart => exact ⟨0, Nat.zero_le _, rfl, has_nil n, rfl⟩
  case round =>
    obtain ⟨j, hj, rfl, hp, rfl⟩ := hrel
    have HP := Lib.hid hp
    clear hp
    by_cases hlt : j < L.length
    · obtain ⟨ad, rfl, d0, d1⟩ := h.at_ hlt
      have HT : Hid (¬ ((0 ≤ n ∧ n < 1099511627776) ∧ L[j].1 ≤ n ∧ n < L[j].2) → hasS (L.take (j + 1)) n = false) := fun hb => by
        rw [has_take _ _ _ hlt, HP.out, has_one_no _ _ hb]; rfl
      have HA : Hid ((0 ≤ n ∧ n < 1099511627776) ∧ L[j].1 ≤ n ∧ n < L[j].2 → hasS L n = true) := fun hb => has_true.2 ⟨hb.1, _, List.getElem_mem hlt, hb.2⟩
      generalize L[j].1 = x at *
      generalize L[j].2 = y at *
      by_cases h1 : 0 ≤ n
      · by_cases h2 : n < 1099511627776
        · by_cases h3 : x ≤ n
          · by_cases h4 : n < y
            · have HN := Lib.hid (HA.out ⟨⟨h1, h2⟩, h3, h4⟩)
              clear HT HA
              go_wp2_with fail
              go_ret
              exact ⟨by rw [HN.out] <;> rfl, rfl⟩
            · have HN := Lib.hid (HT.out fun hb => h4 hb.2.2)
              clear HT HA
              go_wp2_with fail
              go_roundw
              case rel => exact ⟨j + 1, by omega, by go_num, HN.out, trivial⟩
              case measure => simp [intOf] <;> omega
          · have HN := Lib.hid (HT.out fun hb => h3 hb.2.1)
            clear HT HA
            go_wp2_with fail
            go_roundw
            case rel => exact ⟨j + 1, by omega, by go_num, HN.out, trivial⟩
            case measure => simp [intOf] <;> omega
        · have HN := Lib.hid (HT.out fun hb => h2 hb.1.2)
          clear HT HA
          go_wp2_with fail
          go_roundw
          case rel => exact ⟨j + 1, by omega, by go_num, HN.out, trivial⟩
          case measure => simp [intOf] <;> omega
      · have HN := Lib.hid (HT.out fun hb => h1 hb.1.1)
        clear HT HA
        go_wp2_with fail
        go_roundw
        case rel => exact ⟨j + 1, by omega, by go_num, HN.out, trivial⟩
        case measure => simp [intOf] <;> omega
    · obtain rfl : j = L.length := by omega
      have hp := HP.out
      rw [List.take_of_length_le (Nat.le_refl _)] at hp
      have HN := Lib.hid hp
      clear hp
      go_wp2_with fail
      go_ret
      exact ⟨by rw [HN.out] <;> rfl, rfl⟩
end Go.Proofs.Ytcdodchjgadcoaa
