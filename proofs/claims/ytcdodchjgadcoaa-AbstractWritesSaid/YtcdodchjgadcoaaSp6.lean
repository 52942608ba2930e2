/- The document's Same. -/
import Derived.Test.YtcdodchjgadcoaaSp5
import Derived.BigQuiet
namespace Go.Proofs.Ytcdodchjgadcoaa
open Go.RowKit
set_option linter.unusedVariables false

theorem take_same {L M : List Sp} {j : Nat} (h1 : j < L.length) (h2 : j < M.length) (h : L.take j = M.take j) (e : L[j] = M[j]) : L.take (j + 1) = M.take (j + 1) := by
  rw [List.take_succ_eq_append_getElem h1, List.take_succ_eq_append_getElem h2, h, e]

theorem bqN (w : World) (n : Nat) : Below w.heap.size w (w.drewN n) := ⟨rfl, rfl, rfl, Nat.le_refl _, fun _ _ => rfl⟩
set_option maxHeartbeats 1000000 in
set_option maxRecDepth 100000 in
theorem rSame_any (D D' : Nat → Prop) (A A' : Option Addr) (c c' : Nat) (L M : List Sp) (w : World) (h : RdSp w D A L) (h' : RdSp w D' A' M) (hl : L.length ≤ 1000000) :
    Calls Try.prog 16 #[.slice A L.length c, .slice A' M.length c'] w fun e w' => e = .returned (.bool (decide (L = M))) ∧ Below w.heap.size w w' := by
  by_cases hn : L.length = M.length
  · have hl2 : (((L.length : Nat) : Int) != ((M.length : Nat) : Int)) = false := by simp; omega
    have HL := Lib.hid hn
    clear hn
    go_enter Try.func16, Try.ntmps16
    go_wp2_with fail
    go_loopw [5] (fun i wr => ∃ j : Nat, j ≤ L.length ∧ i = .int .i64 (j : Int) ∧ L.take j = M.take j ∧ ∃ n, wr = w.drewN n) (fun i _ => L.length - (intOf i).toNat)
    case atStart => exact ⟨0, Nat.zero_le _, rfl, rfl, 0, rfl⟩
    case round =>
      obtain ⟨j, hj, rfl, hp, n, rfl⟩ := hrel
      have HP := Lib.hid hp
      clear hp
      by_cases hlt : j < L.length
      · have hlt2 : j < M.length := by have := HL.out; omega
        obtain ⟨ad, rfl, d0, d1⟩ := h.at_ hlt
        obtain ⟨ad', rfl, d0', d1'⟩ := h'.at_ hlt2
        have HT : Hid (L[j] = M[j] → L.take (j + 1) = M.take (j + 1)) := fun e => take_same hlt hlt2 HP.out e
        have HA : Hid (L[j] ≠ M[j] → decide (L = M) = false) := fun hb => decide_eq_false fun e => by subst e; exact hb rfl
        generalize L[j] = s at *
        generalize M[j] = t at *
        obtain ⟨s1, s2⟩ := s
        obtain ⟨t1, t2⟩ := t
        dsimp only at d0 d1 d0' d1'
        by_cases he1 : s1 = t1
        · subst he1
          by_cases he2 : s2 = t2
          · subst he2
            have HN := Lib.hid (HT.out rfl)
            clear HT HA
            go_wp2_with fail
            go_quiet (fail)
            go_wp2_with fail
            go_roundw
            case rel => exact ⟨j + 1, by omega, by go_num, HN.out, n + nq, rfl⟩
            case measure => simp [intOf] <;> omega
          · have HN := Lib.hid (HA.out fun e => he2 (by injection e))
            clear HT HA
            have hb : (s2 == t2) = false := by simp [he2]
            go_wp2_with fail
            go_quiet (fail)
            go_wp2_with fail
            go_ret
            exact ⟨by rw [HN.out] <;> rfl, below_drewN (bqN w n) _⟩
        · have HN := Lib.hid (HA.out fun e => he1 (by injection e))
          clear HT HA
          have hb : (s1 == t1) = false := by simp [he1]
          go_wp2_with fail
          go_quiet (fail)
          go_wp2_with fail
          go_ret
          exact ⟨by rw [HN.out] <;> rfl, below_drewN (bqN w n) _⟩
      · obtain rfl : j = L.length := by omega
        have hp := HP.out
        rw [List.take_of_length_le (Nat.le_refl _), List.take_of_length_le (by have := HL.out; omega)] at hp
        have HN := Lib.hid (decide_eq_true hp)
        clear hp
        go_wp2_with fail
        go_ret
        exact ⟨by rw [HN.out] <;> rfl, bqN w _⟩
  · have hne : decide (L = M) = false := decide_eq_false fun e => hn (by rw [e])
    have hl2 : (((L.length : Nat) : Int) != ((M.length : Nat) : Int)) = true := by simp; omega
    rw [hne]
    go_enter Try.func16, Try.ntmps16
    go_wp2_with fail
    go_ret
    exact ⟨rfl, Below.refl _ _⟩
end Go.Proofs.Ytcdodchjgadcoaa
