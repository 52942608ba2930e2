/- Entries: whether one may be: the code's Check, the document's May. -/
import Derived.Test.YtcdodchjgadcoaaAb8
namespace Go.Proofs.Ytcdodchjgadcoaa
open Go.RowKit
set_option linter.unusedVariables false
set_option maxRecDepth 100000

/-- An entry. -/
structure E7 where
  seq : Int
  owner : Int
  kind : Int
  off : Int
  len : Int
  snap : Int
  data : List UInt8
def enA (e : E7) (A : Option Addr) (c : Nat) : Array Value := #[.int .i64 e.seq, .int .i64 e.owner, .int .i64 e.kind, .int .i64 e.off, .int .i64 e.len, .int .i64 e.snap, .slice A e.data.length c]
def enV (e : E7) (A : Option Addr) (c : Nat) : Value := .agg (enA e A c)
def mayP (e : E7) : Prop := (1 ≤ e.seq ∧ e.seq ≤ 1099511627776 ∧ 0 ≤ e.owner ∧ e.owner ≤ 7) ∧
  ((e.kind = 1 ∧ 0 ≤ e.off ∧ e.off ≤ 512 ∧ 1 ≤ e.data.length ∧ e.data.length ≤ 128) ∨ (e.kind = 2 ∧ 0 ≤ e.off ∧ e.off ≤ 512 ∧ 1 ≤ e.len ∧ e.len ≤ 512) ∨ (e.kind = 3 ∧ 0 ≤ e.len ∧ e.len ≤ 512) ∨ e.kind = 4 ∨ ((e.kind = 5 ∨ e.kind = 6) ∧ 1 ≤ e.snap ∧ e.snap ≤ 100))
instance decMay (e : E7) : Decidable (mayP e) := by unfold mayP; infer_instance
def mayE (e : E7) : Bool := decide (mayP e)
def errE (b : Bool) : Int := if b then 0 else 70
def withinB (n lo hi : Int) : Bool := decide (lo ≤ n ∧ n ≤ hi)
theorem within_any (n lo hi : Int) (w : World) : Calls Try.prog 47 #[.int .i64 n, .int .i64 lo, .int .i64 hi] w fun r w' => r = .returned (.bool (withinB n lo hi)) ∧ w = w' := by
  by_cases h1 : lo ≤ n
  · have HD : Hid (withinB n lo hi = decide (n ≤ hi)) := by unfold Hid withinB; simp [h1]
    go_enter Try.func47, Try.ntmps47
    go_wp2_with fail
    go_ret
    exact ⟨by rw [HD.out] <;> rfl, rfl⟩
  · have HD : Hid (withinB n lo hi = false) := by unfold Hid withinB; simp [h1]
    go_enter Try.func47, Try.ntmps47
    go_wp2_with fail
    go_ret
    exact ⟨by rw [HD.out] <;> rfl, rfl⟩
theorem wB_yes {n lo hi : Int} (h : withinB n lo hi = true) : lo ≤ n ∧ n ≤ hi := of_decide_eq_true h
theorem wB_no {n lo hi : Int} (h : withinB n lo hi = false) : ¬ (lo ≤ n ∧ n ≤ hi) := of_decide_eq_false h

set_option maxHeartbeats 2000000 in
theorem Check_any (e : E7) (A : Option Addr) (c : Nat) (w : World) : Calls Try.prog 33 #[enV e A c] w fun r w' => r = .returned (.int .i64 (errE (mayE e))) ∧ Below w.heap.size w w' := by
  obtain ⟨s, o, k, f, l, n, d⟩ := e
  have bn : Below w.heap.size w (w.alloc (.cells #[.int .i64 s, .int .i64 o, .int .i64 k, .int .i64 f, .int .i64 l, .int .i64 n, .slice A d.length c] 41)) := below_new _ _
  show Calls Try.prog 33 #[.agg #[.int .i64 s, .int .i64 o, .int .i64 k, .int .i64 f, .int .i64 l, .int .i64 n, .slice A d.length c]] w _
  generalize hy : mayE ⟨s, o, k, f, l, n, d⟩ = y
  have HY : Hid (mayP ⟨s, o, k, f, l, n, d⟩ ↔ y = true) := by unfold Hid; rw [← hy]; exact decide_eq_true_iff.symm
  clear hy
  unfold mayP at HY
  dsimp only at HY
  by_cases hk1 : k = 1
  · subst hk1
    go_enter Try.func33, Try.ntmps33
    go_wp2_with fail
    refine (within_any _ _ _ _).mono ?_
    rintro r wx ⟨rfl, rfl⟩
    cases hb : withinB s 1 1099511627776
    · have B0 := Lib.hid (wB_no hb)
      clear hb
      have HV : Hid (y = false) := by
        have B0 := B0.out
        unfold Hid; rw [Bool.eq_false_iff]; intro hh; have h := HY.out.2 hh; omega
      go_wp2_with fail
      go_ret
      exact ⟨by rw [HV.out] <;> rfl, bn⟩
    · have B0 := Lib.hid (wB_yes hb)
      clear hb
      go_wp2_with fail
      refine (within_any _ _ _ _).mono ?_
      rintro r wx ⟨rfl, rfl⟩
      cases hb : withinB o 0 7
      · have B1 := Lib.hid (wB_no hb)
        clear hb
        have HV : Hid (y = false) := by
          have B0 := B0.out
          have B1 := B1.out
          unfold Hid; rw [Bool.eq_false_iff]; intro hh; have h := HY.out.2 hh; omega
        go_wp2_with fail
        go_ret
        exact ⟨by rw [HV.out] <;> rfl, bn⟩
      · have B1 := Lib.hid (wB_yes hb)
        clear hb
        go_wp2_with fail
        refine (within_any _ _ _ _).mono ?_
        rintro r wx ⟨rfl, rfl⟩
        cases hb : withinB (d.length : Int) 1 128
        · have B2 := Lib.hid (wB_no hb)
          clear hb
          have HV : Hid (y = false) := by
            have B0 := B0.out
            have B1 := B1.out
            have B2 := B2.out
            unfold Hid; rw [Bool.eq_false_iff]; intro hh; have h := HY.out.2 hh; omega
          go_wp2_with fail
          go_ret
          exact ⟨by rw [HV.out] <;> rfl, bn⟩
        · have B2 := Lib.hid (wB_yes hb)
          clear hb
          go_wp2_with fail
          refine (within_any _ _ _ _).mono ?_
          rintro r wx ⟨rfl, rfl⟩
          cases hb : withinB f 0 512
          · have B3 := Lib.hid (wB_no hb)
            clear hb
            have HV : Hid (y = false) := by
              have B0 := B0.out
              have B1 := B1.out
              have B2 := B2.out
              have B3 := B3.out
              unfold Hid; rw [Bool.eq_false_iff]; intro hh; have h := HY.out.2 hh; omega
            go_wp2_with fail
            go_ret
            exact ⟨by rw [HV.out] <;> rfl, bn⟩
          · have B3 := Lib.hid (wB_yes hb)
            clear hb
            have HV : Hid (y = true) := by
              have B0 := B0.out
              have B1 := B1.out
              have B2 := B2.out
              have B3 := B3.out
              exact HY.out.1 (by first | omega | (simp only [true_and, true_or, or_true, and_true]; omega))
            go_wp2_with fail
            go_ret
            exact ⟨by rw [HV.out] <;> rfl, bn⟩
  · have hq1 : (k == 1) = false := by simp [hk1]
    by_cases hk2 : k = 2
    · subst hk2
      go_enter Try.func33, Try.ntmps33
      go_wp2_with fail
      refine (within_any _ _ _ _).mono ?_
      rintro r wx ⟨rfl, rfl⟩
      cases hb : withinB s 1 1099511627776
      · have B0 := Lib.hid (wB_no hb)
        clear hb
        have HV : Hid (y = false) := by
          have B0 := B0.out
          unfold Hid; rw [Bool.eq_false_iff]; intro hh; have h := HY.out.2 hh; omega
        go_wp2_with fail
        go_ret
        exact ⟨by rw [HV.out] <;> rfl, bn⟩
      · have B0 := Lib.hid (wB_yes hb)
        clear hb
        go_wp2_with fail
        refine (within_any _ _ _ _).mono ?_
        rintro r wx ⟨rfl, rfl⟩
        cases hb : withinB o 0 7
        · have B1 := Lib.hid (wB_no hb)
          clear hb
          have HV : Hid (y = false) := by
            have B0 := B0.out
            have B1 := B1.out
            unfold Hid; rw [Bool.eq_false_iff]; intro hh; have h := HY.out.2 hh; omega
          go_wp2_with fail
          go_ret
          exact ⟨by rw [HV.out] <;> rfl, bn⟩
        · have B1 := Lib.hid (wB_yes hb)
          clear hb
          go_wp2_with fail
          refine (within_any _ _ _ _).mono ?_
          rintro r wx ⟨rfl, rfl⟩
          cases hb : withinB l 1 512
          · have B2 := Lib.hid (wB_no hb)
            clear hb
            have HV : Hid (y = false) := by
              have B0 := B0.out
              have B1 := B1.out
              have B2 := B2.out
              unfold Hid; rw [Bool.eq_false_iff]; intro hh; have h := HY.out.2 hh; omega
            go_wp2_with fail
            go_ret
            exact ⟨by rw [HV.out] <;> rfl, bn⟩
          · have B2 := Lib.hid (wB_yes hb)
            clear hb
            go_wp2_with fail
            refine (within_any _ _ _ _).mono ?_
            rintro r wx ⟨rfl, rfl⟩
            cases hb : withinB f 0 512
            · have B3 := Lib.hid (wB_no hb)
              clear hb
              have HV : Hid (y = false) := by
                have B0 := B0.out
                have B1 := B1.out
                have B2 := B2.out
                have B3 := B3.out
                unfold Hid; rw [Bool.eq_false_iff]; intro hh; have h := HY.out.2 hh; omega
              go_wp2_with fail
              go_ret
              exact ⟨by rw [HV.out] <;> rfl, bn⟩
            · have B3 := Lib.hid (wB_yes hb)
              clear hb
              have HV : Hid (y = true) := by
                have B0 := B0.out
                have B1 := B1.out
                have B2 := B2.out
                have B3 := B3.out
                exact HY.out.1 (by first | omega | (simp only [true_and, true_or, or_true, and_true]; omega))
              go_wp2_with fail
              go_ret
              exact ⟨by rw [HV.out] <;> rfl, bn⟩
    · have hq2 : (k == 2) = false := by simp [hk2]
      by_cases hk3 : k = 3
      · subst hk3
        go_enter Try.func33, Try.ntmps33
        go_wp2_with fail
        refine (within_any _ _ _ _).mono ?_
        rintro r wx ⟨rfl, rfl⟩
        cases hb : withinB s 1 1099511627776
        · have B0 := Lib.hid (wB_no hb)
          clear hb
          have HV : Hid (y = false) := by
            have B0 := B0.out
            unfold Hid; rw [Bool.eq_false_iff]; intro hh; have h := HY.out.2 hh; omega
          go_wp2_with fail
          go_ret
          exact ⟨by rw [HV.out] <;> rfl, bn⟩
        · have B0 := Lib.hid (wB_yes hb)
          clear hb
          go_wp2_with fail
          refine (within_any _ _ _ _).mono ?_
          rintro r wx ⟨rfl, rfl⟩
          cases hb : withinB o 0 7
          · have B1 := Lib.hid (wB_no hb)
            clear hb
            have HV : Hid (y = false) := by
              have B0 := B0.out
              have B1 := B1.out
              unfold Hid; rw [Bool.eq_false_iff]; intro hh; have h := HY.out.2 hh; omega
            go_wp2_with fail
            go_ret
            exact ⟨by rw [HV.out] <;> rfl, bn⟩
          · have B1 := Lib.hid (wB_yes hb)
            clear hb
            go_wp2_with fail
            refine (within_any _ _ _ _).mono ?_
            rintro r wx ⟨rfl, rfl⟩
            cases hb : withinB l 0 512
            · have B2 := Lib.hid (wB_no hb)
              clear hb
              have HV : Hid (y = false) := by
                have B0 := B0.out
                have B1 := B1.out
                have B2 := B2.out
                unfold Hid; rw [Bool.eq_false_iff]; intro hh; have h := HY.out.2 hh; omega
              go_wp2_with fail
              go_ret
              exact ⟨by rw [HV.out] <;> rfl, bn⟩
            · have B2 := Lib.hid (wB_yes hb)
              clear hb
              have HV : Hid (y = true) := by
                have B0 := B0.out
                have B1 := B1.out
                have B2 := B2.out
                exact HY.out.1 (by first | omega | (simp only [true_and, true_or, or_true, and_true]; omega))
              go_wp2_with fail
              go_ret
              exact ⟨by rw [HV.out] <;> rfl, bn⟩
      · have hq3 : (k == 3) = false := by simp [hk3]
        by_cases hk4 : k = 4
        · subst hk4
          go_enter Try.func33, Try.ntmps33
          go_wp2_with fail
          refine (within_any _ _ _ _).mono ?_
          rintro r wx ⟨rfl, rfl⟩
          cases hb : withinB s 1 1099511627776
          · have B0 := Lib.hid (wB_no hb)
            clear hb
            have HV : Hid (y = false) := by
              have B0 := B0.out
              unfold Hid; rw [Bool.eq_false_iff]; intro hh; have h := HY.out.2 hh; omega
            go_wp2_with fail
            go_ret
            exact ⟨by rw [HV.out] <;> rfl, bn⟩
          · have B0 := Lib.hid (wB_yes hb)
            clear hb
            go_wp2_with fail
            refine (within_any _ _ _ _).mono ?_
            rintro r wx ⟨rfl, rfl⟩
            cases hb : withinB o 0 7
            · have B1 := Lib.hid (wB_no hb)
              clear hb
              have HV : Hid (y = false) := by
                have B0 := B0.out
                have B1 := B1.out
                unfold Hid; rw [Bool.eq_false_iff]; intro hh; have h := HY.out.2 hh; omega
              go_wp2_with fail
              go_ret
              exact ⟨by rw [HV.out] <;> rfl, bn⟩
            · have B1 := Lib.hid (wB_yes hb)
              clear hb
              have HV : Hid (y = true) := by
                have B0 := B0.out
                have B1 := B1.out
                exact HY.out.1 (by first | omega | (simp only [true_and, true_or, or_true, and_true]; omega))
              go_wp2_with fail
              go_ret
              exact ⟨by rw [HV.out] <;> rfl, bn⟩
        · have hq4 : (k == 4) = false := by simp [hk4]
          by_cases hk5 : k = 5
          · subst hk5
            go_enter Try.func33, Try.ntmps33
            go_wp2_with fail
            refine (within_any _ _ _ _).mono ?_
            rintro r wx ⟨rfl, rfl⟩
            cases hb : withinB s 1 1099511627776
            · have B0 := Lib.hid (wB_no hb)
              clear hb
              have HV : Hid (y = false) := by
                have B0 := B0.out
                unfold Hid; rw [Bool.eq_false_iff]; intro hh; have h := HY.out.2 hh; omega
              go_wp2_with fail
              go_ret
              exact ⟨by rw [HV.out] <;> rfl, bn⟩
            · have B0 := Lib.hid (wB_yes hb)
              clear hb
              go_wp2_with fail
              refine (within_any _ _ _ _).mono ?_
              rintro r wx ⟨rfl, rfl⟩
              cases hb : withinB o 0 7
              · have B1 := Lib.hid (wB_no hb)
                clear hb
                have HV : Hid (y = false) := by
                  have B0 := B0.out
                  have B1 := B1.out
                  unfold Hid; rw [Bool.eq_false_iff]; intro hh; have h := HY.out.2 hh; omega
                go_wp2_with fail
                go_ret
                exact ⟨by rw [HV.out] <;> rfl, bn⟩
              · have B1 := Lib.hid (wB_yes hb)
                clear hb
                go_wp2_with fail
                refine (within_any _ _ _ _).mono ?_
                rintro r wx ⟨rfl, rfl⟩
                cases hb : withinB n 1 100
                · have B2 := Lib.hid (wB_no hb)
                  clear hb
                  have HV : Hid (y = false) := by
                    have B0 := B0.out
                    have B1 := B1.out
                    have B2 := B2.out
                    unfold Hid; rw [Bool.eq_false_iff]; intro hh; have h := HY.out.2 hh; omega
                  go_wp2_with fail
                  go_ret
                  exact ⟨by rw [HV.out] <;> rfl, bn⟩
                · have B2 := Lib.hid (wB_yes hb)
                  clear hb
                  have HV : Hid (y = true) := by
                    have B0 := B0.out
                    have B1 := B1.out
                    have B2 := B2.out
                    exact HY.out.1 (by first | omega | (simp only [true_and, true_or, or_true, and_true]; omega))
                  go_wp2_with fail
                  go_ret
                  exact ⟨by rw [HV.out] <;> rfl, bn⟩
          · have hq5 : (k == 5) = false := by simp [hk5]
            by_cases hk6 : k = 6
            · subst hk6
              go_enter Try.func33, Try.ntmps33
              go_wp2_with fail
              refine (within_any _ _ _ _).mono ?_
              rintro r wx ⟨rfl, rfl⟩
              cases hb : withinB s 1 1099511627776
              · have B0 := Lib.hid (wB_no hb)
                clear hb
                have HV : Hid (y = false) := by
                  have B0 := B0.out
                  unfold Hid; rw [Bool.eq_false_iff]; intro hh; have h := HY.out.2 hh; omega
                go_wp2_with fail
                go_ret
                exact ⟨by rw [HV.out] <;> rfl, bn⟩
              · have B0 := Lib.hid (wB_yes hb)
                clear hb
                go_wp2_with fail
                refine (within_any _ _ _ _).mono ?_
                rintro r wx ⟨rfl, rfl⟩
                cases hb : withinB o 0 7
                · have B1 := Lib.hid (wB_no hb)
                  clear hb
                  have HV : Hid (y = false) := by
                    have B0 := B0.out
                    have B1 := B1.out
                    unfold Hid; rw [Bool.eq_false_iff]; intro hh; have h := HY.out.2 hh; omega
                  go_wp2_with fail
                  go_ret
                  exact ⟨by rw [HV.out] <;> rfl, bn⟩
                · have B1 := Lib.hid (wB_yes hb)
                  clear hb
                  go_wp2_with fail
                  refine (within_any _ _ _ _).mono ?_
                  rintro r wx ⟨rfl, rfl⟩
                  cases hb : withinB n 1 100
                  · have B2 := Lib.hid (wB_no hb)
                    clear hb
                    have HV : Hid (y = false) := by
                      have B0 := B0.out
                      have B1 := B1.out
                      have B2 := B2.out
                      unfold Hid; rw [Bool.eq_false_iff]; intro hh; have h := HY.out.2 hh; omega
                    go_wp2_with fail
                    go_ret
                    exact ⟨by rw [HV.out] <;> rfl, bn⟩
                  · have B2 := Lib.hid (wB_yes hb)
                    clear hb
                    have HV : Hid (y = true) := by
                      have B0 := B0.out
                      have B1 := B1.out
                      have B2 := B2.out
                      exact HY.out.1 (by first | omega | (simp only [true_and, true_or, or_true, and_true]; omega))
                    go_wp2_with fail
                    go_ret
                    exact ⟨by rw [HV.out] <;> rfl, bn⟩
            · have hq6 : (k == 6) = false := by simp [hk6]
              have HV : Hid (y = false) := by unfold Hid; rw [Bool.eq_false_iff]; intro hh; have h := HY.out.2 hh; omega
              clear hk1 hk2 hk3 hk4 hk5 hk6
              go_enter Try.func33, Try.ntmps33
              go_wp2_with fail
              refine (within_any _ _ _ _).mono ?_
              rintro r wx ⟨rfl, rfl⟩
              cases hb : withinB s 1 1099511627776
              · clear hb
                go_wp2_with fail
                go_ret
                exact ⟨by rw [HV.out] <;> rfl, bn⟩
              · clear hb
                go_wp2_with fail
                refine (within_any _ _ _ _).mono ?_
                rintro r wx ⟨rfl, rfl⟩
                cases hb : withinB o 0 7
                · clear hb
                  go_wp2_with fail
                  go_ret
                  exact ⟨by rw [HV.out] <;> rfl, bn⟩
                · clear hb
                  go_wp2_with fail
                  go_ret
                  exact ⟨by rw [HV.out] <;> rfl, bn⟩

set_option maxHeartbeats 2000000 in
theorem rMay_any (e : E7) (A : Option Addr) (c : Nat) (w : World) : Calls Try.prog 39 #[enV e A c] w fun r w' => r = .returned (.bool (mayE e)) ∧ Below w.heap.size w w' := by
  obtain ⟨s, o, k, f, l, n, d⟩ := e
  have bn : Below w.heap.size w (w.alloc (.cells #[.int .i64 s, .int .i64 o, .int .i64 k, .int .i64 f, .int .i64 l, .int .i64 n, .slice A d.length c] 41)) := below_new _ _
  show Calls Try.prog 39 #[.agg #[.int .i64 s, .int .i64 o, .int .i64 k, .int .i64 f, .int .i64 l, .int .i64 n, .slice A d.length c]] w _
  generalize hy : mayE ⟨s, o, k, f, l, n, d⟩ = y
  have HY : Hid (mayP ⟨s, o, k, f, l, n, d⟩ ↔ y = true) := by unfold Hid; rw [← hy]; exact decide_eq_true_iff.symm
  clear hy
  unfold mayP at HY
  dsimp only at HY
  by_cases hk1 : k = 1
  · subst hk1
    skip
    by_cases ht8 : s < 1
    ·
      have HV : Hid (y = false) := by
        unfold Hid; rw [Bool.eq_false_iff]; intro hh; have h := HY.out.2 hh; omega
      go_enter Try.func39, Try.ntmps39
      go_wp2_with fail
      go_ret
      exact ⟨by rw [HV.out] <;> rfl, bn⟩
    ·
      by_cases ht7 : 1099511627776 < s
      ·
        have HV : Hid (y = false) := by
          unfold Hid; rw [Bool.eq_false_iff]; intro hh; have h := HY.out.2 hh; omega
        go_enter Try.func39, Try.ntmps39
        go_wp2_with fail
        go_ret
        exact ⟨by rw [HV.out] <;> rfl, bn⟩
      ·
        by_cases ht6 : o < 0
        ·
          have HV : Hid (y = false) := by
            unfold Hid; rw [Bool.eq_false_iff]; intro hh; have h := HY.out.2 hh; omega
          go_enter Try.func39, Try.ntmps39
          go_wp2_with fail
          go_ret
          exact ⟨by rw [HV.out] <;> rfl, bn⟩
        ·
          by_cases ht5 : 7 < o
          ·
            have HV : Hid (y = false) := by
              unfold Hid; rw [Bool.eq_false_iff]; intro hh; have h := HY.out.2 hh; omega
            go_enter Try.func39, Try.ntmps39
            go_wp2_with fail
            go_ret
            exact ⟨by rw [HV.out] <;> rfl, bn⟩
          ·
            by_cases ht4 : 0 ≤ f
            ·
              by_cases ht3 : f ≤ 512
              ·
                by_cases ht2 : 1 ≤ (d.length : Int)
                ·
                  by_cases ht1 : (d.length : Int) ≤ 128
                  ·
                    have HV : Hid (y = true) := by
                      exact HY.out.1 (by first | omega | (simp only [true_and, true_or, or_true, and_true]; omega))
                    go_enter Try.func39, Try.ntmps39
                    go_wp2_with fail
                    go_ret
                    exact ⟨by rw [HV.out] <;> rfl, bn⟩
                  ·
                    have HV : Hid (y = false) := by
                      unfold Hid; rw [Bool.eq_false_iff]; intro hh; have h := HY.out.2 hh; omega
                    go_enter Try.func39, Try.ntmps39
                    go_wp2_with fail
                    go_ret
                    exact ⟨by rw [HV.out] <;> rfl, bn⟩
                ·
                  have HV : Hid (y = false) := by
                    unfold Hid; rw [Bool.eq_false_iff]; intro hh; have h := HY.out.2 hh; omega
                  go_enter Try.func39, Try.ntmps39
                  go_wp2_with fail
                  go_ret
                  exact ⟨by rw [HV.out] <;> rfl, bn⟩
              ·
                have HV : Hid (y = false) := by
                  unfold Hid; rw [Bool.eq_false_iff]; intro hh; have h := HY.out.2 hh; omega
                go_enter Try.func39, Try.ntmps39
                go_wp2_with fail
                go_ret
                exact ⟨by rw [HV.out] <;> rfl, bn⟩
            ·
              have HV : Hid (y = false) := by
                unfold Hid; rw [Bool.eq_false_iff]; intro hh; have h := HY.out.2 hh; omega
              go_enter Try.func39, Try.ntmps39
              go_wp2_with fail
              go_ret
              exact ⟨by rw [HV.out] <;> rfl, bn⟩
  · have hq1 : (k == 1) = false := by simp [hk1]
    by_cases hk2 : k = 2
    · subst hk2
      skip
      by_cases ht8 : s < 1
      ·
        have HV : Hid (y = false) := by
          unfold Hid; rw [Bool.eq_false_iff]; intro hh; have h := HY.out.2 hh; omega
        go_enter Try.func39, Try.ntmps39
        go_wp2_with fail
        go_ret
        exact ⟨by rw [HV.out] <;> rfl, bn⟩
      ·
        by_cases ht7 : 1099511627776 < s
        ·
          have HV : Hid (y = false) := by
            unfold Hid; rw [Bool.eq_false_iff]; intro hh; have h := HY.out.2 hh; omega
          go_enter Try.func39, Try.ntmps39
          go_wp2_with fail
          go_ret
          exact ⟨by rw [HV.out] <;> rfl, bn⟩
        ·
          by_cases ht6 : o < 0
          ·
            have HV : Hid (y = false) := by
              unfold Hid; rw [Bool.eq_false_iff]; intro hh; have h := HY.out.2 hh; omega
            go_enter Try.func39, Try.ntmps39
            go_wp2_with fail
            go_ret
            exact ⟨by rw [HV.out] <;> rfl, bn⟩
          ·
            by_cases ht5 : 7 < o
            ·
              have HV : Hid (y = false) := by
                unfold Hid; rw [Bool.eq_false_iff]; intro hh; have h := HY.out.2 hh; omega
              go_enter Try.func39, Try.ntmps39
              go_wp2_with fail
              go_ret
              exact ⟨by rw [HV.out] <;> rfl, bn⟩
            ·
              by_cases ht4 : 0 ≤ f
              ·
                by_cases ht3 : f ≤ 512
                ·
                  by_cases ht2 : 1 ≤ l
                  ·
                    by_cases ht1 : l ≤ 512
                    ·
                      have HV : Hid (y = true) := by
                        exact HY.out.1 (by first | omega | (simp only [true_and, true_or, or_true, and_true]; omega))
                      go_enter Try.func39, Try.ntmps39
                      go_wp2_with fail
                      go_ret
                      exact ⟨by rw [HV.out] <;> rfl, bn⟩
                    ·
                      have HV : Hid (y = false) := by
                        unfold Hid; rw [Bool.eq_false_iff]; intro hh; have h := HY.out.2 hh; omega
                      go_enter Try.func39, Try.ntmps39
                      go_wp2_with fail
                      go_ret
                      exact ⟨by rw [HV.out] <;> rfl, bn⟩
                  ·
                    have HV : Hid (y = false) := by
                      unfold Hid; rw [Bool.eq_false_iff]; intro hh; have h := HY.out.2 hh; omega
                    go_enter Try.func39, Try.ntmps39
                    go_wp2_with fail
                    go_ret
                    exact ⟨by rw [HV.out] <;> rfl, bn⟩
                ·
                  have HV : Hid (y = false) := by
                    unfold Hid; rw [Bool.eq_false_iff]; intro hh; have h := HY.out.2 hh; omega
                  go_enter Try.func39, Try.ntmps39
                  go_wp2_with fail
                  go_ret
                  exact ⟨by rw [HV.out] <;> rfl, bn⟩
              ·
                have HV : Hid (y = false) := by
                  unfold Hid; rw [Bool.eq_false_iff]; intro hh; have h := HY.out.2 hh; omega
                go_enter Try.func39, Try.ntmps39
                go_wp2_with fail
                go_ret
                exact ⟨by rw [HV.out] <;> rfl, bn⟩
    · have hq2 : (k == 2) = false := by simp [hk2]
      by_cases hk3 : k = 3
      · subst hk3
        skip
        by_cases ht6 : s < 1
        ·
          have HV : Hid (y = false) := by
            unfold Hid; rw [Bool.eq_false_iff]; intro hh; have h := HY.out.2 hh; omega
          go_enter Try.func39, Try.ntmps39
          go_wp2_with fail
          go_ret
          exact ⟨by rw [HV.out] <;> rfl, bn⟩
        ·
          by_cases ht5 : 1099511627776 < s
          ·
            have HV : Hid (y = false) := by
              unfold Hid; rw [Bool.eq_false_iff]; intro hh; have h := HY.out.2 hh; omega
            go_enter Try.func39, Try.ntmps39
            go_wp2_with fail
            go_ret
            exact ⟨by rw [HV.out] <;> rfl, bn⟩
          ·
            by_cases ht4 : o < 0
            ·
              have HV : Hid (y = false) := by
                unfold Hid; rw [Bool.eq_false_iff]; intro hh; have h := HY.out.2 hh; omega
              go_enter Try.func39, Try.ntmps39
              go_wp2_with fail
              go_ret
              exact ⟨by rw [HV.out] <;> rfl, bn⟩
            ·
              by_cases ht3 : 7 < o
              ·
                have HV : Hid (y = false) := by
                  unfold Hid; rw [Bool.eq_false_iff]; intro hh; have h := HY.out.2 hh; omega
                go_enter Try.func39, Try.ntmps39
                go_wp2_with fail
                go_ret
                exact ⟨by rw [HV.out] <;> rfl, bn⟩
              ·
                by_cases ht2 : 0 ≤ l
                ·
                  by_cases ht1 : l ≤ 512
                  ·
                    have HV : Hid (y = true) := by
                      exact HY.out.1 (by first | omega | (simp only [true_and, true_or, or_true, and_true]; omega))
                    go_enter Try.func39, Try.ntmps39
                    go_wp2_with fail
                    go_ret
                    exact ⟨by rw [HV.out] <;> rfl, bn⟩
                  ·
                    have HV : Hid (y = false) := by
                      unfold Hid; rw [Bool.eq_false_iff]; intro hh; have h := HY.out.2 hh; omega
                    go_enter Try.func39, Try.ntmps39
                    go_wp2_with fail
                    go_ret
                    exact ⟨by rw [HV.out] <;> rfl, bn⟩
                ·
                  have HV : Hid (y = false) := by
                    unfold Hid; rw [Bool.eq_false_iff]; intro hh; have h := HY.out.2 hh; omega
                  go_enter Try.func39, Try.ntmps39
                  go_wp2_with fail
                  go_ret
                  exact ⟨by rw [HV.out] <;> rfl, bn⟩
      · have hq3 : (k == 3) = false := by simp [hk3]
        by_cases hk4 : k = 4
        · subst hk4
          skip
          by_cases ht4 : s < 1
          ·
            have HV : Hid (y = false) := by
              unfold Hid; rw [Bool.eq_false_iff]; intro hh; have h := HY.out.2 hh; omega
            go_enter Try.func39, Try.ntmps39
            go_wp2_with fail
            go_ret
            exact ⟨by rw [HV.out] <;> rfl, bn⟩
          ·
            by_cases ht3 : 1099511627776 < s
            ·
              have HV : Hid (y = false) := by
                unfold Hid; rw [Bool.eq_false_iff]; intro hh; have h := HY.out.2 hh; omega
              go_enter Try.func39, Try.ntmps39
              go_wp2_with fail
              go_ret
              exact ⟨by rw [HV.out] <;> rfl, bn⟩
            ·
              by_cases ht2 : o < 0
              ·
                have HV : Hid (y = false) := by
                  unfold Hid; rw [Bool.eq_false_iff]; intro hh; have h := HY.out.2 hh; omega
                go_enter Try.func39, Try.ntmps39
                go_wp2_with fail
                go_ret
                exact ⟨by rw [HV.out] <;> rfl, bn⟩
              ·
                by_cases ht1 : 7 < o
                ·
                  have HV : Hid (y = false) := by
                    unfold Hid; rw [Bool.eq_false_iff]; intro hh; have h := HY.out.2 hh; omega
                  go_enter Try.func39, Try.ntmps39
                  go_wp2_with fail
                  go_ret
                  exact ⟨by rw [HV.out] <;> rfl, bn⟩
                ·
                  have HV : Hid (y = true) := by
                    exact HY.out.1 (by first | omega | (simp only [true_and, true_or, or_true, and_true]; omega))
                  go_enter Try.func39, Try.ntmps39
                  go_wp2_with fail
                  go_ret
                  exact ⟨by rw [HV.out] <;> rfl, bn⟩
        · have hq4 : (k == 4) = false := by simp [hk4]
          by_cases hk5 : k = 5
          · subst hk5
            skip
            by_cases ht6 : s < 1
            ·
              have HV : Hid (y = false) := by
                unfold Hid; rw [Bool.eq_false_iff]; intro hh; have h := HY.out.2 hh; omega
              go_enter Try.func39, Try.ntmps39
              go_wp2_with fail
              go_ret
              exact ⟨by rw [HV.out] <;> rfl, bn⟩
            ·
              by_cases ht5 : 1099511627776 < s
              ·
                have HV : Hid (y = false) := by
                  unfold Hid; rw [Bool.eq_false_iff]; intro hh; have h := HY.out.2 hh; omega
                go_enter Try.func39, Try.ntmps39
                go_wp2_with fail
                go_ret
                exact ⟨by rw [HV.out] <;> rfl, bn⟩
              ·
                by_cases ht4 : o < 0
                ·
                  have HV : Hid (y = false) := by
                    unfold Hid; rw [Bool.eq_false_iff]; intro hh; have h := HY.out.2 hh; omega
                  go_enter Try.func39, Try.ntmps39
                  go_wp2_with fail
                  go_ret
                  exact ⟨by rw [HV.out] <;> rfl, bn⟩
                ·
                  by_cases ht3 : 7 < o
                  ·
                    have HV : Hid (y = false) := by
                      unfold Hid; rw [Bool.eq_false_iff]; intro hh; have h := HY.out.2 hh; omega
                    go_enter Try.func39, Try.ntmps39
                    go_wp2_with fail
                    go_ret
                    exact ⟨by rw [HV.out] <;> rfl, bn⟩
                  ·
                    by_cases ht2 : 1 ≤ n
                    ·
                      by_cases ht1 : n ≤ 100
                      ·
                        have HV : Hid (y = true) := by
                          exact HY.out.1 (by first | omega | (simp only [true_and, true_or, or_true, and_true]; omega))
                        go_enter Try.func39, Try.ntmps39
                        go_wp2_with fail
                        go_ret
                        exact ⟨by rw [HV.out] <;> rfl, bn⟩
                      ·
                        have HV : Hid (y = false) := by
                          unfold Hid; rw [Bool.eq_false_iff]; intro hh; have h := HY.out.2 hh; omega
                        go_enter Try.func39, Try.ntmps39
                        go_wp2_with fail
                        go_ret
                        exact ⟨by rw [HV.out] <;> rfl, bn⟩
                    ·
                      have HV : Hid (y = false) := by
                        unfold Hid; rw [Bool.eq_false_iff]; intro hh; have h := HY.out.2 hh; omega
                      go_enter Try.func39, Try.ntmps39
                      go_wp2_with fail
                      go_ret
                      exact ⟨by rw [HV.out] <;> rfl, bn⟩
          · have hq5 : (k == 5) = false := by simp [hk5]
            by_cases hk6 : k = 6
            · subst hk6
              skip
              by_cases ht6 : s < 1
              ·
                have HV : Hid (y = false) := by
                  unfold Hid; rw [Bool.eq_false_iff]; intro hh; have h := HY.out.2 hh; omega
                go_enter Try.func39, Try.ntmps39
                go_wp2_with fail
                go_ret
                exact ⟨by rw [HV.out] <;> rfl, bn⟩
              ·
                by_cases ht5 : 1099511627776 < s
                ·
                  have HV : Hid (y = false) := by
                    unfold Hid; rw [Bool.eq_false_iff]; intro hh; have h := HY.out.2 hh; omega
                  go_enter Try.func39, Try.ntmps39
                  go_wp2_with fail
                  go_ret
                  exact ⟨by rw [HV.out] <;> rfl, bn⟩
                ·
                  by_cases ht4 : o < 0
                  ·
                    have HV : Hid (y = false) := by
                      unfold Hid; rw [Bool.eq_false_iff]; intro hh; have h := HY.out.2 hh; omega
                    go_enter Try.func39, Try.ntmps39
                    go_wp2_with fail
                    go_ret
                    exact ⟨by rw [HV.out] <;> rfl, bn⟩
                  ·
                    by_cases ht3 : 7 < o
                    ·
                      have HV : Hid (y = false) := by
                        unfold Hid; rw [Bool.eq_false_iff]; intro hh; have h := HY.out.2 hh; omega
                      go_enter Try.func39, Try.ntmps39
                      go_wp2_with fail
                      go_ret
                      exact ⟨by rw [HV.out] <;> rfl, bn⟩
                    ·
                      by_cases ht2 : 1 ≤ n
                      ·
                        by_cases ht1 : n ≤ 100
                        ·
                          have HV : Hid (y = true) := by
                            exact HY.out.1 (by first | omega | (simp only [true_and, true_or, or_true, and_true]; omega))
                          go_enter Try.func39, Try.ntmps39
                          go_wp2_with fail
                          go_ret
                          exact ⟨by rw [HV.out] <;> rfl, bn⟩
                        ·
                          have HV : Hid (y = false) := by
                            unfold Hid; rw [Bool.eq_false_iff]; intro hh; have h := HY.out.2 hh; omega
                          go_enter Try.func39, Try.ntmps39
                          go_wp2_with fail
                          go_ret
                          exact ⟨by rw [HV.out] <;> rfl, bn⟩
                      ·
                        have HV : Hid (y = false) := by
                          unfold Hid; rw [Bool.eq_false_iff]; intro hh; have h := HY.out.2 hh; omega
                        go_enter Try.func39, Try.ntmps39
                        go_wp2_with fail
                        go_ret
                        exact ⟨by rw [HV.out] <;> rfl, bn⟩
            · have hq6 : (k == 6) = false := by simp [hk6]
              by_cases ht4 : s < 1
              ·
                have HV : Hid (y = false) := by
                  unfold Hid; rw [Bool.eq_false_iff]; intro hh; have h := HY.out.2 hh; omega
                go_enter Try.func39, Try.ntmps39
                go_wp2_with fail
                go_ret
                exact ⟨by rw [HV.out] <;> rfl, bn⟩
              ·
                by_cases ht3 : 1099511627776 < s
                ·
                  have HV : Hid (y = false) := by
                    unfold Hid; rw [Bool.eq_false_iff]; intro hh; have h := HY.out.2 hh; omega
                  go_enter Try.func39, Try.ntmps39
                  go_wp2_with fail
                  go_ret
                  exact ⟨by rw [HV.out] <;> rfl, bn⟩
                ·
                  by_cases ht2 : o < 0
                  ·
                    have HV : Hid (y = false) := by
                      unfold Hid; rw [Bool.eq_false_iff]; intro hh; have h := HY.out.2 hh; omega
                    go_enter Try.func39, Try.ntmps39
                    go_wp2_with fail
                    go_ret
                    exact ⟨by rw [HV.out] <;> rfl, bn⟩
                  ·
                    by_cases ht1 : 7 < o
                    ·
                      have HV : Hid (y = false) := by
                        unfold Hid; rw [Bool.eq_false_iff]; intro hh; have h := HY.out.2 hh; omega
                      go_enter Try.func39, Try.ntmps39
                      go_wp2_with fail
                      go_ret
                      exact ⟨by rw [HV.out] <;> rfl, bn⟩
                    ·
                      have HV : Hid (y = false) := by
                        unfold Hid; rw [Bool.eq_false_iff]; intro hh; have h := HY.out.2 hh; omega
                      go_enter Try.func39, Try.ntmps39
                      go_wp2_with fail
                      go_ret
                      exact ⟨by rw [HV.out] <;> rfl, bn⟩
end Go.Proofs.Ytcdodchjgadcoaa
