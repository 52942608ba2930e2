/- Parts of the proof, joined: AbE PsD PsDoor. -/
import Derived.Test.YthkeoimjjgmppaaDoorQe
import Derived.Laws.Rows
import Derived.Laws.ResultCell
import Derived.Test.YthkeoimjjgmppaaDoorRows
import Derived.Test.YthkeoimjjgmppaaDoorTie
import Derived.ProofKit
import Derived.LaidMore
import Derived.OpenShut
import Derived.Stop.Joined
import Derived.Stop.LaidErr
import Derived.Lib.LaidTab
/- Entries: whether one may be: the code's Check, the document's May. -/
namespace Go.Proofs.YthkeoimjjgmppaaDoor
open Go.RowKit
set_option linter.unusedVariables false
set_option maxRecDepth 100000

/-- An entry. -/
structure E7 where
  seq : Int
  owner : Int
  kind : Int
  off : Int
  len : Int
  snap : Int
  data : List UInt8
def enA (e : E7) (A : Option Addr) (c : Nat) : Array Value := #[.int .i64 e.seq, .int .i64 e.owner, .int .i64 e.kind, .int .i64 e.off, .int .i64 e.len, .int .i64 e.snap, .slice A e.data.length c]
def enV (e : E7) (A : Option Addr) (c : Nat) : Value := .agg (enA e A c)
def mayP (e : E7) : Prop := (1 ≤ e.seq ∧ e.seq ≤ 1099511627776 ∧ 0 ≤ e.owner ∧ e.owner ≤ 7) ∧
  ((e.kind = 1 ∧ 0 ≤ e.off ∧ e.off ≤ 512 ∧ 1 ≤ e.data.length ∧ e.data.length ≤ 128) ∨ (e.kind = 2 ∧ 0 ≤ e.off ∧ e.off ≤ 512 ∧ 1 ≤ e.len ∧ e.len ≤ 512) ∨ (e.kind = 3 ∧ 0 ≤ e.len ∧ e.len ≤ 512) ∨ e.kind = 4 ∨ ((e.kind = 5 ∨ e.kind = 6) ∧ 1 ≤ e.snap ∧ e.snap ≤ 100))
instance decMay (e : E7) : Decidable (mayP e) := by unfold mayP; infer_instance
def mayE (e : E7) : Bool := decide (mayP e)
def errE (b : Bool) : Int := if b then 0 else 70
def withinB (n lo hi : Int) : Bool := decide (lo ≤ n ∧ n ≤ hi)
theorem within_any (n lo hi : Int) (w : World) : Calls Tryd.prog 71 #[.int .i64 n, .int .i64 lo, .int .i64 hi] w fun r w' => r = .returned (.bool (withinB n lo hi)) ∧ w = w' := by
  by_cases h1 : lo ≤ n
  · have HD : Hid (withinB n lo hi = decide (n ≤ hi)) := by unfold Hid withinB; simp [h1]
    go_enter Tryd.func71, Tryd.ntmps71
    go_wp2_with fail
    go_ret
    exact ⟨by rw [HD.out] <;> rfl, rfl⟩
  · have HD : Hid (withinB n lo hi = false) := by unfold Hid withinB; simp [h1]
    go_enter Tryd.func71, Tryd.ntmps71
    go_wp2_with fail
    go_ret
    exact ⟨by rw [HD.out] <;> rfl, rfl⟩
theorem wB_yes {n lo hi : Int} (h : withinB n lo hi = true) : lo ≤ n ∧ n ≤ hi := of_decide_eq_true h
theorem wB_no {n lo hi : Int} (h : withinB n lo hi = false) : ¬ (lo ≤ n ∧ n ≤ hi) := of_decide_eq_false h

set_option maxHeartbeats 2000000 in
theorem Check_any (e : E7) (A : Option Addr) (c : Nat) (w : World) : Calls Tryd.prog 54 #[enV e A c] w fun r w' => r = .returned (.int .i64 (errE (mayE e))) ∧ Below w.heap.size w w' := by
  obtain ⟨s, o, k, f, l, n, d⟩ := e
  have bn : Below w.heap.size w (w.alloc (.cells #[.int .i64 s, .int .i64 o, .int .i64 k, .int .i64 f, .int .i64 l, .int .i64 n, .slice A d.length c] 32)) := below_new _ _
  show Calls Tryd.prog 54 #[.agg #[.int .i64 s, .int .i64 o, .int .i64 k, .int .i64 f, .int .i64 l, .int .i64 n, .slice A d.length c]] w _
  generalize hy : mayE ⟨s, o, k, f, l, n, d⟩ = y
  have HY : Hid (mayP ⟨s, o, k, f, l, n, d⟩ ↔ y = true) := by unfold Hid; rw [← hy]; exact decide_eq_true_iff.symm
  clear hy
  unfold mayP at HY
  dsimp only at HY
  by_cases hk1 : k = 1
  · subst hk1
    go_enter Tryd.func54, Tryd.ntmps54
    go_wp2_with fail
    refine (within_any _ _ _ _).mono ?_
    rintro r wx ⟨rfl, rfl⟩
    cases hb : withinB s 1 1099511627776
    · have B0 := Lib.hid (wB_no hb)
      clear hb
      have HV : Hid (y = false) := by
        have B0 := B0.out
        unfold Hid; rw [Bool.eq_false_iff]; intro hh; have h := HY.out.2 hh; omega
      go_wp2_with fail
      go_ret
      exact ⟨by rw [HV.out] <;> rfl, bn⟩
    · have B0 := Lib.hid (wB_yes hb)
      clear hb
      go_wp2_with fail
      refine (within_any _ _ _ _).mono ?_
      rintro r wx ⟨rfl, rfl⟩
      cases hb : withinB o 0 7
      · have B1 := Lib.hid (wB_no hb)
        clear hb
        have HV : Hid (y = false) := by
          have B0 := B0.out
          have B1 := B1.out
          unfold Hid; rw [Bool.eq_false_iff]; intro hh; have h := HY.out.2 hh; omega
        go_wp2_with fail
        go_ret
        exact ⟨by rw [HV.out] <;> rfl, bn⟩
      · have B1 := Lib.hid (wB_yes hb)
        clear hb
        go_wp2_with fail
        refine (within_any _ _ _ _).mono ?_
        rintro r wx ⟨rfl, rfl⟩
        cases hb : withinB (d.length : Int) 1 128
        · have B2 := Lib.hid (wB_no hb)
          clear hb
          have HV : Hid (y = false) := by
            have B0 := B0.out
            have B1 := B1.out
            have B2 := B2.out
            unfold Hid; rw [Bool.eq_false_iff]; intro hh; have h := HY.out.2 hh; omega
          go_wp2_with fail
          go_ret
          exact ⟨by rw [HV.out] <;> rfl, bn⟩
        · have B2 := Lib.hid (wB_yes hb)
          clear hb
          go_wp2_with fail
          refine (within_any _ _ _ _).mono ?_
          rintro r wx ⟨rfl, rfl⟩
          cases hb : withinB f 0 512
          · have B3 := Lib.hid (wB_no hb)
            clear hb
            have HV : Hid (y = false) := by
              have B0 := B0.out
              have B1 := B1.out
              have B2 := B2.out
              have B3 := B3.out
              unfold Hid; rw [Bool.eq_false_iff]; intro hh; have h := HY.out.2 hh; omega
            go_wp2_with fail
            go_ret
            exact ⟨by rw [HV.out] <;> rfl, bn⟩
          · have B3 := Lib.hid (wB_yes hb)
            clear hb
            have HV : Hid (y = true) := by
              have B0 := B0.out
              have B1 := B1.out
              have B2 := B2.out
              have B3 := B3.out
              exact HY.out.1 (by first | omega | (simp only [true_and]; omega))
            go_wp2_with fail
            go_ret
            exact ⟨by rw [HV.out] <;> rfl, bn⟩
  · have hq1 : (k == 1) = false := by simp [hk1]
    by_cases hk2 : k = 2
    · subst hk2
      go_enter Tryd.func54, Tryd.ntmps54
      go_wp2_with fail
      refine (within_any _ _ _ _).mono ?_
      rintro r wx ⟨rfl, rfl⟩
      cases hb : withinB s 1 1099511627776
      · have B0 := Lib.hid (wB_no hb)
        clear hb
        have HV : Hid (y = false) := by
          have B0 := B0.out
          unfold Hid; rw [Bool.eq_false_iff]; intro hh; have h := HY.out.2 hh; omega
        go_wp2_with fail
        go_ret
        exact ⟨by rw [HV.out] <;> rfl, bn⟩
      · have B0 := Lib.hid (wB_yes hb)
        clear hb
        go_wp2_with fail
        refine (within_any _ _ _ _).mono ?_
        rintro r wx ⟨rfl, rfl⟩
        cases hb : withinB o 0 7
        · have B1 := Lib.hid (wB_no hb)
          clear hb
          have HV : Hid (y = false) := by
            have B0 := B0.out
            have B1 := B1.out
            unfold Hid; rw [Bool.eq_false_iff]; intro hh; have h := HY.out.2 hh; omega
          go_wp2_with fail
          go_ret
          exact ⟨by rw [HV.out] <;> rfl, bn⟩
        · have B1 := Lib.hid (wB_yes hb)
          clear hb
          go_wp2_with fail
          refine (within_any _ _ _ _).mono ?_
          rintro r wx ⟨rfl, rfl⟩
          cases hb : withinB l 1 512
          · have B2 := Lib.hid (wB_no hb)
            clear hb
            have HV : Hid (y = false) := by
              have B0 := B0.out
              have B1 := B1.out
              have B2 := B2.out
              unfold Hid; rw [Bool.eq_false_iff]; intro hh; have h := HY.out.2 hh; omega
            go_wp2_with fail
            go_ret
            exact ⟨by rw [HV.out] <;> rfl, bn⟩
          · have B2 := Lib.hid (wB_yes hb)
            clear hb
            go_wp2_with fail
            refine (within_any _ _ _ _).mono ?_
            rintro r wx ⟨rfl, rfl⟩
            cases hb : withinB f 0 512
            · have B3 := Lib.hid (wB_no hb)
              clear hb
              have HV : Hid (y = false) := by
                have B0 := B0.out
                have B1 := B1.out
                have B2 := B2.out
                have B3 := B3.out
                unfold Hid; rw [Bool.eq_false_iff]; intro hh; have h := HY.out.2 hh; omega
              go_wp2_with fail
              go_ret
              exact ⟨by rw [HV.out] <;> rfl, bn⟩
            · have B3 := Lib.hid (wB_yes hb)
              clear hb
              have HV : Hid (y = true) := by
                have B0 := B0.out
                have B1 := B1.out
                have B2 := B2.out
                have B3 := B3.out
                exact HY.out.1 (by first | omega | (simp only [true_and]; omega))
              go_wp2_with fail
              go_ret
              exact ⟨by rw [HV.out] <;> rfl, bn⟩
    · have hq2 : (k == 2) = false := by simp [hk2]
      by_cases hk3 : k = 3
      · subst hk3
        go_enter Tryd.func54, Tryd.ntmps54
        go_wp2_with fail
        refine (within_any _ _ _ _).mono ?_
        rintro r wx ⟨rfl, rfl⟩
        cases hb : withinB s 1 1099511627776
        · have B0 := Lib.hid (wB_no hb)
          clear hb
          have HV : Hid (y = false) := by
            have B0 := B0.out
            unfold Hid; rw [Bool.eq_false_iff]; intro hh; have h := HY.out.2 hh; omega
          go_wp2_with fail
          go_ret
          exact ⟨by rw [HV.out] <;> rfl, bn⟩
        · have B0 := Lib.hid (wB_yes hb)
          clear hb
          go_wp2_with fail
          refine (within_any _ _ _ _).mono ?_
          rintro r wx ⟨rfl, rfl⟩
          cases hb : withinB o 0 7
          · have B1 := Lib.hid (wB_no hb)
            clear hb
            have HV : Hid (y = false) := by
              have B0 := B0.out
              have B1 := B1.out
              unfold Hid; rw [Bool.eq_false_iff]; intro hh; have h := HY.out.2 hh; omega
            go_wp2_with fail
            go_ret
            exact ⟨by rw [HV.out] <;> rfl, bn⟩
          · have B1 := Lib.hid (wB_yes hb)
            clear hb
            go_wp2_with fail
            refine (within_any _ _ _ _).mono ?_
            rintro r wx ⟨rfl, rfl⟩
            cases hb : withinB l 0 512
            · have B2 := Lib.hid (wB_no hb)
              clear hb
              have HV : Hid (y = false) := by
                have B0 := B0.out
                have B1 := B1.out
                have B2 := B2.out
                unfold Hid; rw [Bool.eq_false_iff]; intro hh; have h := HY.out.2 hh; omega
              go_wp2_with fail
              go_ret
              exact ⟨by rw [HV.out] <;> rfl, bn⟩
            · have B2 := Lib.hid (wB_yes hb)
              clear hb
              have HV : Hid (y = true) := by
                have B0 := B0.out
                have B1 := B1.out
                have B2 := B2.out
                exact HY.out.1 (by first | omega | (simp only [true_and]; omega))
              go_wp2_with fail
              go_ret
              exact ⟨by rw [HV.out] <;> rfl, bn⟩
      · have hq3 : (k == 3) = false := by simp [hk3]
        by_cases hk4 : k = 4
        · subst hk4
          go_enter Tryd.func54, Tryd.ntmps54
          go_wp2_with fail
          refine (within_any _ _ _ _).mono ?_
          rintro r wx ⟨rfl, rfl⟩
          cases hb : withinB s 1 1099511627776
          · have B0 := Lib.hid (wB_no hb)
            clear hb
            have HV : Hid (y = false) := by
              have B0 := B0.out
              unfold Hid; rw [Bool.eq_false_iff]; intro hh; have h := HY.out.2 hh; omega
            go_wp2_with fail
            go_ret
            exact ⟨by rw [HV.out] <;> rfl, bn⟩
          · have B0 := Lib.hid (wB_yes hb)
            clear hb
            go_wp2_with fail
            refine (within_any _ _ _ _).mono ?_
            rintro r wx ⟨rfl, rfl⟩
            cases hb : withinB o 0 7
            · have B1 := Lib.hid (wB_no hb)
              clear hb
              have HV : Hid (y = false) := by
                have B0 := B0.out
                have B1 := B1.out
                unfold Hid; rw [Bool.eq_false_iff]; intro hh; have h := HY.out.2 hh; omega
              go_wp2_with fail
              go_ret
              exact ⟨by rw [HV.out] <;> rfl, bn⟩
            · have B1 := Lib.hid (wB_yes hb)
              clear hb
              have HV : Hid (y = true) := by
                have B0 := B0.out
                have B1 := B1.out
                exact HY.out.1 (by first | omega | (simp only [true_or, or_true, and_true]; omega))
              go_wp2_with fail
              go_ret
              exact ⟨by rw [HV.out] <;> rfl, bn⟩
        · have hq4 : (k == 4) = false := by simp [hk4]
          by_cases hk5 : k = 5
          · subst hk5
            go_enter Tryd.func54, Tryd.ntmps54
            go_wp2_with fail
            refine (within_any _ _ _ _).mono ?_
            rintro r wx ⟨rfl, rfl⟩
            cases hb : withinB s 1 1099511627776
            · have B0 := Lib.hid (wB_no hb)
              clear hb
              have HV : Hid (y = false) := by
                have B0 := B0.out
                unfold Hid; rw [Bool.eq_false_iff]; intro hh; have h := HY.out.2 hh; omega
              go_wp2_with fail
              go_ret
              exact ⟨by rw [HV.out] <;> rfl, bn⟩
            · have B0 := Lib.hid (wB_yes hb)
              clear hb
              go_wp2_with fail
              refine (within_any _ _ _ _).mono ?_
              rintro r wx ⟨rfl, rfl⟩
              cases hb : withinB o 0 7
              · have B1 := Lib.hid (wB_no hb)
                clear hb
                have HV : Hid (y = false) := by
                  have B0 := B0.out
                  have B1 := B1.out
                  unfold Hid; rw [Bool.eq_false_iff]; intro hh; have h := HY.out.2 hh; omega
                go_wp2_with fail
                go_ret
                exact ⟨by rw [HV.out] <;> rfl, bn⟩
              · have B1 := Lib.hid (wB_yes hb)
                clear hb
                go_wp2_with fail
                refine (within_any _ _ _ _).mono ?_
                rintro r wx ⟨rfl, rfl⟩
                cases hb : withinB n 1 100
                · have B2 := Lib.hid (wB_no hb)
                  clear hb
                  have HV : Hid (y = false) := by
                    have B0 := B0.out
                    have B1 := B1.out
                    have B2 := B2.out
                    unfold Hid; rw [Bool.eq_false_iff]; intro hh; have h := HY.out.2 hh; omega
                  go_wp2_with fail
                  go_ret
                  exact ⟨by rw [HV.out] <;> rfl, bn⟩
                · have B2 := Lib.hid (wB_yes hb)
                  clear hb
                  have HV : Hid (y = true) := by
                    have B0 := B0.out
                    have B1 := B1.out
                    have B2 := B2.out
                    exact HY.out.1 (by first | omega | (simp only [true_and, true_or]; omega))
                  go_wp2_with fail
                  go_ret
                  exact ⟨by rw [HV.out] <;> rfl, bn⟩
          · have hq5 : (k == 5) = false := by simp [hk5]
            by_cases hk6 : k = 6
            · subst hk6
              go_enter Tryd.func54, Tryd.ntmps54
              go_wp2_with fail
              refine (within_any _ _ _ _).mono ?_
              rintro r wx ⟨rfl, rfl⟩
              cases hb : withinB s 1 1099511627776
              · have B0 := Lib.hid (wB_no hb)
                clear hb
                have HV : Hid (y = false) := by
                  have B0 := B0.out
                  unfold Hid; rw [Bool.eq_false_iff]; intro hh; have h := HY.out.2 hh; omega
                go_wp2_with fail
                go_ret
                exact ⟨by rw [HV.out] <;> rfl, bn⟩
              · have B0 := Lib.hid (wB_yes hb)
                clear hb
                go_wp2_with fail
                refine (within_any _ _ _ _).mono ?_
                rintro r wx ⟨rfl, rfl⟩
                cases hb : withinB o 0 7
                · have B1 := Lib.hid (wB_no hb)
                  clear hb
                  have HV : Hid (y = false) := by
                    have B0 := B0.out
                    have B1 := B1.out
                    unfold Hid; rw [Bool.eq_false_iff]; intro hh; have h := HY.out.2 hh; omega
                  go_wp2_with fail
                  go_ret
                  exact ⟨by rw [HV.out] <;> rfl, bn⟩
                · have B1 := Lib.hid (wB_yes hb)
                  clear hb
                  go_wp2_with fail
                  refine (within_any _ _ _ _).mono ?_
                  rintro r wx ⟨rfl, rfl⟩
                  cases hb : withinB n 1 100
                  · have B2 := Lib.hid (wB_no hb)
                    clear hb
                    have HV : Hid (y = false) := by
                      have B0 := B0.out
                      have B1 := B1.out
                      have B2 := B2.out
                      unfold Hid; rw [Bool.eq_false_iff]; intro hh; have h := HY.out.2 hh; omega
                    go_wp2_with fail
                    go_ret
                    exact ⟨by rw [HV.out] <;> rfl, bn⟩
                  · have B2 := Lib.hid (wB_yes hb)
                    clear hb
                    have HV : Hid (y = true) := by
                      have B0 := B0.out
                      have B1 := B1.out
                      have B2 := B2.out
                      exact HY.out.1 (by first | omega | (simp only [true_and, or_true]; omega))
                    go_wp2_with fail
                    go_ret
                    exact ⟨by rw [HV.out] <;> rfl, bn⟩
            · have hq6 : (k == 6) = false := by simp [hk6]
              have HV : Hid (y = false) := by unfold Hid; rw [Bool.eq_false_iff]; intro hh; have h := HY.out.2 hh; omega
              clear hk1 hk2 hk3 hk4 hk5 hk6
              go_enter Tryd.func54, Tryd.ntmps54
              go_wp2_with fail
              refine (within_any _ _ _ _).mono ?_
              rintro r wx ⟨rfl, rfl⟩
              cases hb : withinB s 1 1099511627776
              · clear hb
                go_wp2_with fail
                go_ret
                exact ⟨by rw [HV.out] <;> rfl, bn⟩
              · clear hb
                go_wp2_with fail
                refine (within_any _ _ _ _).mono ?_
                rintro r wx ⟨rfl, rfl⟩
                cases hb : withinB o 0 7
                · clear hb
                  go_wp2_with fail
                  go_ret
                  exact ⟨by rw [HV.out] <;> rfl, bn⟩
                · clear hb
                  go_wp2_with fail
                  go_ret
                  exact ⟨by rw [HV.out] <;> rfl, bn⟩

set_option maxHeartbeats 2000000 in
theorem rMay_any (e : E7) (A : Option Addr) (c : Nat) (w : World) : Calls Tryd.prog 32 #[enV e A c] w fun r w' => r = .returned (.bool (mayE e)) ∧ Below w.heap.size w w' := by
  obtain ⟨s, o, k, f, l, n, d⟩ := e
  have bn : Below w.heap.size w (w.alloc (.cells #[.int .i64 s, .int .i64 o, .int .i64 k, .int .i64 f, .int .i64 l, .int .i64 n, .slice A d.length c] 32)) := below_new _ _
  show Calls Tryd.prog 32 #[.agg #[.int .i64 s, .int .i64 o, .int .i64 k, .int .i64 f, .int .i64 l, .int .i64 n, .slice A d.length c]] w _
  generalize hy : mayE ⟨s, o, k, f, l, n, d⟩ = y
  have HY : Hid (mayP ⟨s, o, k, f, l, n, d⟩ ↔ y = true) := by unfold Hid; rw [← hy]; exact decide_eq_true_iff.symm
  clear hy
  unfold mayP at HY
  dsimp only at HY
  by_cases hk1 : k = 1
  · subst hk1
    skip
    by_cases ht8 : s < 1
    ·
      have HV : Hid (y = false) := by
        unfold Hid; rw [Bool.eq_false_iff]; intro hh; have h := HY.out.2 hh; omega
      go_enter Tryd.func32, Tryd.ntmps32
      go_wp2_with fail
      go_ret
      exact ⟨by rw [HV.out] <;> rfl, bn⟩
    ·
      by_cases ht7 : 1099511627776 < s
      ·
        have HV : Hid (y = false) := by
          unfold Hid; rw [Bool.eq_false_iff]; intro hh; have h := HY.out.2 hh; omega
        go_enter Tryd.func32, Tryd.ntmps32
        go_wp2_with fail
        go_ret
        exact ⟨by rw [HV.out] <;> rfl, bn⟩
      ·
        by_cases ht6 : o < 0
        ·
          have HV : Hid (y = false) := by
            unfold Hid; rw [Bool.eq_false_iff]; intro hh; have h := HY.out.2 hh; omega
          go_enter Tryd.func32, Tryd.ntmps32
          go_wp2_with fail
          go_ret
          exact ⟨by rw [HV.out] <;> rfl, bn⟩
        ·
          by_cases ht5 : 7 < o
          ·
            have HV : Hid (y = false) := by
              unfold Hid; rw [Bool.eq_false_iff]; intro hh; have h := HY.out.2 hh; omega
            go_enter Tryd.func32, Tryd.ntmps32
            go_wp2_with fail
            go_ret
            exact ⟨by rw [HV.out] <;> rfl, bn⟩
          ·
            by_cases ht4 : 0 ≤ f
            ·
              by_cases ht3 : f ≤ 512
              ·
                by_cases ht2 : 1 ≤ (d.length : Int)
                ·
                  by_cases ht1 : (d.length : Int) ≤ 128
                  ·
                    have HV : Hid (y = true) := by
                      exact HY.out.1 (by first | omega | (simp only [true_and, true_or, or_true, and_true]; omega))
                    go_enter Tryd.func32, Tryd.ntmps32
                    go_wp2_with fail
                    go_ret
                    exact ⟨by rw [HV.out] <;> rfl, bn⟩
                  ·
                    have HV : Hid (y = false) := by
                      unfold Hid; rw [Bool.eq_false_iff]; intro hh; have h := HY.out.2 hh; omega
                    go_enter Tryd.func32, Tryd.ntmps32
                    go_wp2_with fail
                    go_ret
                    exact ⟨by rw [HV.out] <;> rfl, bn⟩
                ·
                  have HV : Hid (y = false) := by
                    unfold Hid; rw [Bool.eq_false_iff]; intro hh; have h := HY.out.2 hh; omega
                  go_enter Tryd.func32, Tryd.ntmps32
                  go_wp2_with fail
                  go_ret
                  exact ⟨by rw [HV.out] <;> rfl, bn⟩
              ·
                have HV : Hid (y = false) := by
                  unfold Hid; rw [Bool.eq_false_iff]; intro hh; have h := HY.out.2 hh; omega
                go_enter Tryd.func32, Tryd.ntmps32
                go_wp2_with fail
                go_ret
                exact ⟨by rw [HV.out] <;> rfl, bn⟩
            ·
              have HV : Hid (y = false) := by
                unfold Hid; rw [Bool.eq_false_iff]; intro hh; have h := HY.out.2 hh; omega
              go_enter Tryd.func32, Tryd.ntmps32
              go_wp2_with fail
              go_ret
              exact ⟨by rw [HV.out] <;> rfl, bn⟩
  · have hq1 : (k == 1) = false := by simp [hk1]
    by_cases hk2 : k = 2
    · subst hk2
      skip
      by_cases ht8 : s < 1
      ·
        have HV : Hid (y = false) := by
          unfold Hid; rw [Bool.eq_false_iff]; intro hh; have h := HY.out.2 hh; omega
        go_enter Tryd.func32, Tryd.ntmps32
        go_wp2_with fail
        go_ret
        exact ⟨by rw [HV.out] <;> rfl, bn⟩
      ·
        by_cases ht7 : 1099511627776 < s
        ·
          have HV : Hid (y = false) := by
            unfold Hid; rw [Bool.eq_false_iff]; intro hh; have h := HY.out.2 hh; omega
          go_enter Tryd.func32, Tryd.ntmps32
          go_wp2_with fail
          go_ret
          exact ⟨by rw [HV.out] <;> rfl, bn⟩
        ·
          by_cases ht6 : o < 0
          ·
            have HV : Hid (y = false) := by
              unfold Hid; rw [Bool.eq_false_iff]; intro hh; have h := HY.out.2 hh; omega
            go_enter Tryd.func32, Tryd.ntmps32
            go_wp2_with fail
            go_ret
            exact ⟨by rw [HV.out] <;> rfl, bn⟩
          ·
            by_cases ht5 : 7 < o
            ·
              have HV : Hid (y = false) := by
                unfold Hid; rw [Bool.eq_false_iff]; intro hh; have h := HY.out.2 hh; omega
              go_enter Tryd.func32, Tryd.ntmps32
              go_wp2_with fail
              go_ret
              exact ⟨by rw [HV.out] <;> rfl, bn⟩
            ·
              by_cases ht4 : 0 ≤ f
              ·
                by_cases ht3 : f ≤ 512
                ·
                  by_cases ht2 : 1 ≤ l
                  ·
                    by_cases ht1 : l ≤ 512
                    ·
                      have HV : Hid (y = true) := by
                        exact HY.out.1 (by first | omega | (simp only [true_and, true_or, or_true, and_true]; omega))
                      go_enter Tryd.func32, Tryd.ntmps32
                      go_wp2_with fail
                      go_ret
                      exact ⟨by rw [HV.out] <;> rfl, bn⟩
                    ·
                      have HV : Hid (y = false) := by
                        unfold Hid; rw [Bool.eq_false_iff]; intro hh; have h := HY.out.2 hh; omega
                      go_enter Tryd.func32, Tryd.ntmps32
                      go_wp2_with fail
                      go_ret
                      exact ⟨by rw [HV.out] <;> rfl, bn⟩
                  ·
                    have HV : Hid (y = false) := by
                      unfold Hid; rw [Bool.eq_false_iff]; intro hh; have h := HY.out.2 hh; omega
                    go_enter Tryd.func32, Tryd.ntmps32
                    go_wp2_with fail
                    go_ret
                    exact ⟨by rw [HV.out] <;> rfl, bn⟩
                ·
                  have HV : Hid (y = false) := by
                    unfold Hid; rw [Bool.eq_false_iff]; intro hh; have h := HY.out.2 hh; omega
                  go_enter Tryd.func32, Tryd.ntmps32
                  go_wp2_with fail
                  go_ret
                  exact ⟨by rw [HV.out] <;> rfl, bn⟩
              ·
                have HV : Hid (y = false) := by
                  unfold Hid; rw [Bool.eq_false_iff]; intro hh; have h := HY.out.2 hh; omega
                go_enter Tryd.func32, Tryd.ntmps32
                go_wp2_with fail
                go_ret
                exact ⟨by rw [HV.out] <;> rfl, bn⟩
    · have hq2 : (k == 2) = false := by simp [hk2]
      by_cases hk3 : k = 3
      · subst hk3
        skip
        by_cases ht6 : s < 1
        ·
          have HV : Hid (y = false) := by
            unfold Hid; rw [Bool.eq_false_iff]; intro hh; have h := HY.out.2 hh; omega
          go_enter Tryd.func32, Tryd.ntmps32
          go_wp2_with fail
          go_ret
          exact ⟨by rw [HV.out] <;> rfl, bn⟩
        ·
          by_cases ht5 : 1099511627776 < s
          ·
            have HV : Hid (y = false) := by
              unfold Hid; rw [Bool.eq_false_iff]; intro hh; have h := HY.out.2 hh; omega
            go_enter Tryd.func32, Tryd.ntmps32
            go_wp2_with fail
            go_ret
            exact ⟨by rw [HV.out] <;> rfl, bn⟩
          ·
            by_cases ht4 : o < 0
            ·
              have HV : Hid (y = false) := by
                unfold Hid; rw [Bool.eq_false_iff]; intro hh; have h := HY.out.2 hh; omega
              go_enter Tryd.func32, Tryd.ntmps32
              go_wp2_with fail
              go_ret
              exact ⟨by rw [HV.out] <;> rfl, bn⟩
            ·
              by_cases ht3 : 7 < o
              ·
                have HV : Hid (y = false) := by
                  unfold Hid; rw [Bool.eq_false_iff]; intro hh; have h := HY.out.2 hh; omega
                go_enter Tryd.func32, Tryd.ntmps32
                go_wp2_with fail
                go_ret
                exact ⟨by rw [HV.out] <;> rfl, bn⟩
              ·
                by_cases ht2 : 0 ≤ l
                ·
                  by_cases ht1 : l ≤ 512
                  ·
                    have HV : Hid (y = true) := by
                      exact HY.out.1 (by first | omega | (simp only [true_and, true_or, or_true, and_true]; omega))
                    go_enter Tryd.func32, Tryd.ntmps32
                    go_wp2_with fail
                    go_ret
                    exact ⟨by rw [HV.out] <;> rfl, bn⟩
                  ·
                    have HV : Hid (y = false) := by
                      unfold Hid; rw [Bool.eq_false_iff]; intro hh; have h := HY.out.2 hh; omega
                    go_enter Tryd.func32, Tryd.ntmps32
                    go_wp2_with fail
                    go_ret
                    exact ⟨by rw [HV.out] <;> rfl, bn⟩
                ·
                  have HV : Hid (y = false) := by
                    unfold Hid; rw [Bool.eq_false_iff]; intro hh; have h := HY.out.2 hh; omega
                  go_enter Tryd.func32, Tryd.ntmps32
                  go_wp2_with fail
                  go_ret
                  exact ⟨by rw [HV.out] <;> rfl, bn⟩
      · have hq3 : (k == 3) = false := by simp [hk3]
        by_cases hk4 : k = 4
        · subst hk4
          skip
          by_cases ht4 : s < 1
          ·
            have HV : Hid (y = false) := by
              unfold Hid; rw [Bool.eq_false_iff]; intro hh; have h := HY.out.2 hh; omega
            go_enter Tryd.func32, Tryd.ntmps32
            go_wp2_with fail
            go_ret
            exact ⟨by rw [HV.out] <;> rfl, bn⟩
          ·
            by_cases ht3 : 1099511627776 < s
            ·
              have HV : Hid (y = false) := by
                unfold Hid; rw [Bool.eq_false_iff]; intro hh; have h := HY.out.2 hh; omega
              go_enter Tryd.func32, Tryd.ntmps32
              go_wp2_with fail
              go_ret
              exact ⟨by rw [HV.out] <;> rfl, bn⟩
            ·
              by_cases ht2 : o < 0
              ·
                have HV : Hid (y = false) := by
                  unfold Hid; rw [Bool.eq_false_iff]; intro hh; have h := HY.out.2 hh; omega
                go_enter Tryd.func32, Tryd.ntmps32
                go_wp2_with fail
                go_ret
                exact ⟨by rw [HV.out] <;> rfl, bn⟩
              ·
                by_cases ht1 : 7 < o
                ·
                  have HV : Hid (y = false) := by
                    unfold Hid; rw [Bool.eq_false_iff]; intro hh; have h := HY.out.2 hh; omega
                  go_enter Tryd.func32, Tryd.ntmps32
                  go_wp2_with fail
                  go_ret
                  exact ⟨by rw [HV.out] <;> rfl, bn⟩
                ·
                  have HV : Hid (y = true) := by
                    exact HY.out.1 (by first | omega | (simp only [true_and, true_or, or_true, and_true]; omega))
                  go_enter Tryd.func32, Tryd.ntmps32
                  go_wp2_with fail
                  go_ret
                  exact ⟨by rw [HV.out] <;> rfl, bn⟩
        · have hq4 : (k == 4) = false := by simp [hk4]
          by_cases hk5 : k = 5
          · subst hk5
            skip
            by_cases ht6 : s < 1
            ·
              have HV : Hid (y = false) := by
                unfold Hid; rw [Bool.eq_false_iff]; intro hh; have h := HY.out.2 hh; omega
              go_enter Tryd.func32, Tryd.ntmps32
              go_wp2_with fail
              go_ret
              exact ⟨by rw [HV.out] <;> rfl, bn⟩
            ·
              by_cases ht5 : 1099511627776 < s
              ·
                have HV : Hid (y = false) := by
                  unfold Hid; rw [Bool.eq_false_iff]; intro hh; have h := HY.out.2 hh; omega
                go_enter Tryd.func32, Tryd.ntmps32
                go_wp2_with fail
                go_ret
                exact ⟨by rw [HV.out] <;> rfl, bn⟩
              ·
                by_cases ht4 : o < 0
                ·
                  have HV : Hid (y = false) := by
                    unfold Hid; rw [Bool.eq_false_iff]; intro hh; have h := HY.out.2 hh; omega
                  go_enter Tryd.func32, Tryd.ntmps32
                  go_wp2_with fail
                  go_ret
                  exact ⟨by rw [HV.out] <;> rfl, bn⟩
                ·
                  by_cases ht3 : 7 < o
                  ·
                    have HV : Hid (y = false) := by
                      unfold Hid; rw [Bool.eq_false_iff]; intro hh; have h := HY.out.2 hh; omega
                    go_enter Tryd.func32, Tryd.ntmps32
                    go_wp2_with fail
                    go_ret
                    exact ⟨by rw [HV.out] <;> rfl, bn⟩
                  ·
                    by_cases ht2 : 1 ≤ n
                    ·
                      by_cases ht1 : n ≤ 100
                      ·
                        have HV : Hid (y = true) := by
                          exact HY.out.1 (by first | omega | (simp only [true_and, true_or, or_true, and_true]; omega))
                        go_enter Tryd.func32, Tryd.ntmps32
                        go_wp2_with fail
                        go_ret
                        exact ⟨by rw [HV.out] <;> rfl, bn⟩
                      ·
                        have HV : Hid (y = false) := by
                          unfold Hid; rw [Bool.eq_false_iff]; intro hh; have h := HY.out.2 hh; omega
                        go_enter Tryd.func32, Tryd.ntmps32
                        go_wp2_with fail
                        go_ret
                        exact ⟨by rw [HV.out] <;> rfl, bn⟩
                    ·
                      have HV : Hid (y = false) := by
                        unfold Hid; rw [Bool.eq_false_iff]; intro hh; have h := HY.out.2 hh; omega
                      go_enter Tryd.func32, Tryd.ntmps32
                      go_wp2_with fail
                      go_ret
                      exact ⟨by rw [HV.out] <;> rfl, bn⟩
          · have hq5 : (k == 5) = false := by simp [hk5]
            by_cases hk6 : k = 6
            · subst hk6
              skip
              by_cases ht6 : s < 1
              ·
                have HV : Hid (y = false) := by
                  unfold Hid; rw [Bool.eq_false_iff]; intro hh; have h := HY.out.2 hh; omega
                go_enter Tryd.func32, Tryd.ntmps32
                go_wp2_with fail
                go_ret
                exact ⟨by rw [HV.out] <;> rfl, bn⟩
              ·
                by_cases ht5 : 1099511627776 < s
                ·
                  have HV : Hid (y = false) := by
                    unfold Hid; rw [Bool.eq_false_iff]; intro hh; have h := HY.out.2 hh; omega
                  go_enter Tryd.func32, Tryd.ntmps32
                  go_wp2_with fail
                  go_ret
                  exact ⟨by rw [HV.out] <;> rfl, bn⟩
                ·
                  by_cases ht4 : o < 0
                  ·
                    have HV : Hid (y = false) := by
                      unfold Hid; rw [Bool.eq_false_iff]; intro hh; have h := HY.out.2 hh; omega
                    go_enter Tryd.func32, Tryd.ntmps32
                    go_wp2_with fail
                    go_ret
                    exact ⟨by rw [HV.out] <;> rfl, bn⟩
                  ·
                    by_cases ht3 : 7 < o
                    ·
                      have HV : Hid (y = false) := by
                        unfold Hid; rw [Bool.eq_false_iff]; intro hh; have h := HY.out.2 hh; omega
                      go_enter Tryd.func32, Tryd.ntmps32
                      go_wp2_with fail
                      go_ret
                      exact ⟨by rw [HV.out] <;> rfl, bn⟩
                    ·
                      by_cases ht2 : 1 ≤ n
                      ·
                        by_cases ht1 : n ≤ 100
                        ·
                          have HV : Hid (y = true) := by
                            exact HY.out.1 (by first | omega | (simp only [true_and, true_or, or_true, and_true]; omega))
                          go_enter Tryd.func32, Tryd.ntmps32
                          go_wp2_with fail
                          go_ret
                          exact ⟨by rw [HV.out] <;> rfl, bn⟩
                        ·
                          have HV : Hid (y = false) := by
                            unfold Hid; rw [Bool.eq_false_iff]; intro hh; have h := HY.out.2 hh; omega
                          go_enter Tryd.func32, Tryd.ntmps32
                          go_wp2_with fail
                          go_ret
                          exact ⟨by rw [HV.out] <;> rfl, bn⟩
                      ·
                        have HV : Hid (y = false) := by
                          unfold Hid; rw [Bool.eq_false_iff]; intro hh; have h := HY.out.2 hh; omega
                        go_enter Tryd.func32, Tryd.ntmps32
                        go_wp2_with fail
                        go_ret
                        exact ⟨by rw [HV.out] <;> rfl, bn⟩
            · have hq6 : (k == 6) = false := by simp [hk6]
              by_cases ht4 : s < 1
              ·
                have HV : Hid (y = false) := by
                  unfold Hid; rw [Bool.eq_false_iff]; intro hh; have h := HY.out.2 hh; omega
                go_enter Tryd.func32, Tryd.ntmps32
                go_wp2_with fail
                go_ret
                exact ⟨by rw [HV.out] <;> rfl, bn⟩
              ·
                by_cases ht3 : 1099511627776 < s
                ·
                  have HV : Hid (y = false) := by
                    unfold Hid; rw [Bool.eq_false_iff]; intro hh; have h := HY.out.2 hh; omega
                  go_enter Tryd.func32, Tryd.ntmps32
                  go_wp2_with fail
                  go_ret
                  exact ⟨by rw [HV.out] <;> rfl, bn⟩
                ·
                  by_cases ht2 : o < 0
                  ·
                    have HV : Hid (y = false) := by
                      unfold Hid; rw [Bool.eq_false_iff]; intro hh; have h := HY.out.2 hh; omega
                    go_enter Tryd.func32, Tryd.ntmps32
                    go_wp2_with fail
                    go_ret
                    exact ⟨by rw [HV.out] <;> rfl, bn⟩
                  ·
                    by_cases ht1 : 7 < o
                    ·
                      have HV : Hid (y = false) := by
                        unfold Hid; rw [Bool.eq_false_iff]; intro hh; have h := HY.out.2 hh; omega
                      go_enter Tryd.func32, Tryd.ntmps32
                      go_wp2_with fail
                      go_ret
                      exact ⟨by rw [HV.out] <;> rfl, bn⟩
                    ·
                      have HV : Hid (y = false) := by
                        unfold Hid; rw [Bool.eq_false_iff]; intro hh; have h := HY.out.2 hh; omega
                      go_enter Tryd.func32, Tryd.ntmps32
                      go_wp2_with fail
                      go_ret
                      exact ⟨by rw [HV.out] <;> rfl, bn⟩
end Go.Proofs.YthkeoimjjgmppaaDoor

/- Entries: what a kind names; the code's Clean. -/
namespace Go.Proofs.YthkeoimjjgmppaaDoor
open Go.RowKit
set_option linter.unusedVariables false
set_option maxRecDepth 100000

theorem cloneB_any (D : Nat → Prop) (A : Option Addr) (c : Nat) (bs : List UInt8) (w : World) (h : RdB w D A bs) (hl : bs.length ≤ big) :
    Calls Tryd.prog 70 #[.slice A bs.length c] w fun e w' => ∃ v, e = .returned v ∧ OwnB w' w.heap.size v bs ∧ Below w.heap.size w w' := by
  rcases A with _ | ad
  · have hz : bs = [] := by
      rcases Nat.eq_zero_or_pos bs.length with h0 | h0
      · exact List.eq_nil_of_length_eq_zero h0
      · obtain ⟨ad, h, _⟩ := h.2 h0
        cases h
    subst hz
    go_enter Tryd.func70, Tryd.ntmps70
    go_wp2
    go_ret
    exact ⟨_, rfl, OwnB.nil, Below.refl _ _⟩
  · have hem : OwnB (w.alloc (.cells #[] 5)) w.heap.size (.slice (some ⟨w.heap.size, 0, none⟩) 0 0) [] := own_lit w _ [] _ (Nat.le_refl _) (by simp)
    go_enter Tryd.func70, Tryd.ntmps70
    go_wp2_with (at_builtin; refine wpList_appB rfl (.tmp 5) (.tmp 6) rfl w.heap.size (.slice (some ⟨w.heap.size, 0, none⟩) 0 0) [] rfl hem D _ _ c bs rfl rfl (Rd.alloc h _) (by simpa using hl) (by simp) ?_; intro v' w' h1 h2)
    go_ret
    exact ⟨_, rfl, h1, below_app ((Below.refl _ _).alloc (Nat.le_refl _) _) hem h2.grown (Nat.le_refl _) (by simp)⟩
def nmO (i : Nat) : Int := [(0 : Int), 9, 3, 2, 0, 4, 4].getD i 0
/-- The table of what the kinds name lies where the program's text lays it. -/
def TabE (w : World) : Prop := ∀ i, i < 7 → w.cell? ⟨0, i, none⟩ = some (.int .i64 (nmO i))
theorem TabE.lt {w : World} (h : TabE w) : 0 < w.heap.size := World.block_lt_of_cell? w _ (h 0 (by decide))
theorem TabE.below {w w' : World} (h : TabE w) (hb : Below w.heap.size w w') : TabE w' := fun i hi => by
  have e := hb.block 0 h.lt
  have := h i hi
  unfold World.cell? at this ⊢
  rw [e]; exact this
theorem TabE.mod {X : Nat → Prop} {w w' : World} (h : TabE w) (hb : Mod X w w') (hx : ¬ X 0) : TabE w' := fun i hi => by
  have e := hb.block 0 h.lt hx
  have := h i hi
  unfold World.cell? at this ⊢
  rw [e]; exact this
theorem TabE.alloc {w : World} (h : TabE w) (o : Obj) : TabE (w.alloc o) := h.below (below_new _ _)
def namedO (k what : Int) : Bool := if 0 ≤ k ∧ k < 7 then (bits .and .i64 (nmO k.toNat) what != 0) else false
theorem namedO_out {k what : Int} (h : ¬ (0 ≤ k ∧ k < 7)) : namedO k what = false := by unfold namedO; rw [if_neg h]
theorem named_any (k what s o f l n : Int) (A : Option Addr) (c m : Nat) (w : World) (ht : TabE w) :
    Calls Tryd.prog 69 #[.agg #[.int .i64 s, .int .i64 o, .int .i64 k, .int .i64 f, .int .i64 l, .int .i64 n, .slice A m c], .int .i64 what] w fun r w' => r = .returned (.bool (namedO k what)) ∧ w' = w.alloc (.cells #[.int .i64 s, .int .i64 o, .int .i64 k, .int .i64 f, .int .i64 l, .int .i64 n, .slice A m c] 32) := by
  by_cases h0 : 0 ≤ k
  · by_cases h7 : k < 7
    · obtain ⟨i, rfl⟩ : ∃ i : Nat, k = (i : Int) := ⟨k.toNat, by omega⟩
      have hi : i < 7 := by omega
      have hc := ht i hi
      have hlt := ht.lt
      have HN : Hid (namedO (i : Int) what = (bits .and .i64 (nmO i) what != 0)) := by unfold Hid namedO; rw [if_pos ⟨h0, h7⟩]; rfl
      generalize nmO i = x at *
      have hT : ((i : Int)).toNat = i := by omega
      go_enter Tryd.func69, Tryd.ntmps69
      go_wp2_with fail
      go_ret
      exact ⟨by rw [HN.out] <;> rfl, rfl⟩
    · have HN := Lib.hid (namedO_out (k := k) (what := what) (fun h => h7 h.2))
      go_enter Tryd.func69, Tryd.ntmps69
      go_wp2_with fail
      go_ret
      exact ⟨by rw [HN.out] <;> rfl, rfl⟩
  · have HN := Lib.hid (namedO_out (k := k) (what := what) (fun h => h0 h.1))
    go_enter Tryd.func69, Tryd.ntmps69
    go_wp2_with fail
    go_ret
    exact ⟨by rw [HN.out] <;> rfl, rfl⟩
theorem named_tab (k : Int) : namedO k 1 = decide (k = 1 ∨ k = 2) ∧ namedO k 2 = decide (k = 2 ∨ k = 3) ∧ namedO k 4 = decide (k = 5 ∨ k = 6) ∧ namedO k 8 = decide (k = 1) := by
  by_cases h : 0 ≤ k ∧ k < 7
  · have : k = 0 ∨ k = 1 ∨ k = 2 ∨ k = 3 ∨ k = 4 ∨ k = 5 ∨ k = 6 := by omega
    rcases this with rfl | rfl | rfl | rfl | rfl | rfl | rfl <;> decide
  · rw [namedO_out h, namedO_out h, namedO_out h, namedO_out h]
    refine ⟨?_, ?_, ?_, ?_⟩ <;> refine (decide_eq_false ?_).symm <;> omega
def cleanO (e : E7) : E7 := { e with off := if e.kind = 1 ∨ e.kind = 2 then e.off else 0, len := if e.kind = 2 ∨ e.kind = 3 then e.len else 0, snap := if e.kind = 5 ∨ e.kind = 6 then e.snap else 0, data := if e.kind = 1 then e.data else [] }
theorem infoEn7 : (Tryd.prog.info? 32).map (·.size) = some 7 := by kernel_rfl
theorem results_cell {P : Program} {fn : Func} {p : Tmp} {ty : TypeId} (h : fn.results = #[.cell p ty]) (tmps : Array Value) (w : World) (g : Nat) (T : TypeId) (cs : Array Value) (fr : Nat × Nat) (d : TypeDesc)
    (hp : tmps.getD p undef = .pointer (some ⟨g, 0, none⟩)) (hg : w.heap[g]? = some (.cells cs T fr))
    (hu : P.underlying ty = some d) (hd : (match d with | .struct _ | .array _ _ => true | _ => false) = true) (hi : (P.info? ty).map (·.size) = some cs.size) :
    (results fn tmps).run P w = .ok (.agg cs) w := by
  have hp' : tmps[p]?.getD undef = .pointer (some ⟨g, 0, none⟩) := by simpa using hp
  simp [results, h, hp', asAddr, run_loadVar_row w g T ty cs fr d hg hu hd hi]
theorem results_cell_tmp {P : Program} {fn : Func} {p t : Tmp} {ty : TypeId} (h : fn.results = #[.cell p ty, .tmp t]) (tmps : Array Value) (w : World) (g : Nat) (T : TypeId) (cs : Array Value) (fr : Nat × Nat) (d : TypeDesc)
    (hp : tmps.getD p undef = .pointer (some ⟨g, 0, none⟩)) (hg : w.heap[g]? = some (.cells cs T fr))
    (hu : P.underlying ty = some d) (hd : (match d with | .struct _ | .array _ _ => true | _ => false) = true) (hi : (P.info? ty).map (·.size) = some cs.size) :
    (results fn tmps).run P w = .ok (.tuple #[.agg cs, tmps.getD t undef]) w := by
  have hp' : tmps[p]?.getD undef = .pointer (some ⟨g, 0, none⟩) := by simpa using hp
  simp [results, h, hp', asAddr, run_loadVar_row w g T ty cs fr d hg hu hd hi]

section
variable (w : World) (a0 a1 a2 a3 a4 a5 a6 : Value) (x2 : Array Value) (o1 o2 o3 o4 o5 o6 : Obj)
theorem six_b : Below w.heap.size w ((((((w.alloc o1).alloc o2).alloc o3).alloc o4).alloc o5).alloc o6) :=
  ((((((below_new w o1).thenB' (below_new _ o2)).thenB' (below_new _ o3)).thenB' (below_new _ o4)).thenB' (below_new _ o5)).thenB' (below_new _ o6))
theorem six_rd {D : Nat → Prop} {A : Option Addr} {d : List UInt8} (h : RdB w D A d) : RdB ((((((w.alloc o1).alloc o2).alloc o3).alloc o4).alloc o5).alloc o6) D A d :=
  ((((((Rd.alloc h o1).alloc o2).alloc o3).alloc o4).alloc o5).alloc o6)
theorem six_g : Blk ((((((w.alloc (.cells #[a0, a1, a2, a3, a4, a5, a6] 32)).alloc o2).alloc o3).alloc o4).alloc o5).alloc o6) w.heap.size 32 #[a0, a1, a2, a3, a4, a5, a6] :=
  ((((Blk.new w _ _).below (below_new _ o2)).below (below_new _ o3)).below (below_new _ o4)).below (below_new _ o5) |>.below (below_new _ o6)
theorem six_r : Blk ((((((w.alloc o1).alloc (.cells x2 32)).alloc o3).alloc o4).alloc o5).alloc o6) (w.heap.size + 1) 32 x2 := by
  have h := (((Blk.new (w.alloc o1) 32 x2).below (below_new _ o3)).below (below_new _ o4)).below (below_new _ o5) |>.below (below_new _ o6)
  rwa [show (w.alloc o1).heap.size = w.heap.size + 1 from by show (w.heap.push o1).size = _; simp] at h
theorem set7 {w : World} {g : Nat} {a0 a1 a2 a3 a4 a5 a6 : Value} (h : Blk w g 32 #[a0, a1, a2, a3, a4, a5, a6]) (v : Value) : Blk (w.setCell ⟨g, 6, none⟩ v) g 32 #[a0, a1, a2, a3, a4, a5, v] := by
  have := h.set_ 6 v
  simpa using this
end
/-- The five ways of what a kind names. -/
def Five (b1 b2 b3 b4 : Bool) : Prop := (b1 = true ∧ b2 = false ∧ b3 = false ∧ b4 = true) ∨ (b1 = true ∧ b2 = true ∧ b3 = false ∧ b4 = false) ∨ (b1 = false ∧ b2 = true ∧ b3 = false ∧ b4 = false) ∨ (b1 = false ∧ b2 = false ∧ b3 = true ∧ b4 = false) ∨ (b1 = false ∧ b2 = false ∧ b3 = false ∧ b4 = false)
set_option maxHeartbeats 4000000 in
theorem Clean_b (s o k f l n : Int) (d : List UInt8) (b1 b2 b3 b4 : Bool) (h5 : Five b1 b2 b3 b4) (U1 : Hid (namedO k 1 = b1)) (U2 : Hid (namedO k 2 = b2)) (U3 : Hid (namedO k 4 = b3)) (U4 : Hid (namedO k 8 = b4)) (D : Nat → Prop) (A : Option Addr) (c : Nat) (w : World) (hr : RdB w D A d) (hl : d.length ≤ big) (ht : TabE w) :
    Calls Tryd.prog 47 #[.agg #[.int .i64 s, .int .i64 o, .int .i64 k, .int .i64 f, .int .i64 l, .int .i64 n, .slice A d.length c]] w fun r w' => ∃ v, r = .returned (.agg #[.int .i64 s, .int .i64 o, .int .i64 k, .int .i64 (if b1 then f else 0), .int .i64 (if b2 then l else 0), .int .i64 (if b3 then n else 0), v]) ∧ OwnB w' w.heap.size v (if b4 then d else []) ∧ Below w.heap.size w w' := by
  rcases h5 with ⟨rfl, rfl, rfl, rfl⟩ | ⟨rfl, rfl, rfl, rfl⟩ | ⟨rfl, rfl, rfl, rfl⟩ | ⟨rfl, rfl, rfl, rfl⟩ | ⟨rfl, rfl, rfl, rfl⟩
  all_goals
    go_enter Tryd.func47, Tryd.ntmps47
    go_wp2_with fail
    refine (named_any _ _ _ _ _ _ _ _ _ _ _ (by repeat (first | exact ht | refine TabE.alloc ?_ _))).mono ?_
    rintro r wx ⟨rfl, rfl⟩
    rw [U1.out]
    go_wp2_with fail
    refine (named_any _ _ _ _ _ _ _ _ _ _ _ (by repeat (first | exact ht | refine TabE.alloc ?_ _))).mono ?_
    rintro r wx ⟨rfl, rfl⟩
    rw [U2.out]
    go_wp2_with fail
    refine (named_any _ _ _ _ _ _ _ _ _ _ _ (by repeat (first | exact ht | refine TabE.alloc ?_ _))).mono ?_
    rintro r wx ⟨rfl, rfl⟩
    rw [U3.out]
    go_wp2_with fail
    refine (named_any _ _ _ _ _ _ _ _ _ _ _ (by repeat (first | exact ht | refine TabE.alloc ?_ _))).mono ?_
    rintro r wx ⟨rfl, rfl⟩
    rw [U4.out]
    go_wp2_with fail
    first
      | (refine (cloneB_any D A c d _ (six_rd w _ _ _ _ _ _ hr) hl).mono ?_)
      | (refine (cloneB_any (fun _ => False) none 0 [] _ RdB.nil (Nat.zero_le _)).mono ?_)
    rintro r w9 ⟨v9, rfl, o9, b9⟩
    obtain ⟨A9, n9, c9, rfl⟩ : ∃ A n c, v9 = .slice A n c := by obtain ⟨A9, c9, hv9, _, _⟩ := OwnB.form o9; exact ⟨_, _, _, hv9⟩
    have hG := (six_g w _ _ _ _ _ _ _ _ _ _ _ _).below b9
    have hR := (six_r w _ _ _ _ _ _).below b9
    have bb := (six_b w _ _ _ _ _ _).thenB' b9
    have c6 := hG.cell 6
    have f6 := hG.frozen 6
    simp at c6
    have hGs := set7 hG (.slice A9 n9 c9)
    have hRs := hR.mod ((Mod.refl (· = w.heap.size) w9).setG 6 (.slice A9 n9 c9)) (by omega)
    have bbs := below_store (k := 6) bb (Nat.le_refl _) (.slice A9 n9 c9)
    have o9 := OwnB.low (OwnB.mod o9 ((Mod.refl (· = w.heap.size) w9).setG 6 (.slice A9 n9 c9)) (fun i hi e => by have hi := (World.ownsRow.lt o9 i hi).1; have e : i = w.heap.size := e; simp at hi; omega)) (show w.heap.size + 2 ≤ _ by simp)
    clear hr hl ht U1 U2 U3 U4 b9
    go_wp2_with first
      | (with_reducible show wpList _ _ _ _ _ _
         refine wpList_load_row rfl 32 (.tmp 1) rfl w.heap.size rfl 32 _ (0, 0) _ hGs Tryd.underlying32 rfl infoEn7 ?_)
      | (with_reducible show wpList _ _ _ _ _ _
         refine wpList_store_row rfl 32 (.tmp 2) (.tmp 23) rfl (w.heap.size + 1) _ rfl rfl 32 _ hRs infoEn7 rfl (by simp [Value.oneCell']) ?_)
    refine bodyPost_ret (results_cell rfl _ _ (w.heap.size + 1) _ _ (0, 0) _ rfl (setRow_heap _ _ _ _ _ _ hRs) Tryd.underlying32 rfl infoEn7) rfl ⟨_, rfl, ?_, ?_⟩
    · exact OwnB.low (OwnB.mod o9 (mod_setRow _) (fun i hi e => by have hi := (World.ownsRow.lt o9 i hi).1; have e : i = w.heap.size + 1 := e; omega)) (by omega)
    · exact bbs.thenM (mod_setRow _) bbs.size (fun i hi e => by have e : i = w.heap.size + 1 := e; omega)
end Go.Proofs.YthkeoimjjgmppaaDoor

/- The table of what the kinds of entries name, out of what the program's text lays. -/
namespace Go.Proofs.YthkeoimjjgmppaaDoor
open Go.ChangeShapes Go.WideShapes Go.ChangeAt Go.WideMaps Go.WideElems Go.RowKit
set_option linter.unusedVariables false

def laid23 : List (String × DataW Unit) := [("terrazzo/entry.names", Rows.laid_terrazzo_entry_names)]
theorem name_tab : (Rows.laid_terrazzo_entry_names : DataW Unit) = Lib.tabData .i64 [0, 9, 3, 2, 0, 4, 4] := by rfl
theorem gNames : Tryd.prog.globalNamed "terrazzo/entry.names" = some 0 := by kernel_rfl
theorem tNames : (Tryd.prog.globals[0]?).map (·.type) = some 115 := by kernel_rfl
theorem of_laid {W : World} (h : laidMetH Tryd.prog laid23 W) : TabE W := by
  rw [MakeChecks.laidMetH_plain _ _ _ (by kernel_rfl)] at h
  unfold laid23 at h
  rw [name_tab] at h
  have p5 := Lib.tabIs_of_head gNames tNames Tryd.underlying115 Tryd.underlying3 (by kernel_rfl) (by kernel_rfl) h
  intro i hi
  rw [p5.cell gNames i hi]
  rfl
/-- The door's own heap meets the condition. -/
theorem door_met (os : Os) (args : Array Value) : laidMetH Tryd.prog laid23 ((World.doorLaid Tryd.prog 14 os).forCall (fun _ _ => 0) ⟨#[], args, []⟩).memory :=
  laidMetH_of_parts3 (fuel := 8) (laidMet_of_run' 8 (by kernel_rfl) (by kernel_rfl)) (by kernel_rfl) (by kernel_rfl)
end Go.Proofs.YthkeoimjjgmppaaDoor
