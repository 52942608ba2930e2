/- Plain laws behind ObjmapFresh. -/
import Derived.Test.YtmifmnpbkdjbaaaObjC
namespace Go.Proofs.Ytmifmnpbkdjbaaa
set_option linter.unusedVariables false

theorem gN_fresh (m : List Int) (k : Nat) : gN (freshO m) k = freshF m k := by
  unfold freshO
  rw [gN_rowF _ (fun k _ => by have := gN_bd m k; unfold freshF; split <;> omega)]
  split
  · rfl
  · unfold freshF; rw [gN_far m k (.inr (by omega))]; rfl
theorem fresh_ne1 (m : List Int) (k : Nat) : gN (freshO m) k ≠ 1 := by
  rw [gN_fresh]; unfold freshF; split <;> omega
theorem fresh_zero (m : List Int) (k : Nat) : gN (freshO m) k = 0 ↔ gN m k = 0 := by
  rw [gN_fresh]; unfold freshF; split <;> omega
theorem gN_set (m : List Int) (k : Nat) (st : Int) (hk : k < 512) (hst : 0 ≤ st ∧ st ≤ 2) (j : Nat) : gN (setO m (k : Int) st) j = setF m k st j := by
  unfold setO
  rw [if_pos ⟨by omega, by omega, hst⟩, Int.toNat_natCast, gN_rowF _ (fun j _ => by have := gN_bd m j; unfold setF; split <;> omega)]
  split
  · rfl
  · unfold setF; rw [if_neg (by omega), gN_far m j (.inr (by omega))]
theorem chg_none (p : Nat → Bool) : ∀ n, (∀ i, i < n → p i = false) → chg p n = []
  | 0, _ => rfl
  | n + 1, h => by rw [chg_no p n (h n (by omega)), chg_none p n fun i hi => h i (by omega)]
theorem chg_one (p : Nat → Bool) (k : Nat) : ∀ n, k < n → (∀ i, i < n → p i = decide (i = k)) → chg p n = [(k : Int)]
  | 0, h, _ => by omega
  | n + 1, h, hp => by
    rcases Nat.lt_or_ge k n with h1 | h1
    · rw [chg_no p n (by rw [hp n (by omega)]; simp; omega), chg_one p k n h1 fun i hi => hp i (by omega)]
    · obtain rfl : k = n := by omega
      rw [chg_yes p k (by rw [hp k (by omega)]; simp), chg_none p k fun i hi => by rw [hp i (by omega)]; simp; omega]
      rfl
theorem dd_same (z : Int) (h : z ≠ 1) : dd z z = false := by unfold dd; simp [h]
theorem fresh_changed (m : List Int) (k : Nat) (hk : k < 512) : changedO (freshO m) [setO (freshO m) (k : Int) 1] = [(k : Int)] := by
  refine chg_one _ k 512 hk fun i hi => ?_
  have e : diffO (freshO m) [setO (freshO m) (k : Int) 1] i = dd (gN (setO (freshO m) (k : Int) 1) i) (gN (freshO m) i) := by
    unfold diffO dd; simp
  rw [e, gN_set _ k 1 hk (by omega)]
  unfold setF
  by_cases h : i = k
  · subst h; rw [if_pos rfl]; simp [dd]
  · rw [if_neg h, dd_same _ (fresh_ne1 m i)]; simp [h]
theorem fresh_same (m : List Int) : changedO (freshO m) [freshO m] = [] := by
  refine chg_none _ 512 fun i hi => ?_
  have e : diffO (freshO m) [freshO m] i = dd (gN (freshO m) i) (gN (freshO m) i) := by unfold diffO dd; simp
  rw [e, dd_same _ (fresh_ne1 m i)]
theorem fresh_dirty (m : List Int) (k : Nat) (hk : k < 512) : gN (setO m (k : Int) 1) k = 1 := by
  rw [gN_set _ k 1 hk (by omega)]; unfold setF; rw [if_pos rfl]
theorem fresh_gone (m : List Int) (k : Nat) (hk : k < 512) : gN (setO m (k : Int) 0) k = 0 := by
  rw [gN_set _ k 0 hk (by omega)]; unfold setF; rw [if_pos rfl]
end Go.Proofs.Ytmifmnpbkdjbaaa
