/- The code's Pack. -/
import Derived.Test.YtmifmnpbkdjbaaaObjQ
import Derived.Test.YtmifmnpbkdjbaaaBlksB
namespace Go.Proofs.Ytmifmnpbkdjbaaa
open Go.RowKit
set_option linter.unusedVariables false

/-- What the byte q has behind i places. -/
def pb (m : List Int) (i q : Nat) : Nat := (if 4 * q < i then (gN m (4 * q)).toNat else 0) + 4 * (if 4 * q + 1 < i then (gN m (4 * q + 1)).toNat else 0) + 16 * (if 4 * q + 2 < i then (gN m (4 * q + 2)).toNat else 0) + 64 * (if 4 * q + 3 < i then (gN m (4 * q + 3)).toNat else 0)
theorem toNat_bd (m : List Int) (k : Nat) : (gN m k).toNat ≤ 2 := by have := gN_bd m k; omega
theorem pb_step (m : List Int) (q t : Nat) (ht : t < 4) : pb m (4 * q + t + 1) q = pb m (4 * q + t) q + (gN m (4 * q + t)).toNat * 4 ^ t ∧ pb m (4 * q + t) q < 4 ^ t ∧ pb m (4 * q + t + 1) q < 256 := by
  have h0 := toNat_bd m (4 * q)
  have h1 := toNat_bd m (4 * q + 1)
  have h2 := toNat_bd m (4 * q + 2)
  have h3 := toNat_bd m (4 * q + 3)
  have : t = 0 ∨ t = 1 ∨ t = 2 ∨ t = 3 := by omega
  unfold pb
  have c (a s : Nat) : (4 * q + a < 4 * q + s) = (a < s) := by simp
  have c0 (s : Nat) : (4 * q < 4 * q + s) = (0 < s) := by simp
  rw [show 4 * q + t + 1 = 4 * q + (t + 1) by omega]
  simp only [c, c0]
  rcases this with rfl | rfl | rfl | rfl
  all_goals
    simp
    omega
theorem pb_other (m : List Int) (i q : Nat) (h : q ≠ i / 4) : pb m (i + 1) q = pb m i q := by
  unfold pb
  have a0 : (4 * q < i + 1) ↔ (4 * q < i) := by omega
  have a1 : (4 * q + 1 < i + 1) ↔ (4 * q + 1 < i) := by omega
  have a2 : (4 * q + 2 < i + 1) ↔ (4 * q + 2 < i) := by omega
  have a3 : (4 * q + 3 < i + 1) ↔ (4 * q + 3 < i) := by omega
  simp only [a0, a1, a2, a3]
theorem gN_tail (m : List Int) (k : Nat) (h : (rowO m).length ≤ k) : gN m k = 0 := by
  rcases Nat.lt_or_ge k 512 with h5 | h5
  · exact lastN_above (gN m) 512 k (by rw [rowO_len] at h; exact h) h5
  · exact gN_far m k (.inr h5)
theorem pb_full (m : List Int) (q : Nat) : pb m (rowO m).length q = quadO m q := by
  have h : ∀ k, (if k < (rowO m).length then (gN m k).toNat else 0) = (gN m k).toNat := fun k => by
    split
    · rfl
    · rw [gN_tail m k (by omega)]; rfl
  unfold pb quadO
  rw [h, h, h, h]
def packS (m : List Int) (i : Nat) : List UInt8 := [UInt8.ofNat ((rowO m).length / 256), UInt8.ofNat ((rowO m).length % 256)] ++ (List.range (((rowO m).length + 3) / 4)).map fun q => UInt8.ofNat (pb m i q)
theorem packS_len (m : List Int) (i : Nat) : (packS m i).length = 2 + ((rowO m).length + 3) / 4 := by unfold packS; simp; omega
theorem packS_full (m : List Int) : packS m (rowO m).length = packO m := by unfold packS packO; simp only [pb_full]
theorem packS_get (m : List Int) (i q : Nat) (h : 2 + q < (packS m i).length) : (packS m i)[2 + q] = UInt8.ofNat (pb m i q) := by
  have e : 2 + q = q + 1 + 1 := by omega
  simp only [e, packS, List.cons_append, List.nil_append, List.getElem_cons_succ, List.getElem_map, List.getElem_range]
theorem packS_step (m : List Int) (i : Nat) : (packS m i).set (2 + i / 4) (UInt8.ofNat (pb m (i + 1) (i / 4))) = packS m (i + 1) := by
  apply List.ext_getElem
  · simp [packS]
  · intro k h1 h2
    rw [List.getElem_set]
    rcases Nat.lt_or_ge k 2 with hk | hk
    · rw [if_neg (by omega)]
      have : k = 0 ∨ k = 1 := by omega
      rcases this with rfl | rfl <;> simp [packS]
    · obtain ⟨q, rfl⟩ : ∃ q, k = 2 + q := ⟨k - 2, by omega⟩
      rw [packS_get m (i + 1) q h2]
      split
      · rename_i h
        have : q = i / 4 := by omega
        rw [this]
      · rename_i h
        rw [packS_get, pb_other m i q (by omega)]
theorem packS_zero (m : List Int) : ((List.replicate (2 + ((rowO m).length + 3) / 4) (0 : UInt8)).set 0 (UInt8.ofNat ((rowO m).length / 256))).set 1 (UInt8.ofNat ((rowO m).length % 256)) = packS m 0 := by
  have e : ∀ q, pb m 0 q = 0 := fun q => by unfold pb; simp
  unfold packS
  rw [Nat.add_comm 2, List.replicate_succ, List.replicate_succ]
  simp only [List.set_cons_zero, List.set_cons_succ, List.cons_append, List.nil_append, e]
  congr 2
  apply List.ext_getElem
  · simp
  · intro k h1 h2; simp
theorem toNat8 (n : Nat) (h : n < 256) : (BitVec.ofInt 8 (n : Int)).toNat = n := by rw [BitVec.toNat_ofInt]; omega
end Go.Proofs.Ytmifmnpbkdjbaaa
