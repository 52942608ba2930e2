/- What was put is taken again, rows of numbers too: plain laws. -/
import Derived.Test.YtjgafklomndhlaaBack1
namespace Go.Proofs.Ytjgafklomndhlaa
open Go.RowKit

theorem flat_len (width : Int) (l : List Int) : (l.flatMap (numE width)).length = l.length * (wideI width).toNat := by
  induction l with
  | nil => simp
  | cons x l ih =>
    rw [List.flatMap_cons, List.length_append, ih, numE_len, List.length_cons, Nat.succ_mul]
    omega
theorem decN_cons (k n : Nat) (a r : List UInt8) (h : a.length = k) : decN k (n + 1) (a ++ r) = bigN a :: decN k n r := by
  unfold decN
  rw [List.range_succ_eq_map, List.map_cons, List.map_map]
  refine congr (congrArg List.cons ?_) (List.map_congr_left fun i _ => ?_)
  · rw [Nat.zero_mul, List.drop_zero, ← h, List.take_left]
  · simp only [Function.comp]
    rw [Nat.succ_mul, Nat.add_comm (i * k) k, ← List.drop_drop]
    conv => lhs; rw [← h]
    rw [List.drop_left, h]
theorem decN_flat (width : Int) : ∀ l : List Int, (∀ z ∈ l, 0 ≤ z ∧ z.toNat < 256 ^ (wideI width).toNat) → decN (wideI width).toNat l.length (l.flatMap (numE width)) = l
  | [], _ => rfl
  | z :: l, h => by
    obtain ⟨h1, h2⟩ := h z List.mem_cons_self
    rw [List.flatMap_cons, List.length_cons, decN_cons _ _ _ _ (numE_len width z), decN_flat width l fun y hy => h y (List.mem_cons_of_mem _ hy)]
    refine congrArg (· :: l) ?_
    unfold bigN numE
    rw [bigNat_encN _ _ (clampN_lt _ _)]
    obtain ⟨m, rfl⟩ : ∃ m : Nat, z = (m : Int) := ⟨z.toNat, by omega⟩
    rw [clamp_id _ _ (by simpa using h2)]
theorem rNums_yes (width most : Int) (l : List Int) (rest : List UInt8) (hl : l.length ≤ 255) (hm : (l.length : Int) ≤ max most 0) (hz : ∀ z ∈ l, 0 ≤ z ∧ z.toNat < 256 ^ (wideI width).toNat) :
    rNums width most (numsE width l ++ rest, 0) = (l, (rest, 0)) := by
  have hw := wideI_bd width
  have e : numsE width l = numE 1 (l.length : Nat) ++ l.flatMap (numE width) := by
    unfold numsE
    rw [Nat.min_eq_left hl, List.take_of_length_le (Nat.le_refl _)]
  unfold rNums
  rw [e, List.append_assoc, rNum_numE' 1 l.length _ (by show _ < 256 ^ 1; omega)]
  simp only
  rw [if_neg (by omega), Int.toNat_natCast, rTake_append' _ _ _ (flat_len width l).symm]
  simp only
  rw [flat_len, Nat.mul_div_cancel _ (by omega), decN_flat width l hz]
end Go.Proofs.Ytjgafklomndhlaa
