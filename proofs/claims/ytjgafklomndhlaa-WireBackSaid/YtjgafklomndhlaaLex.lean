/- Of one width a greater number has bytes that come later, in plain Lean. -/
import Derived.Test.YtjgafklomndhlaaWire2
namespace Go.Proofs.Ytjgafklomndhlaa
open Go.RowKit

theorem encN_cons (k m : Nat) : encN (k + 1) m = UInt8.ofNat (m / 256 ^ k % 256) :: encN k m := by
  unfold encN
  rw [List.range_succ_eq_map, List.map_cons, List.map_map]
  congr 1
  apply List.map_congr_left
  intro i hi
  have : i < k := by simpa using hi
  simp only [Function.comp]
  congr 4
  omega
theorem encN_mod (k m : Nat) : encN k (m % 256 ^ k) = encN k m := by
  unfold encN
  apply List.map_congr_left
  intro i hi
  have hi : i < k := by simpa using hi
  congr 1
  have e : 256 ^ k = 256 ^ (k - 1 - i) * (256 ^ (i + 1)) := by rw [← Nat.pow_add]; congr 1; omega
  rw [e, Nat.mod_mul_right_div_self, Nat.pow_succ', Nat.mod_mul_right_mod]
theorem lex_lt (k : Nat) : ∀ a b : Nat, a < b → b < 256 ^ k → Op.bytesLess (encN k a) (encN k b) = true := by
  induction k with
  | zero => intro a b h1 h2; simp at h2; omega
  | succ k ih =>
    intro a b h1 h2
    have hp : 0 < 256 ^ k := Nat.pow_pos (by omega)
    rw [Nat.pow_succ] at h2
    have qa : a / 256 ^ k < 256 := Nat.div_lt_of_lt_mul (by rw [Nat.mul_comm] at h2; omega)
    have qb : b / 256 ^ k < 256 := Nat.div_lt_of_lt_mul (by rw [Nat.mul_comm] at h2; omega)
    have hq : a / 256 ^ k ≤ b / 256 ^ k := Nat.div_le_div_right (by omega)
    rw [encN_cons, encN_cons, Nat.mod_eq_of_lt qa, Nat.mod_eq_of_lt qb]
    unfold Op.bytesLess
    rcases Nat.lt_or_eq_of_le hq with hlt | heq
    · have : UInt8.ofNat (a / 256 ^ k) < UInt8.ofNat (b / 256 ^ k) := by
        rw [UInt8.lt_iff_toNat_lt, UInt8.toNat_ofNat', UInt8.toNat_ofNat', Nat.mod_eq_of_lt (by omega), Nat.mod_eq_of_lt (by omega)]
        exact hlt
      simp [this]
    · rw [heq]
      have ha := Nat.div_add_mod a (256 ^ k)
      have hb := Nat.div_add_mod b (256 ^ k)
      rw [heq] at ha
      have := ih (a % 256 ^ k) (b % 256 ^ k) (by omega) (Nat.mod_lt _ hp)
      rw [encN_mod, encN_mod] at this
      simp [this]
theorem encN_top (k : Nat) : (encN k (256 ^ k - 1)).all (· == 255) = true := by
  rw [List.all_eq_true]
  intro x hx
  obtain ⟨i, hi, rfl⟩ := List.mem_map.1 hx
  have hi : i < k := by simpa using hi
  have e : (256 ^ k - 1) / 256 ^ (k - 1 - i) % 256 = 255 := by
    have h1 : 256 ^ k = 256 ^ (i + 1) * 256 ^ (k - 1 - i) := by rw [← Nat.pow_add]; congr 1; omega
    have hp : 0 < 256 ^ (k - 1 - i) := Nat.pow_pos (by omega)
    have hp2 : 0 < 256 ^ i := Nat.pow_pos (by omega)
    have h2 : (256 ^ k - 1) / 256 ^ (k - 1 - i) = 256 ^ (i + 1) - 1 := by
      rw [h1]
      have h3 : 256 ^ (i + 1) * 256 ^ (k - 1 - i) - 1 = (256 ^ (i + 1) - 1) * 256 ^ (k - 1 - i) + (256 ^ (k - 1 - i) - 1) := by
        rw [Nat.sub_mul, Nat.one_mul]
        have : 256 ^ (k - 1 - i) ≤ 256 ^ (i + 1) * 256 ^ (k - 1 - i) := Nat.le_mul_of_pos_left _ (Nat.pow_pos (by omega))
        omega
      rw [h3, Nat.mul_comm, Nat.mul_add_div hp, Nat.div_eq_of_lt (by omega)]
      rfl
    rw [h2, Nat.pow_succ]
    omega
  rw [e]
  rfl
theorem numE_len (width n : Int) : (numE width n).length = (wideI width).toNat := by unfold numE; rw [encN_length]
theorem numE_order (width n m : Int) (h0 : 0 ≤ n) (h : n < m) :
    Op.bytesLess (numE width n) (numE width m) = true ∨ ((numE width n).all (· == 255) = true ∧ numE width n = numE width m) := by
  unfold numE
  generalize (wideI width).toNat = k
  have hm := clampN_lt k m
  rcases Nat.lt_or_ge (clampN k n) (clampN k m) with hl | hl
  · exact .inl (lex_lt k _ _ hl hm)
  · right
    have hp : 0 < 256 ^ k := Nat.pow_pos (by omega)
    have e1 : clampN k n = 256 ^ k - 1 := by unfold clampN at hl ⊢; omega
    have e2 : clampN k m = 256 ^ k - 1 := by unfold clampN at hl ⊢; omega
    rw [e1, e2]
    exact ⟨encN_top k, rfl⟩
end Go.Proofs.Ytjgafklomndhlaa
