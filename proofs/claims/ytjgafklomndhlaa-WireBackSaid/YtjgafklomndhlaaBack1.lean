/- What was put is taken again: plain laws of the reader and the writers. -/
import Derived.Test.YtjgafklomndhlaaWire4
import Derived.Test.YtjgafklomndhlaaLex
namespace Go.Proofs.Ytjgafklomndhlaa
open Go.RowKit

theorem bigNat_append (a b : List UInt8) : bigNat (a ++ b) = bigNat a * 256 ^ b.length + bigNat b := by
  have h : ∀ (b : List UInt8) (n : Nat), b.foldl (fun n c => n * 256 + c.toNat) n = n * 256 ^ b.length + bigNat b := by
    intro b
    induction b with
    | nil => intro n; simp [bigNat]
    | cons c b ih =>
      intro n
      simp only [List.foldl_cons, List.length_cons, bigNat]
      rw [ih, ih (0 * 256 + c.toNat), Nat.zero_mul, Nat.zero_add]
      rw [Nat.pow_succ, Nat.add_mul]
      have : n * 256 * 256 ^ b.length = n * (256 ^ b.length * 256) := by rw [Nat.mul_assoc, Nat.mul_comm 256]
      omega
  unfold bigNat
  rw [List.foldl_append]
  exact h b _
theorem bigNat_encN (k : Nat) : ∀ m, m < 256 ^ k → bigNat (encN k m) = m := by
  induction k with
  | zero => intro m h; simp at h; subst h; rfl
  | succ k ih =>
    intro m h
    have hp : 0 < 256 ^ k := Nat.pow_pos (by omega)
    rw [encN_cons, ← encN_mod, show UInt8.ofNat (m / 256 ^ k % 256) :: encN k (m % 256 ^ k) = [UInt8.ofNat (m / 256 ^ k % 256)] ++ encN k (m % 256 ^ k) from rfl, bigNat_append, encN_length, ih _ (Nat.mod_lt _ hp)]
    have hq : m / 256 ^ k < 256 := Nat.div_lt_of_lt_mul (by rw [Nat.pow_succ] at h; exact h)
    have e : bigNat [UInt8.ofNat (m / 256 ^ k % 256)] = m / 256 ^ k := by
      simp only [bigNat, List.foldl_cons, List.foldl_nil]
      rw [Nat.mod_eq_of_lt hq, UInt8.toNat_ofNat', Nat.mod_eq_of_lt (by omega)]
      omega
    rw [e]
    have := Nat.div_add_mod m (256 ^ k)
    rw [Nat.mul_comm]
    exact this
theorem rTake_append (xs rest : List UInt8) : rTake xs.length (xs ++ rest, 0) = (xs, (rest, 0)) := by
  unfold rTake
  simp
theorem rTake_append' (n : Nat) (xs rest : List UInt8) (h : n = xs.length) : rTake n (xs ++ rest, 0) = (xs, (rest, 0)) := by
  subst h; exact rTake_append xs rest
theorem rNum_numE (width n : Int) (rest : List UInt8) : rNum width (numE width n ++ rest, 0) = ((clampN (wideI width).toNat n : Int), (rest, 0)) := by
  unfold rNum
  rw [rTake_append' _ _ _ (numE_len width n).symm]
  simp only
  unfold bigN numE
  rw [bigNat_encN _ _ (clampN_lt _ _)]
theorem clamp_id (k : Nat) (n : Nat) (h : n < 256 ^ k) : clampN k (n : Int) = n := by unfold clampN; simp; omega
theorem rNum_numE' (width : Int) (n : Nat) (rest : List UInt8) (h : n < 256 ^ (wideI width).toNat) : rNum width (numE width n ++ rest, 0) = ((n : Int), (rest, 0)) := by
  rw [rNum_numE, clamp_id _ _ h]
theorem blobE_small (x : List UInt8) (h : x.length ≤ 65535) : blobE x = numE 2 (x.length : Nat) ++ x := by
  unfold blobE
  rw [Nat.min_eq_left h, List.take_of_length_le (Nat.le_refl _)]
theorem rBlob_yes (most : Int) (x rest : List UInt8) (h : x.length ≤ 65535) (hm : (x.length : Int) ≤ max most 0) : rBlob most (blobE x ++ rest, 0) = (x, (rest, 0)) := by
  unfold rBlob
  rw [blobE_small x h, List.append_assoc, rNum_numE' 2 x.length _ (by show _ < 256 ^ 2; omega)]
  simp only
  rw [if_neg (by omega), Int.toNat_natCast]
  exact rTake_append x rest
theorem rBlob_no (most : Int) (x rest : List UInt8) (h : x.length ≤ 65535) (hm : max most 0 < (x.length : Int)) : rBlob most (blobE x ++ rest, 0) = ([], ([], 11)) := by
  unfold rBlob
  rw [blobE_small x h, List.append_assoc, rNum_numE' 2 x.length _ (by show _ < 256 ^ 2; omega)]
  simp only
  rw [if_pos (by omega)]
  rfl
end Go.Proofs.Ytjgafklomndhlaa
