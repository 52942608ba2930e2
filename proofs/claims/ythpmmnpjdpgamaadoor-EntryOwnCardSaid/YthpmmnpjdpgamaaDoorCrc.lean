/- The sum of bytes, as plain functions. No program. -/
import Derived.Test.YthpmmnpjdpgamaaDoorWords
namespace Go.Proofs.YthpmmnpjdpgamaaDoor
set_option linter.unusedVariables false

abbrev U := BitVec 32
def step1 (r : U) : U := (r >>> 1) ^^^ (if r.getLsbD 0 then 2197175160#32 else 0#32)
def halvesN : List Nat := [0, 274646895, 549293790, 820201905, 1098587580, 1361435347, 1640403810, 1905808397, 2197175160, 2460548119, 2722870694, 2987750089, 3280807620, 3553878443, 3811616794, 4084100981]
def hv (i : Nat) : Nat := halvesN.getD i 0
def half (r : U) : U := (r >>> 4) ^^^ BitVec.ofNat 32 (hv (r.toNat % 16))
def inB (r : U) (c : UInt8) : U := r ^^^ BitVec.ofNat 32 c.toNat
def byteS (r : U) (c : UInt8) : U := half (half (inB r c))
def regO (bs : List UInt8) : U := bs.foldl byteS 4294967295#32
def sumO (bs : List UInt8) : U := ~~~ (regO bs)
theorem regO_snoc (bs : List UInt8) (c : UInt8) : regO (bs ++ [c]) = byteS (regO bs) c := by simp [regO]
theorem hv_lt : ∀ i, i < 16 → hv i < 4294967296 := by decide

/- A step is linear. -/
theorem ite_xor (a b : Bool) (p : U) : (if (a ^^ b) then p else 0#32) = (if a then p else 0#32) ^^^ (if b then p else 0#32) := by
  cases a <;> cases b <;> simp
theorem step1_xor (x y : U) : step1 (x ^^^ y) = step1 x ^^^ step1 y := by
  unfold step1
  rw [BitVec.getLsbD_xor, ite_xor, BitVec.ushiftRight_xor_distrib]
  simp only [BitVec.xor_assoc]
  congr 1
  rw [← BitVec.xor_assoc, ← BitVec.xor_assoc, BitVec.xor_comm (y >>> 1)]
theorem step1_shl (h : U) (k : Nat) (hk : k < 31) (hh : h.toNat < 2 ^ (31 - k)) : step1 (h <<< (k + 1)) = h <<< k := by
  have h0 : (h <<< (k + 1)).getLsbD 0 = false := by simp
  unfold step1
  rw [h0, if_neg (by simp), BitVec.xor_zero]
  apply BitVec.eq_of_toNat_eq
  rw [BitVec.toNat_ushiftRight, BitVec.toNat_shiftLeft, BitVec.toNat_shiftLeft, Nat.shiftLeft_eq, Nat.shiftLeft_eq, Nat.shiftRight_eq_div_pow]
  have hp : h.toNat * 2 ^ (k + 1) < 2 ^ 32 := by
    have e : 2 ^ 32 = 2 ^ (31 - k) * 2 ^ (k + 1) := by rw [← Nat.pow_add]; congr 1; omega
    rw [e]
    exact (Nat.mul_lt_mul_right (Nat.pow_pos (by omega))).2 hh
  rw [Nat.mod_eq_of_lt hp]
  have hp2 : h.toNat * 2 ^ (k + 1) = h.toNat * 2 ^ k * 2 := by rw [Nat.pow_succ, Nat.mul_assoc]
  rw [Nat.mod_eq_of_lt (by omega), hp2]
  omega
theorem step1_low : ∀ i, i < 16 → step1 (step1 (step1 (step1 (BitVec.ofNat 32 i)))) = BitVec.ofNat 32 (hv i) := by decide
theorem split16 (r : U) : r = ((r >>> 4) <<< 4) ^^^ BitVec.ofNat 32 (r.toNat % 16) := by
  apply BitVec.eq_of_getLsbD_eq
  intro i hi
  rw [BitVec.getLsbD_xor, BitVec.getLsbD_shiftLeft, BitVec.getLsbD_ushiftRight, BitVec.getLsbD_ofNat]
  rw [show (16 : Nat) = 2 ^ 4 from rfl, Nat.testBit_mod_two_pow]
  by_cases h : i < 4
  · simp [h, hi, BitVec.testBit_toNat]
  · simp [h, hi]
    congr 1
    omega
theorem half_step (r : U) : step1 (step1 (step1 (step1 r))) = half r := by
  have hl : (r >>> 4).toNat < 2 ^ 28 := by
    rw [BitVec.toNat_ushiftRight, Nat.shiftRight_eq_div_pow]
    have := r.isLt
    omega
  have h0 : (r >>> 4) <<< 0 = r >>> 4 := by
    apply BitVec.eq_of_toNat_eq
    rw [BitVec.toNat_shiftLeft, Nat.shiftLeft_zero, Nat.mod_eq_of_lt (BitVec.isLt _)]
  conv => lhs; rw [split16 r]
  rw [step1_xor, step1_xor, step1_xor, step1_xor, step1_low _ (Nat.mod_lt _ (by decide)), step1_shl _ 3 (by decide) (by omega), step1_shl _ 2 (by decide) (by omega), step1_shl _ 1 (by decide) (by omega), step1_shl _ 0 (by decide) (by omega), h0]
  rfl
/-- Eight steps. -/
def stepN : Nat → U → U
  | 0, r => r
  | n + 1, r => step1 (stepN n r)
theorem stepN8 (r : U) (c : UInt8) : stepN 8 (inB r c) = byteS r c := by
  show step1 (step1 (step1 (step1 (step1 (step1 (step1 (step1 (inB r c)))))))) = _
  rw [half_step, half_step]
  rfl

/- A step loses nothing. -/
theorem top_hv : ∀ i, i < 16 → hv i / 268435456 = i := by decide
theorem half_inj (x y : U) (h : half x = half y) : x = y := by
  have key : ∀ r : U, (half r).toNat / 268435456 = r.toNat % 16 := fun r => by
    unfold half
    have h1 := hv_lt (r.toNat % 16) (Nat.mod_lt _ (by decide))
    rw [BitVec.toNat_xor, BitVec.toNat_ofNat, Nat.mod_eq_of_lt (by omega), BitVec.toNat_ushiftRight, Nat.shiftRight_eq_div_pow]
    have h2 := Nat.xor_div_two_pow (a := r.toNat / 2 ^ 4) (b := hv (r.toNat % 16)) (n := 28)
    rw [show (268435456 : Nat) = 2 ^ 28 from rfl, h2]
    have h3 := top_hv (r.toNat % 16) (Nat.mod_lt _ (by decide))
    rw [show (268435456 : Nat) = 2 ^ 28 from rfl] at h3
    have h4 : r.toNat / 2 ^ 4 / 2 ^ 28 = 0 := by have := r.isLt; omega
    rw [h3, h4, Nat.zero_xor]
  have e : x.toNat % 16 = y.toNat % 16 := by rw [← key x, ← key y, h]
  have h5 : x >>> 4 = y >>> 4 := by
    have h6 := h
    unfold half at h6
    rw [e] at h6
    exact (BitVec.xor_left_inj _).1 h6 
  rw [split16 x, split16 y, h5, e]
theorem byteS_inj (x y : U) (c : UInt8) (h : byteS x c = byteS y c) : x = y := by
  have := half_inj _ _ (half_inj _ _ h)
  unfold inB at this
  exact (BitVec.xor_left_inj _).1 this
theorem byteS_inj2 (x : U) (c d : UInt8) (h : byteS x c = byteS x d) : c = d := by
  have := half_inj _ _ (half_inj _ _ h)
  unfold inB at this
  have := (BitVec.xor_right_inj _).1 this
  have := congrArg BitVec.toNat this
  rw [BitVec.toNat_ofNat, BitVec.toNat_ofNat] at this
  have h1 := c.toNat_lt
  have h2 := d.toNat_lt
  exact UInt8.toNat_inj.1 (by omega)
theorem foldl_inj (bs : List UInt8) : ∀ x y : U, bs.foldl byteS x = bs.foldl byteS y → x = y := by
  induction bs with
  | nil => exact fun _ _ h => h
  | cons c bs ih => exact fun x y h => byteS_inj _ _ c (ih _ _ h)
/-- One byte turned turns the sum. -/
theorem sum_turned (a b : List UInt8) (c d : UInt8) (h : sumO (a ++ c :: b) = sumO (a ++ d :: b)) : c = d := by
  unfold sumO at h
  have h := BitVec.not_inj.1 h
  unfold regO at h
  rw [List.foldl_append, List.foldl_append] at h
  exact byteS_inj2 _ _ _ (foldl_inj b _ _ h)
theorem sum_nine : sumO [49, 50, 51, 52, 53, 54, 55, 56, 57] = 3808858755#32 := by decide +kernel
end Go.Proofs.YthpmmnpjdpgamaaDoor
