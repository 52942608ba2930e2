/- Bits: and, xor. -/
import Derived.Test.YthpmmnpjdpgamaaDoorFr12
namespace Go.Proofs.YthpmmnpjdpgamaaDoor
open Go.RowKit
set_option linter.unusedVariables false

theorem and_mask (c : Int) (m : Nat) (hm : m < 9223372036854775808) : ∃ j : Nat, bits .and .i64 c (m : Int) = (j : Int) ∧ j ≤ m := by
  refine ⟨(BitVec.ofInt 64 c &&& BitVec.ofInt 64 (m : Int)).toNat, ?_, ?_⟩
  · show IntKind.i64.wrap (((BitVec.ofInt 64 c &&& BitVec.ofInt 64 (m : Int)).toNat : Nat) : Int) = _
    have h : (BitVec.ofInt 64 c &&& BitVec.ofInt 64 (m : Int)).toNat ≤ m := by
      rw [BitVec.toNat_and, toNat64 m hm]
      exact Nat.and_le_right
    rw [IntKind.wrap_i64]
    omega
  · rw [BitVec.toNat_and, toNat64 m hm]
    exact Nat.and_le_right
theorem wrap8 (n : Nat) (h : n < 256) : IntKind.u8.wrap (n : Int) = (n : Int) := by
  simp [IntKind.wrap, IntKind.bits, IntKind.signed]
  omega
theorem ofInt8 (x : UInt8) : BitVec.ofInt 8 (x.toNat : Int) = x.toBitVec := by
  rw [BitVec.ofInt_natCast]
  apply BitVec.eq_of_toNat_eq
  rw [BitVec.toNat_ofNat]
  exact Nat.mod_eq_of_lt x.toNat_lt
theorem xor8 (x m : UInt8) : bits .xor .u8 (x.toNat : Int) (m.toNat : Int) = ((x ^^^ m).toNat : Int) := by
  show IntKind.u8.wrap (((BitVec.ofInt 8 (x.toNat : Int) ^^^ BitVec.ofInt 8 (m.toNat : Int)).toNat : Nat) : Int) = _
  rw [ofInt8, ofInt8, wrap8 _ (BitVec.isLt _)]
  rfl
theorem xor8_ne (x m : UInt8) (h : m ≠ 0) : x ^^^ m ≠ x := fun e => h (by
  have := congrArg (fun y => x ^^^ y) e
  simpa [← UInt8.xor_assoc] using this)
end Go.Proofs.YthpmmnpjdpgamaaDoor
