/- The document's sum; the tails. -/
import Derived.Test.YthpmmnpjdpgamaaDoorFr2
namespace Go.Proofs.YthpmmnpjdpgamaaDoor
open Go.RowKit
set_option linter.unusedVariables false

theorem stepN_succ (n : Nat) (r : U) : stepN (n + 1) r = step1 (stepN n r) := rfl
theorem step_even (r : U) (h : r.toNat % 2 = 0) : ((step1 r).toNat : Int) = (r.toNat : Int) / (2 : Int) := by
  have e : r.getLsbD 0 = false := by
    rw [← BitVec.testBit_toNat, Nat.testBit_zero, h]; rfl
  unfold step1
  rw [e, if_neg (by simp), BitVec.xor_zero, BitVec.toNat_ushiftRight, Nat.shiftRight_eq_div_pow]
  rfl
theorem step_odd (r : U) (h : r.toNat % 2 = 1) : bits .xor .u32 ((r.toNat : Int) / (2 : Int)) 2197175160 = ((step1 r).toNat : Int) := by
  have e : r.getLsbD 0 = true := by
    rw [← BitVec.testBit_toNat, Nat.testBit_zero, h]; rfl
  have e2 : (r.toNat : Int) / (2 : Int) = ((r >>> 1).toNat : Int) := by
    rw [BitVec.toNat_ushiftRight, Nat.shiftRight_eq_div_pow]; rfl
  have e3 : (2197175160 : Int) = ((2197175160#32).toNat : Int) := by decide
  rw [e2, e3, xor32]
  unfold step1
  rw [e, if_pos rfl]

set_option maxHeartbeats 1000000 in
set_option maxRecDepth 100000 in
theorem rSum_any (D : Nat → Prop) (A : Option Addr) (c : Nat) (bs : List UInt8) (w : World) (h : RdB w D A bs) (hl : bs.length ≤ 9223372036854775807) :
    Calls Tryd.prog 63 #[.slice A bs.length c] w fun e w' => e = .returned (.int .u32 ((sumO bs).toNat : Int)) ∧ w = w' := by
  go_enter Tryd.func63, Tryd.ntmps63
  go_wp2_with fail
  go_loopw [3, 4, 5, 6] (fun r i k l wr => ∃ j : Nat, ∃ x : U, j ≤ bs.length ∧ i = .int .i64 (j : Int) ∧ r = .int .u32 (x.toNat : Int) ∧ Hid (x = regO (bs.take j)) ∧ w = wr) (fun _ i _ _ _ => bs.length - (intOf i).toNat)
  case atStart => exact ⟨0, 4294967295#32, Nat.zero_le _, rfl, rfl, Lib.hid rfl, rfl⟩
  case round =>
    obtain ⟨j, x, hj, rfl, rfl, HX, rfl⟩ := hrel
    by_cases hlt : j < bs.length
    · obtain ⟨ad, rfl, _, hcell⟩ := h.at_ hlt
      have HS : Hid (stepN 8 (inB x bs[j]) = regO (bs.take (j + 1))) := by unfold Hid; rw [stepN8, List.take_succ_eq_append_getElem hlt, regO_snoc, HX.out]
      have hc := bs[j].toNat_lt
      have e1 := inB_run x bs[j]
      generalize bs[j].toNat = y at *
      have hw1 := wrap32 y (by omega)
      generalize inB x bs[j] = x1 at *
      go_wp2_with fail
      go_loopw [3, 5, 6] (fun r k l wr => ∃ n : Nat, ∃ z : U, n ≤ 8 ∧ k = .int .i64 (n : Int) ∧ r = .int .u32 (z.toNat : Int) ∧ Hid (z = stepN n x1) ∧ w = wr) (fun _ k _ _ => 8 - (intOf k).toNat)
      case atStart => exact ⟨0, x1, by omega, rfl, rfl, Lib.hid rfl, rfl⟩
      case round =>
        obtain ⟨n, z, hn, rfl, rfl, HZ, rfl⟩ := hrel
        by_cases hk : n < 8
        · have HN : Hid (step1 z = stepN (n + 1) x1) := by unfold Hid; rw [HZ.out]; rfl
          have hm : (z.toNat : Int) % 2 = ((z.toNat % 2 : Nat) : Int) := rfl
          have hm2 : (z.toNat : Int).tmod 2 = ((z.toNat % 2 : Nat) : Int) := rfl
          have hd2 : (z.toNat : Int).tdiv 2 = (z.toNat : Int) / (2 : Int) := rfl
          rcases Nat.mod_two_eq_zero_or_one z.toNat with h0 | h0
          · have e2 := step_even z h0
            rw [h0] at hm hm2
            generalize step1 z = z1 at *
            clear h0
            have e3 : (z.toNat : Int) / (2 : Int) = (z1.toNat : Int) := e2.symm
            have e3' : (z.toNat : Int).tdiv 2 = (z1.toNat : Int) := e2.symm
            clear e2 hd2
            go_wp2_with fail
            go_roundw
            case rel => exact ⟨n + 1, z1, by omega, by go_num, rfl, HN, trivial⟩
            case measure => simp [intOf] <;> omega
          · have e2 := step_odd z h0
            rw [h0] at hm hm2
            generalize step1 z = z1 at *
            clear h0
            go_wp2_with fail
            go_roundw
            case rel => exact ⟨n + 1, z1, by omega, by go_num, rfl, HN, trivial⟩
            case measure => simp [intOf] <;> omega
        · obtain rfl : n = 8 := by omega
          go_wp2_with fail
          go_roundw
          case rel => exact ⟨j + 1, z, by omega, by go_num, rfl, by unfold Hid; rw [HZ.out, HS.out], trivial⟩
          case measure => simp [intOf] <;> omega
    · obtain rfl : j = bs.length := by omega
      have e1 := not32 x
      have HE : Hid ((~~~ x).toNat = (sumO bs).toNat) := by unfold Hid sumO; rw [HX.out, List.take_of_length_le (Nat.le_refl _)]
      generalize (~~~ x).toNat = s at *
      go_wp2_with fail
      go_ret
      exact ⟨by rw [← HE.out] <;> rfl, rfl⟩
end Go.Proofs.YthpmmnpjdpgamaaDoor
