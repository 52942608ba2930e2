/- The sums: the code's by its table, the document's bit by bit. -/
import Derived.Test.YthpmmnpjdpgamaaDoorFr1
import Derived.Test.YthpmmnpjdpgamaaDoorCrc
namespace Go.Proofs.YthpmmnpjdpgamaaDoor
open Go.RowKit
set_option linter.unusedVariables false

/-- The table lies where the program's text lays it. -/
def Tab (w : World) : Prop := ∀ i, i < 16 → w.cell? ⟨1, i, none⟩ = some (.int .u32 (hv i : Int))
theorem Tab.lt {w : World} (h : Tab w) : 1 < w.heap.size := World.block_lt_of_cell? w _ (h 0 (by decide))
theorem Tab.belowB {w w' : World} {B : Nat} (h : Tab w) (hB : 1 < B) (hb : Below B w w') : Tab w' := fun i hi => by
  have e := hb.block 1 hB
  have := h i hi
  unfold World.cell? at this ⊢
  rw [e]; exact this
theorem Tab.below {w w' : World} (h : Tab w) (hb : Below w.heap.size w w') : Tab w' := h.belowB h.lt hb

theorem ofInt32 (a : U) : BitVec.ofInt 32 (a.toNat : Int) = a := by
  rw [BitVec.ofInt_natCast, BitVec.ofNat_toNat, BitVec.setWidth_eq]
theorem wrap32 (n : Nat) (h : n < 4294967296) : IntKind.u32.wrap (n : Int) = (n : Int) := by
  simp [IntKind.wrap, IntKind.bits, IntKind.signed]
  omega
theorem xor32 (a b : U) : bits .xor .u32 (a.toNat : Int) (b.toNat : Int) = ((a ^^^ b).toNat : Int) := by
  show IntKind.u32.wrap (((BitVec.ofInt 32 (a.toNat : Int) ^^^ BitVec.ofInt 32 (b.toNat : Int)).toNat : Nat) : Int) = _
  rw [ofInt32, ofInt32, wrap32 _ (BitVec.isLt _)]
theorem and15 (a : U) : bits .and .u32 (a.toNat : Int) 15 = ((a.toNat % 16 : Nat) : Int) := by
  show IntKind.u32.wrap (((BitVec.ofInt 32 (a.toNat : Int) &&& BitVec.ofInt 32 ((15 : Nat) : Int)).toNat : Nat) : Int) = _
  rw [ofInt32, BitVec.toNat_and, BitVec.ofInt_natCast, BitVec.toNat_ofNat]
  rw [show (15 % 2 ^ 32 : Nat) = 2 ^ 4 - 1 from rfl, Nat.and_two_pow_sub_one_eq_mod]
  exact wrap32 _ (by omega)
theorem shr4 (a : U) : (a.toNat : Int) / (16 : Int) = ((a >>> 4).toNat : Int) := by
  rw [BitVec.toNat_ushiftRight, Nat.shiftRight_eq_div_pow]; rfl
theorem hv_of (i : Nat) (h : i < 16) : (hv i : Int) = ((BitVec.ofNat 32 (hv i)).toNat : Int) := by
  rw [BitVec.toNat_ofNat, Nat.mod_eq_of_lt (hv_lt i h)]
theorem byteU (c : UInt8) : (c.toNat : Int) = ((BitVec.ofNat 32 c.toNat).toNat : Int) := by
  have := c.toNat_lt
  rw [BitVec.toNat_ofNat, Nat.mod_eq_of_lt (by omega)]
theorem inB_run (r : U) (c : UInt8) : bits .xor .u32 (r.toNat : Int) (c.toNat : Int) = ((inB r c).toNat : Int) := by
  rw [byteU, xor32]; rfl
theorem half_run (r : U) : bits .xor .u32 ((r.toNat : Int) / (16 : Int)) (hv (r.toNat % 16) : Int) = ((half r).toNat : Int) := by
  rw [shr4, hv_of _ (Nat.mod_lt _ (by decide)), xor32]; rfl
theorem not32 (a : U) : bits .xor .u32 IntKind.u32.max (a.toNat : Int) = ((~~~ a).toNat : Int) := by
  have e : IntKind.u32.max = ((4294967295#32).toNat : Int) := by decide
  rw [e, xor32]
  have h : 4294967295#32 = BitVec.allOnes 32 := by decide
  rw [h, BitVec.allOnes_xor]

set_option maxRecDepth 100000 in
theorem Sum_any (D : Nat → Prop) (A : Option Addr) (c : Nat) (bs : List UInt8) (w : World) (h : RdB w D A bs) (hl : bs.length ≤ 9223372036854775807) (ht : Tab w) :
    Calls Tryd.prog 64 #[.slice A bs.length c] w fun e w' => e = .returned (.int .u32 ((sumO bs).toNat : Int)) ∧ w = w' := by
  go_enter Tryd.func64, Tryd.ntmps64
  go_wp2_with fail
  go_loopw [3, 5, 8] (fun r b i wr => ∃ j : Nat, ∃ x : U, j ≤ bs.length ∧ i = .int .i64 (j : Int) ∧ r = .int .u32 (x.toNat : Int) ∧ Hid (x = regO (bs.take j)) ∧ w = wr) (fun _ _ i _ => bs.length - (intOf i).toNat)
  case atStart => exact ⟨0, 4294967295#32, Nat.zero_le _, rfl, rfl, Lib.hid rfl, rfl⟩
  case round =>
    obtain ⟨j, x, hj, rfl, rfl, HX, rfl⟩ := hrel
    by_cases hlt : j < bs.length
    · obtain ⟨ad, rfl, _, hcell⟩ := h.at_ hlt
      have HS : Hid (byteS x bs[j] = regO (bs.take (j + 1))) := by unfold Hid; rw [List.take_succ_eq_append_getElem hlt, regO_snoc, HX.out]
      have hc := bs[j].toNat_lt
      have e1 := inB_run x bs[j]
      have HB : Hid (byteS x bs[j] = half (half (inB x bs[j]))) := Lib.hid rfl
      generalize bs[j].toNat = y at *
      have hw1 := wrap32 y (by omega)
      generalize inB x bs[j] = x1 at *
      have e2 := half_run x1
      have e4 := and15 x1
      have q1 := ht (x1.toNat % 16) (Nat.mod_lt _ (by decide))
      have q2 : x1.toNat % 16 < 16 := Nat.mod_lt _ (by decide)
      generalize x1.toNat % 16 = i1 at *
      generalize half x1 = x2 at *
      have e5 := half_run x2
      have e7 := and15 x2
      have q3 := ht (x2.toNat % 16) (Nat.mod_lt _ (by decide))
      have q4 : x2.toNat % 16 < 16 := Nat.mod_lt _ (by decide)
      generalize x2.toNat % 16 = i2 at *
      generalize half x2 = x3 at *
      go_wp2_with fail
      go_roundw
      case rel => exact ⟨j + 1, x3, by omega, by go_num, rfl, by unfold Hid; rw [← HS.out, HB.out], trivial⟩
      case measure => simp [intOf] <;> omega
    · obtain rfl : j = bs.length := by omega
      have e1 := not32 x
      have HE : Hid ((~~~ x).toNat = (sumO bs).toNat) := by unfold Hid sumO; rw [HX.out, List.take_of_length_le (Nat.le_refl _)]
      generalize (~~~ x).toNat = s at *
      go_wp2_with fail
      go_ret
      exact ⟨by rw [← HE.out] <;> rfl, rfl⟩
end Go.Proofs.YthpmmnpjdpgamaaDoor
