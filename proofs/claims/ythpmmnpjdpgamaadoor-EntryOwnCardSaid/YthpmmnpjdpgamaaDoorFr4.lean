/- The bytes of a sum: seal, Tail. -/
import Derived.Test.YthpmmnpjdpgamaaDoorFr3
namespace Go.Proofs.YthpmmnpjdpgamaaDoor
open Go.RowKit
set_option linter.unusedVariables false

def tailN (s : Nat) : List UInt8 := [UInt8.ofNat (s % 256), UInt8.ofNat (s / 256 % 256), UInt8.ofNat (s / 65536 % 256), UInt8.ofNat (s / 16777216 % 256)]
def tailO (bs : List UInt8) : List UInt8 := tailN (sumO bs).toNat
theorem tailO_len (bs : List UInt8) : (tailO bs).length = 4 := rfl
theorem b256 (s : Nat) : ((UInt8.ofNat (s % 256)).toNat : Int) = (s : Int) % 256 := by
  rw [UInt8.toNat_ofNat']; omega
theorem cells_tail (s : Nat) (hs : s < 4294967296) : (#[.int .u8 ((s : Int) % 256), .int .u8 ((s : Int) / 256 % 256), .int .u8 ((s : Int) / 65536 % 256), .int .u8 ((s : Int) / 16777216)] : Array Value) = ((tailN s).map cB).toArray := by
  unfold tailN
  rw [show (s : Int) / 16777216 = (s : Int) / 16777216 % 256 by omega]
  simp only [List.map_cons, List.map_nil, cB, b256]
  rfl

set_option maxHeartbeats 1000000 in
set_option maxRecDepth 100000 in
theorem seal_any (base : Nat) (v : Value) (xs : List UInt8) (D : Nat → Prop) (A : Option Addr) (c : Nat) (bs : List UInt8) (w : World) (h : OwnB w base v xs) (hb : base ≤ w.heap.size) (hx : xs.length ≤ 1000000) (r : RdB w D A bs) (hl : bs.length ≤ 9223372036854775807) (ht : Tab w) :
    Calls Tryd.prog 53 #[v, .slice A bs.length c] w fun e w' => ∃ v', e = .returned v' ∧ OwnB w' base v' (xs ++ tailO bs) ∧ Below base w w' := by
  go_enter Tryd.func53, Tryd.ntmps53
  go_wp2_with fail
  refine (Sum_any D A c bs w r hl ht).mono ?_
  rintro e w1 ⟨rfl, rfl⟩
  have HT : Hid (tailO bs = tailN (sumO bs).toNat) := Lib.hid rfl
  have hs := (sumO bs).isLt
  generalize (sumO bs).toNat = s at *
  have hs' : s < 4294967296 := hs
  clear hs
  have HC := Lib.hid (cells_tail s hs')
  have hrd := (litB w (tailN s) 4 _ rfl HC.out (by show 4 ≤ big; unfold big; omega)).rd
  go_wp2_with (at_builtin; refine wpList_appB rfl (.tmp 8) (.tmp 20) rfl base _ xs rfl (OwnB.below h (below_new _ _)) _ (some ⟨w.heap.size, 0, none⟩) 4 4 (tailN s) rfl rfl hrd (by show xs.length + 4 ≤ big; unfold big; omega) (Nat.le_trans hb (below_new w _).size) ?_; intro v' w' h1 h2)
  have b2 := ((below_new w (.cells #[.int .u8 ((s : Int) % 256), .int .u8 ((s : Int) / 256 % 256), .int .u8 ((s : Int) / 65536 % 256), .int .u8 ((s : Int) / 16777216)] 5)).mono hb).trans (h2.below (OwnB.below h (below_new w _)) (Nat.le_refl _) (Nat.le_trans hb (below_new w _).size))
  go_wp2_with fail
  go_ret
  exact ⟨_, rfl, by rw [HT.out]; exact h1, b2⟩

set_option maxRecDepth 100000 in
theorem Tail_any (D : Nat → Prop) (A : Option Addr) (c : Nat) (bs : List UInt8) (w : World) (r : RdB w D A bs) (hl : bs.length ≤ 9223372036854775807) :
    Calls Tryd.prog 48 #[.slice A bs.length c] w fun e w' => ∃ v, e = .returned v ∧ OwnB w' w.heap.size v (tailO bs) ∧ Below w.heap.size w w' := by
  go_enter Tryd.func48, Tryd.ntmps48
  go_wp2_with fail
  refine (rSum_any D A c bs w r hl).mono ?_
  rintro e w1 ⟨rfl, rfl⟩
  have HT : Hid (tailO bs = tailN (sumO bs).toNat) := Lib.hid rfl
  have hs := (sumO bs).isLt
  generalize (sumO bs).toNat = s at *
  have hs' : s < 4294967296 := hs
  clear hs
  have HC := Lib.hid (cells_tail s hs')
  have ho := litB w (tailN s) 4 _ rfl HC.out (by show 4 ≤ big; unfold big; omega)
  have b2 := below_new w (.cells #[.int .u8 ((s : Int) % 256), .int .u8 ((s : Int) / 256 % 256), .int .u8 ((s : Int) / 65536 % 256), .int .u8 ((s : Int) / 16777216)] 5)
  go_wp2_with fail
  go_ret
  exact ⟨_, rfl, by rw [HT.out]; exact ho, b2⟩
end Go.Proofs.YthpmmnpjdpgamaaDoor
