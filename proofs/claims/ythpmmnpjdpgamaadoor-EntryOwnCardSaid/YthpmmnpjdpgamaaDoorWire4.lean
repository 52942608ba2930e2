import Derived.Test.YthpmmnpjdpgamaaDoorWire3
namespace Go.Proofs.YthpmmnpjdpgamaaDoor
open Go.RowKit
set_option linter.unusedVariables false

def decN (w k : Nat) (bs : List UInt8) : List Int := (List.range k).map fun i => bigN ((bs.drop (i * w)).take w)
theorem decN_succ (w k : Nat) (bs : List UInt8) : decN w (k + 1) bs = decN w k bs ++ [bigN ((bs.drop (k * w)).take w)] := by simp [decN, List.range_succ]
theorem decN_length (w k : Nat) (bs : List UInt8) : (decN w k bs).length = k := by simp [decN]
def rNums (width most : Int) (s : St) : List Int × St :=
  let t := rNum 1 s
  if t.1 > max most 0 then ([], rFail 11 t.2) else
    let u := rTake (t.1.toNat * (wideI width).toNat) t.2
    (decN (wideI width).toNat (u.1.length / (wideI width).toNat) u.1, u.2)

theorem rNum_one (w : Nat) (h1 : 1 ≤ w) (h2 : w ≤ 7) (bs : List UInt8) (hl : bs.length = w) : (rNum w (bs, 0)).1 = bigN bs := by
  unfold rNum rTake wideI
  simp only [if_true]
  rw [show (min (max (w : Int) 1) 7).toNat = w from by omega, if_neg (by omega), List.take_of_length_le (by omega)]

theorem bigI_one {a : Nat} {b : Int} (h : a ≤ 1785) : a + [b].length ≤ big := by unfold big; simp only [List.length_singleton]; omega

end Go.Proofs.YthpmmnpjdpgamaaDoor
