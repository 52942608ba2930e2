/- Pack. -/
import Derived.Test.YtmifmnpbkdjbaaaObjE
namespace Go.Proofs.Ytmifmnpbkdjbaaa
open Go.RowKit
set_option linter.unusedVariables false

def quadO (m : List Int) (q : Nat) : Nat := (gN m (4 * q)).toNat + 4 * (gN m (4 * q + 1)).toNat + 16 * (gN m (4 * q + 2)).toNat + 64 * (gN m (4 * q + 3)).toNat
def packO (m : List Int) : List UInt8 := [UInt8.ofNat ((rowO m).length / 256), UInt8.ofNat ((rowO m).length % 256)] ++ (List.range (((rowO m).length + 3) / 4)).map fun q => UInt8.ofNat (quadO m q)
theorem quadO_lt (m : List Int) (q : Nat) : quadO m q < 256 := by
  have h0 := gN_bd m (4 * q)
  have h1 := gN_bd m (4 * q + 1)
  have h2 := gN_bd m (4 * q + 2)
  have h3 := gN_bd m (4 * q + 3)
  unfold quadO
  omega
theorem packO_len (m : List Int) : (packO m).length = 2 + ((rowO m).length + 3) / 4 := by unfold packO; simp; omega
end Go.Proofs.Ytmifmnpbkdjbaaa
