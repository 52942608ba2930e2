/- Parts of the proof, joined: HeF. -/
import Derived.Test.YtpgfhbkggchliaaQp
import Derived.Test.YtpgfhbkggchliaaQa
/- The walks of chapter 06 as the frames take them. -/
namespace Go.Proofs.Ytpgfhbkggchliaa
open Go.RowKit
theorem diffs_fr (W : World) (h : HdV) (r : HdR W (Old W) h) (_ : HdI h) (a : Int) (_ : I64 a) (b : Int) (_ : I64 b) :
    Calls Try.prog 5 #[hdV h, .int .i64 a, .int .i64 b] W fun e w' => e = .returned (.bool true) ∧ Below W.heap.size W w' :=
  diffs_walk (Old W) h a b W r
theorem snaps_fr (W : World) (h : HdV) (r : HdR W (Old W) h) (_ : HdI h) (a : Int) (_ : I64 a) :
    Calls Try.prog 7 #[hdV h, .int .i64 a] W fun e w' => e = .returned (.bool true) ∧ Below W.heap.size W w' :=
  snaps_walk (Old W) h a W r
theorem checks_fr (W : World) (h : HdV) (r : HdR W (Old W) h) (_ : HdI h) (a : Int) (_ : I64 a) (b : Int) (_ : I64 b) :
    Calls Try.prog 3 #[hdV h, .int .i64 a, .int .i64 b] W fun e w' => e = .returned (.bool true) ∧ Below W.heap.size W w' :=
  checks_walk (Old W) h a b W r
theorem packs_fr (W : World) (h : HdV) (r : HdR W (Old W) h) (_ : HdI h) (A : Option Addr) (b : List UInt8) (c : Nat) (rb : RdB W (Old W) A b) (l : b.length ≤ c) (m : c ≤ 9223372036854775807) (_ : A = none → c = 0) :
    Calls Try.prog 4 #[hdV h, .slice A b.length c] W fun e w' => e = .returned (.bool true) ∧ Below W.heap.size W w' :=
  packs_walk (Old W) (Old W) h A b c W r rb l m
end Go.Proofs.Ytpgfhbkggchliaa
