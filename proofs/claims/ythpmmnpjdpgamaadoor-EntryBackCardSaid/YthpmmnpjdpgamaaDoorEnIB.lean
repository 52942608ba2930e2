/- The walk of EntryBack, as its frame asks for it. -/
import Derived.Test.YthpmmnpjdpgamaaDoorEnF
import Derived.Test.YthpmmnpjdpgamaaDoorEnOpen
namespace Go.Proofs.YthpmmnpjdpgamaaDoor
open Go.ChangeShapes Go.WideShapes Go.ChangeAt Go.RowKit
set_option linter.unusedVariables false

theorem back7w (W : World) (h : Tab W ∧ TabE W ∧ TabS W) (e : E7) (A : Option Addr) (c : Nat) (r : RdB W (Old W) A e.data) (l : e.data.length ≤ c) (m : c ≤ 9223372036854775807) (n : A = none → c = 0) (i : EnI e) (A1 : Option Addr) (b1 : List UInt8) (c1 : Nat) (r1 : RdB W (Old W) A1 b1) (l1 : b1.length ≤ c1) (m1 : c1 ≤ 9223372036854775807) (n1 : A1 = none → c1 = 0) :
    Calls Tryd.prog 6 #[enV e A c, .slice A1 b1.length c1] W fun r w' => r = .returned (.bool true) ∧ Below W.heap.size W w' := back_walk e _ _ A1 b1 c1 W (EnY.of_rd r l m) r1 l1 m1 h
end Go.Proofs.YthpmmnpjdpgamaaDoor
