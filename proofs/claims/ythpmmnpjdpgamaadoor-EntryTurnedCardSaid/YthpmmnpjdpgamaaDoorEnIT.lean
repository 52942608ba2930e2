/- The walk of EntryTurned, as its frame asks for it. -/
import Derived.Test.YthpmmnpjdpgamaaDoorEnG
import Derived.Test.YthpmmnpjdpgamaaDoorEnOpen
namespace Go.Proofs.YthpmmnpjdpgamaaDoor
open Go.ChangeShapes Go.WideShapes Go.ChangeAt Go.RowKit
set_option linter.unusedVariables false

theorem turned7 (W : World) (h : Tab W ∧ TabE W ∧ TabS W) (e : E7) (A : Option Addr) (c : Nat) (r : RdB W (Old W) A e.data) (l : e.data.length ≤ c) (m : c ≤ 9223372036854775807) (n : A = none → c = 0) (i : EnI e) (z : Int) (iz : I64 z) (b : UInt8) :
    Calls Tryd.prog 7 #[enV e A c, .int .i64 z, .int .u8 (b.toNat : Int)] W fun r w' => r = .returned (.bool true) ∧ Below W.heap.size W w' := turned_walk e _ z iz b W (EnY.of_rd r l m) h
end Go.Proofs.YthpmmnpjdpgamaaDoor
