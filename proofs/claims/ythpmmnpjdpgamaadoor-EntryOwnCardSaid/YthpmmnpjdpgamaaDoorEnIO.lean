/- The walk of EntryOwn, as its frame asks for it. -/
import Derived.Test.YthpmmnpjdpgamaaDoorEnH
import Derived.Test.YthpmmnpjdpgamaaDoorEnOpen
namespace Go.Proofs.YthpmmnpjdpgamaaDoor
open Go.ChangeShapes Go.WideShapes Go.ChangeAt Go.RowKit
set_option linter.unusedVariables false

theorem eown7 (W : World) (h : Tab W ∧ TabE W ∧ TabS W) (e : E7) (A : Option Addr) (c : Nat) (r : RdB W (Old W) A e.data) (l : e.data.length ≤ c) (m : c ≤ 9223372036854775807) (n : A = none → c = 0) (i : EnI e) :
    Calls Tryd.prog 8 #[enV e A c] W fun r w' => r = .returned (.bool true) ∧ Below W.heap.size W w' := eown_walk e _ W (EnY.of_rd r l m) h
end Go.Proofs.YthpmmnpjdpgamaaDoor
