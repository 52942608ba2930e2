/-
  No cell of these rows narrows 'for every input' (looked for: loops, veiled, ifaces, maps, wideKeys, modest, calm, conditions, laid).
  DERIVED. THE GIVEN ROWS OF THIS SEAT. 7 by the template 'for every input the law returns true; each argument reads behind the call as it read before'; 0 by the template 'total and deterministic' (their statements: YtpgfhbkggchliaaTotals.lean).
  GIVEN WITH THE SEED: the statements are not yours to turn. If you find one false, say at which input.
  Laid BY PROGRAM, IN A SANDBOX (cutbox-rows.mjs): the forced cells as the released guide's own fill.sh prints them over the translation 725716b9389228b6… (all of the seat's roots in one cut). By AI agents, Wed Nov 11 2026. No macro, syntax, notation, axiom, sorry.
-/
import Derived.Test.YtpgfhbkggchliaaChecked
import GoSem.Claim
import GoSem.ClaimJoined
import GoSem.ClaimMapViews
import Derived.JoinedTies
import Derived.KernelRfl
namespace Go.Proofs.Ytpgfhbkggchliaa
/- THE CELL 'sum', in the pinned program and in every row, IS THE sha256 OF THE DUMP (.gsa) THAT YtpgfhbkggchliaaProg.lean LOADS. Nothing in Lean hashes anything: it is a label: what it is worth is what the hold of that sum in a sandbox is worth. -/
noncomputable def Try.pinned : Pinned := { name := "ytpgfhbkggchliaa", sum := "725716b9389228b6a45b01e19b7a481ea9ad341eaa7ff049565d24885270c8db", checked := Try.checked }
namespace Rows
def none {H : Type} : Left H := { results := [], args := [] }

/-- 'terrazzolaw06.HeadChecks': WHATEVER THE INPUT: true; the input reads as it did. -/
def headChecksSpec : ChangeSpec := { name := "headChecks", fn := fun _ => fun
  | [d1, d2, d3] => { results := [.lit (.bool true)], args := [d1, d2, d3] }
  | _ => none }
def headChecksRow : OpenClaim := { program := "ytpgfhbkggchliaa", sum := "725716b9389228b6a45b01e19b7a481ea9ad341eaa7ff049565d24885270c8db", func := "terrazzo/terrazzolaw06.HeadChecks", spec := "headChecks", unfollowed := true, recurses := true, apart := false }
def HeadChecksSaid : Prop := headChecksRow.holds Try.pinned (OpenSpec.ofChange headChecksSpec)

/-- ITS FALSE NEIGHBOUR: 'it returns false'. Refute it at one input. -/
def headChecksWrong : ChangeSpec := { name := "headChecks", fn := fun _ => fun
  | [d1, d2, d3] => { results := [.lit (.bool false)], args := [d1, d2, d3] }
  | _ => none }
def HeadChecksWrongFalsely : Prop := headChecksRow.holds Try.pinned (OpenSpec.ofChange headChecksWrong)

/-- 'terrazzolaw06.HeadPacks': WHATEVER THE INPUT: true; the input reads as it did. -/
def headPacksSpec : ChangeSpec := { name := "headPacks", fn := fun _ => fun
  | [d1, d2] => { results := [.lit (.bool true)], args := [d1, d2] }
  | _ => none }
def headPacksRow : OpenClaim := { program := "ytpgfhbkggchliaa", sum := "725716b9389228b6a45b01e19b7a481ea9ad341eaa7ff049565d24885270c8db", func := "terrazzo/terrazzolaw06.HeadPacks", spec := "headPacks", unfollowed := true, recurses := true, apart := false }
def HeadPacksSaid : Prop := headPacksRow.holds Try.pinned (OpenSpec.ofChange headPacksSpec)

/-- ITS FALSE NEIGHBOUR: 'it returns false'. Refute it at one input. -/
def headPacksWrong : ChangeSpec := { name := "headPacks", fn := fun _ => fun
  | [d1, d2] => { results := [.lit (.bool false)], args := [d1, d2] }
  | _ => none }
def HeadPacksWrongFalsely : Prop := headPacksRow.holds Try.pinned (OpenSpec.ofChange headPacksWrong)

/-- 'terrazzolaw06.HeadDiffs': WHATEVER THE INPUT: true; the input reads as it did. -/
def headDiffsSpec : ChangeSpec := { name := "headDiffs", fn := fun _ => fun
  | [d1, d2, d3] => { results := [.lit (.bool true)], args := [d1, d2, d3] }
  | _ => none }
def headDiffsRow : OpenClaim := { program := "ytpgfhbkggchliaa", sum := "725716b9389228b6a45b01e19b7a481ea9ad341eaa7ff049565d24885270c8db", func := "terrazzo/terrazzolaw06.HeadDiffs", spec := "headDiffs", unfollowed := true, recurses := true, apart := false }
def HeadDiffsSaid : Prop := headDiffsRow.holds Try.pinned (OpenSpec.ofChange headDiffsSpec)

/-- ITS FALSE NEIGHBOUR: 'it returns false'. Refute it at one input. -/
def headDiffsWrong : ChangeSpec := { name := "headDiffs", fn := fun _ => fun
  | [d1, d2, d3] => { results := [.lit (.bool false)], args := [d1, d2, d3] }
  | _ => none }
def HeadDiffsWrongFalsely : Prop := headDiffsRow.holds Try.pinned (OpenSpec.ofChange headDiffsWrong)

/-- 'terrazzolaw06.HeadBack': WHATEVER THE INPUT: true; the input reads as it did. -/
def headBackSpec : ChangeSpec := { name := "headBack", fn := fun _ => fun
  | [d1, d2] => { results := [.lit (.bool true)], args := [d1, d2] }
  | _ => none }
def headBackRow : OpenClaim := { program := "ytpgfhbkggchliaa", sum := "725716b9389228b6a45b01e19b7a481ea9ad341eaa7ff049565d24885270c8db", func := "terrazzo/terrazzolaw06.HeadBack", spec := "headBack", unfollowed := true, recurses := true, apart := false }
def HeadBackSaid : Prop := headBackRow.holds Try.pinned (OpenSpec.ofChange headBackSpec)

/-- ITS FALSE NEIGHBOUR: 'it returns false'. Refute it at one input. -/
def headBackWrong : ChangeSpec := { name := "headBack", fn := fun _ => fun
  | [d1, d2] => { results := [.lit (.bool false)], args := [d1, d2] }
  | _ => none }
def HeadBackWrongFalsely : Prop := headBackRow.holds Try.pinned (OpenSpec.ofChange headBackWrong)

/-- 'terrazzolaw06.HeadSnaps': WHATEVER THE INPUT: true; the input reads as it did. -/
def headSnapsSpec : ChangeSpec := { name := "headSnaps", fn := fun _ => fun
  | [d1, d2] => { results := [.lit (.bool true)], args := [d1, d2] }
  | _ => none }
def headSnapsRow : OpenClaim := { program := "ytpgfhbkggchliaa", sum := "725716b9389228b6a45b01e19b7a481ea9ad341eaa7ff049565d24885270c8db", func := "terrazzo/terrazzolaw06.HeadSnaps", spec := "headSnaps", unfollowed := true, recurses := true, apart := false }
def HeadSnapsSaid : Prop := headSnapsRow.holds Try.pinned (OpenSpec.ofChange headSnapsSpec)

/-- ITS FALSE NEIGHBOUR: 'it returns false'. Refute it at one input. -/
def headSnapsWrong : ChangeSpec := { name := "headSnaps", fn := fun _ => fun
  | [d1, d2] => { results := [.lit (.bool false)], args := [d1, d2] }
  | _ => none }
def HeadSnapsWrongFalsely : Prop := headSnapsRow.holds Try.pinned (OpenSpec.ofChange headSnapsWrong)

/-- 'terrazzolaw06.HeadFresh': WHATEVER THE INPUT: true; the input reads as it did. -/
def headFreshSpec : ChangeSpec := { name := "headFresh", fn := fun _ => fun
  | [d] => { results := [.lit (.bool true)], args := [d] }
  | _ => none }
def headFreshRow : OpenClaim := { program := "ytpgfhbkggchliaa", sum := "725716b9389228b6a45b01e19b7a481ea9ad341eaa7ff049565d24885270c8db", func := "terrazzo/terrazzolaw06.HeadFresh", spec := "headFresh", unfollowed := true, recurses := true, apart := false }
def HeadFreshSaid : Prop := headFreshRow.holds Try.pinned (OpenSpec.ofChange headFreshSpec)

/-- ITS FALSE NEIGHBOUR: 'it returns false'. Refute it at one input. -/
def headFreshWrong : ChangeSpec := { name := "headFresh", fn := fun _ => fun
  | [d] => { results := [.lit (.bool false)], args := [d] }
  | _ => none }
def HeadFreshWrongFalsely : Prop := headFreshRow.holds Try.pinned (OpenSpec.ofChange headFreshWrong)

/-- 'terrazzolaw06.HeadMisses': WHATEVER THE INPUT: true; the input reads as it did. -/
def headMissesSpec : ChangeSpec := { name := "headMisses", fn := fun _ => fun
  | [d1, d2, d3] => { results := [.lit (.bool true)], args := [d1, d2, d3] }
  | _ => none }
def headMissesRow : OpenClaim := { program := "ytpgfhbkggchliaa", sum := "725716b9389228b6a45b01e19b7a481ea9ad341eaa7ff049565d24885270c8db", func := "terrazzo/terrazzolaw06.HeadMisses", spec := "headMisses", unfollowed := true, recurses := true, apart := false }
def HeadMissesSaid : Prop := headMissesRow.holds Try.pinned (OpenSpec.ofChange headMissesSpec)

/-- ITS FALSE NEIGHBOUR: 'it returns false'. Refute it at one input. -/
def headMissesWrong : ChangeSpec := { name := "headMisses", fn := fun _ => fun
  | [d1, d2, d3] => { results := [.lit (.bool false)], args := [d1, d2, d3] }
  | _ => none }
def HeadMissesWrongFalsely : Prop := headMissesRow.holds Try.pinned (OpenSpec.ofChange headMissesWrong)

/- THE SECOND FORM. 'bulk': how many values and letters a reading holds, each counted each time it is reached (what is shared counts as often as it is met; a slice's spare places count too). A statement '..UptoSaid' is the law's where the arguments, and the package variables that the reading takes, are together of bulk at most 1048576: NARROWER than '..Said'. Prove '..Said' where nothing that the law and all that it calls make is longer than what came in: it says more and counts as full. Else prove '..UptoSaid'. A law counts once. -/
mutual
def uptoBulk {H : Type} : DataW H → Nat
  | .lit (.string bytes) => bytes.length + 1
  | .lit _ => 1
  | .nil => 1
  | .ptr d => uptoBulk d + 1
  | .slice elems spare => uptoBulkAll elems + uptoBulkAll spare + 1
  | .agg parts => uptoBulkAll parts + 1
  | .iface _ d => uptoBulk d + 1
  | .map entries => uptoBulkEntries entries + 1
  | .held _ => 1
def uptoBulkAll {H : Type} : List (DataW H) → Nat
  | [] => 0
  | d :: r => uptoBulk d + uptoBulkAll r
def uptoBulkEntries {H : Type} : List (Lit × DataW H) → Nat
  | [] => 0
  | x :: r => uptoBulkEntry x + uptoBulkEntries r
def uptoBulkEntry {H : Type} : Lit × DataW H → Nat
  | (.string bytes, d) => bytes.length + uptoBulk d + 1
  | (_, d) => uptoBulk d + 1
 end
def uptoSmall : (H : Type) → List (DataW H) → Bool := fun _ ds => decide (uptoBulkAll ds ≤ 1048576)
def OpenSpec.upto (s : _root_.Go.ChangeSpec) : _root_.Go.OpenSpec := { _root_.Go.OpenSpec.ofChange s with cond := some uptoSmall }

/-- 'terrazzolaw06.HeadChecks', WHERE WHAT IT READS IS OF BULK AT MOST 1048576: true; the input reads as it did. -/
def headChecksUptoRow : OpenClaim := { program := "ytpgfhbkggchliaa", sum := "725716b9389228b6a45b01e19b7a481ea9ad341eaa7ff049565d24885270c8db", func := "terrazzo/terrazzolaw06.HeadChecks", spec := "headChecks", unfollowed := true, recurses := true, apart := false, narrowed := true }
def HeadChecksUptoSaid : Prop := headChecksUptoRow.holds Try.pinned (OpenSpec.upto headChecksSpec)

/-- 'terrazzolaw06.HeadPacks', WHERE WHAT IT READS IS OF BULK AT MOST 1048576: true; the input reads as it did. -/
def headPacksUptoRow : OpenClaim := { program := "ytpgfhbkggchliaa", sum := "725716b9389228b6a45b01e19b7a481ea9ad341eaa7ff049565d24885270c8db", func := "terrazzo/terrazzolaw06.HeadPacks", spec := "headPacks", unfollowed := true, recurses := true, apart := false, narrowed := true }
def HeadPacksUptoSaid : Prop := headPacksUptoRow.holds Try.pinned (OpenSpec.upto headPacksSpec)

/-- 'terrazzolaw06.HeadDiffs', WHERE WHAT IT READS IS OF BULK AT MOST 1048576: true; the input reads as it did. -/
def headDiffsUptoRow : OpenClaim := { program := "ytpgfhbkggchliaa", sum := "725716b9389228b6a45b01e19b7a481ea9ad341eaa7ff049565d24885270c8db", func := "terrazzo/terrazzolaw06.HeadDiffs", spec := "headDiffs", unfollowed := true, recurses := true, apart := false, narrowed := true }
def HeadDiffsUptoSaid : Prop := headDiffsUptoRow.holds Try.pinned (OpenSpec.upto headDiffsSpec)

/-- 'terrazzolaw06.HeadBack', WHERE WHAT IT READS IS OF BULK AT MOST 1048576: true; the input reads as it did. -/
def headBackUptoRow : OpenClaim := { program := "ytpgfhbkggchliaa", sum := "725716b9389228b6a45b01e19b7a481ea9ad341eaa7ff049565d24885270c8db", func := "terrazzo/terrazzolaw06.HeadBack", spec := "headBack", unfollowed := true, recurses := true, apart := false, narrowed := true }
def HeadBackUptoSaid : Prop := headBackUptoRow.holds Try.pinned (OpenSpec.upto headBackSpec)

/-- 'terrazzolaw06.HeadSnaps', WHERE WHAT IT READS IS OF BULK AT MOST 1048576: true; the input reads as it did. -/
def headSnapsUptoRow : OpenClaim := { program := "ytpgfhbkggchliaa", sum := "725716b9389228b6a45b01e19b7a481ea9ad341eaa7ff049565d24885270c8db", func := "terrazzo/terrazzolaw06.HeadSnaps", spec := "headSnaps", unfollowed := true, recurses := true, apart := false, narrowed := true }
def HeadSnapsUptoSaid : Prop := headSnapsUptoRow.holds Try.pinned (OpenSpec.upto headSnapsSpec)

/-- 'terrazzolaw06.HeadFresh', WHERE WHAT IT READS IS OF BULK AT MOST 1048576: true; the input reads as it did. -/
def headFreshUptoRow : OpenClaim := { program := "ytpgfhbkggchliaa", sum := "725716b9389228b6a45b01e19b7a481ea9ad341eaa7ff049565d24885270c8db", func := "terrazzo/terrazzolaw06.HeadFresh", spec := "headFresh", unfollowed := true, recurses := true, apart := false, narrowed := true }
def HeadFreshUptoSaid : Prop := headFreshUptoRow.holds Try.pinned (OpenSpec.upto headFreshSpec)

/-- 'terrazzolaw06.HeadMisses', WHERE WHAT IT READS IS OF BULK AT MOST 1048576: true; the input reads as it did. -/
def headMissesUptoRow : OpenClaim := { program := "ytpgfhbkggchliaa", sum := "725716b9389228b6a45b01e19b7a481ea9ad341eaa7ff049565d24885270c8db", func := "terrazzo/terrazzolaw06.HeadMisses", spec := "headMisses", unfollowed := true, recurses := true, apart := false, narrowed := true }
def HeadMissesUptoSaid : Prop := headMissesUptoRow.holds Try.pinned (OpenSpec.upto headMissesSpec)

end Rows
end Go.Proofs.Ytpgfhbkggchliaa
