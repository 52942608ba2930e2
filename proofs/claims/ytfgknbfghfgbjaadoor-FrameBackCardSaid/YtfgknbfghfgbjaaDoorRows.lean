/-
  NARROWER THAN 'FOR EVERY INPUT', by the rows' own cells (each row's printed sentence says how): FrameSums: laid · FrameNexts: laid · FrameWholes: laid · FrameBack: laid · FrameTurned: laid · FrameOwn: laid.
  DERIVED. THE GIVEN ROWS OF THIS SEAT. 6 by the template 'for every input the law returns true; each argument reads behind the call as it read before'; 0 by the template 'total and deterministic' (their statements: YtfgknbfghfgbjaaDoorTotals.lean).
  GIVEN WITH THE SEED: the statements are not yours to turn. If you find one false, say at which input.
  Laid BY PROGRAM, IN A SANDBOX (cutbox-rows.mjs): the forced cells as the released guide's own fill.sh prints them over the translation 505cc2371ff519a0… (all of the seat's roots in one cut). By AI agents, Wed Nov 11 2026. No macro, syntax, notation, axiom, sorry.
-/
import Derived.Test.YtfgknbfghfgbjaaDoorChecked
import GoSem.Claim
import GoSem.ClaimJoined
import GoSem.ClaimMapViews
import Derived.JoinedTies
import Derived.KernelRfl
namespace Go.Proofs.YtfgknbfghfgbjaaDoor
/- THE CELL 'sum', in the pinned program and in every row, IS THE sha256 OF THE DUMP (.gsa) THAT YtfgknbfghfgbjaaDoorProg.lean LOADS. Nothing in Lean hashes anything: it is a label: what it is worth is what the hold of that sum in a sandbox is worth. -/
noncomputable def Tryd.pinned : Pinned := { name := "ytfgknbfghfgbjaadoor", sum := "505cc2371ff519a0d518078f1c64cc459028cee4aca7a708261073a8015df47c", checked := Tryd.checked }
namespace Rows
def none {H : Type} : Left H := { results := [], args := [] }

/- WHAT THE LISTED PACKAGE-LEVEL VARIABLES READ AS WHEN THE CALL BEGINS. Each datum BY PROGRAM (the guide's laid-datum.mjs) off the statement by which the dump's own 'gosem.cut.vars' lays the variable. In a bare row this is a premise. The card (YtfgknbfghfgbjaaDoorCards.lean) ties it to the program's text. -/
def laid_terrazzo_frame_halves {H : Type} : DataW H := .agg [.lit (.int .u32 0), .lit (.int .u32 274646895), .lit (.int .u32 549293790), .lit (.int .u32 820201905), .lit (.int .u32 1098587580), .lit (.int .u32 1361435347), .lit (.int .u32 1640403810), .lit (.int .u32 1905808397), .lit (.int .u32 2197175160), .lit (.int .u32 2460548119), .lit (.int .u32 2722870694), .lit (.int .u32 2987750089), .lit (.int .u32 3280807620), .lit (.int .u32 3553878443), .lit (.int .u32 3811616794), .lit (.int .u32 4084100981)]

/-- 'terrazzolaw02.FrameSums': WHATEVER THE INPUT: true; the input reads as it did. -/
def frameSumsSpec : ChangeSpec := { name := "frameSums", fn := fun _ => fun
  | [d1, d2] => { results := [.lit (.bool true)], args := [d1, d2] }
  | _ => none }
def frameSumsRow : OpenClaim := { program := "ytfgknbfghfgbjaadoor", sum := "505cc2371ff519a0d518078f1c64cc459028cee4aca7a708261073a8015df47c", func := "terrazzo/terrazzolaw02.FrameSums", spec := "frameSums", unfollowed := true, recurses := true, named := ["terrazzo/frame.halves"], apart := false, laid := [("terrazzo/frame.halves", laid_terrazzo_frame_halves)] }
def FrameSumsSaid : Prop := frameSumsRow.holds Tryd.pinned (OpenSpec.ofChange frameSumsSpec)

/-- ITS FALSE NEIGHBOUR: 'it returns false'. Refute it at one input. -/
def frameSumsWrong : ChangeSpec := { name := "frameSums", fn := fun _ => fun
  | [d1, d2] => { results := [.lit (.bool false)], args := [d1, d2] }
  | _ => none }
def FrameSumsWrongFalsely : Prop := frameSumsRow.holds Tryd.pinned (OpenSpec.ofChange frameSumsWrong)

/-- 'terrazzolaw02.FrameNexts': WHATEVER THE INPUT: true; the input reads as it did. -/
def frameNextsSpec : ChangeSpec := { name := "frameNexts", fn := fun _ => fun
  | [d] => { results := [.lit (.bool true)], args := [d] }
  | _ => none }
def frameNextsRow : OpenClaim := { program := "ytfgknbfghfgbjaadoor", sum := "505cc2371ff519a0d518078f1c64cc459028cee4aca7a708261073a8015df47c", func := "terrazzo/terrazzolaw02.FrameNexts", spec := "frameNexts", unfollowed := true, recurses := true, named := ["terrazzo/frame.halves"], apart := false, laid := [("terrazzo/frame.halves", laid_terrazzo_frame_halves)] }
def FrameNextsSaid : Prop := frameNextsRow.holds Tryd.pinned (OpenSpec.ofChange frameNextsSpec)

/-- ITS FALSE NEIGHBOUR: 'it returns false'. Refute it at one input. -/
def frameNextsWrong : ChangeSpec := { name := "frameNexts", fn := fun _ => fun
  | [d] => { results := [.lit (.bool false)], args := [d] }
  | _ => none }
def FrameNextsWrongFalsely : Prop := frameNextsRow.holds Tryd.pinned (OpenSpec.ofChange frameNextsWrong)

/-- 'terrazzolaw02.FrameWholes': WHATEVER THE INPUT: true; the input reads as it did. -/
def frameWholesSpec : ChangeSpec := { name := "frameWholes", fn := fun _ => fun
  | [d] => { results := [.lit (.bool true)], args := [d] }
  | _ => none }
def frameWholesRow : OpenClaim := { program := "ytfgknbfghfgbjaadoor", sum := "505cc2371ff519a0d518078f1c64cc459028cee4aca7a708261073a8015df47c", func := "terrazzo/terrazzolaw02.FrameWholes", spec := "frameWholes", unfollowed := true, recurses := true, named := ["terrazzo/frame.halves"], apart := false, laid := [("terrazzo/frame.halves", laid_terrazzo_frame_halves)] }
def FrameWholesSaid : Prop := frameWholesRow.holds Tryd.pinned (OpenSpec.ofChange frameWholesSpec)

/-- ITS FALSE NEIGHBOUR: 'it returns false'. Refute it at one input. -/
def frameWholesWrong : ChangeSpec := { name := "frameWholes", fn := fun _ => fun
  | [d] => { results := [.lit (.bool false)], args := [d] }
  | _ => none }
def FrameWholesWrongFalsely : Prop := frameWholesRow.holds Tryd.pinned (OpenSpec.ofChange frameWholesWrong)

/-- 'terrazzolaw02.FrameBack': WHATEVER THE INPUT: true; the input reads as it did. -/
def frameBackSpec : ChangeSpec := { name := "frameBack", fn := fun _ => fun
  | [d1, d2, d3] => { results := [.lit (.bool true)], args := [d1, d2, d3] }
  | _ => none }
def frameBackRow : OpenClaim := { program := "ytfgknbfghfgbjaadoor", sum := "505cc2371ff519a0d518078f1c64cc459028cee4aca7a708261073a8015df47c", func := "terrazzo/terrazzolaw02.FrameBack", spec := "frameBack", unfollowed := true, recurses := true, named := ["terrazzo/frame.halves"], apart := false, laid := [("terrazzo/frame.halves", laid_terrazzo_frame_halves)] }
def FrameBackSaid : Prop := frameBackRow.holds Tryd.pinned (OpenSpec.ofChange frameBackSpec)

/-- ITS FALSE NEIGHBOUR: 'it returns false'. Refute it at one input. -/
def frameBackWrong : ChangeSpec := { name := "frameBack", fn := fun _ => fun
  | [d1, d2, d3] => { results := [.lit (.bool false)], args := [d1, d2, d3] }
  | _ => none }
def FrameBackWrongFalsely : Prop := frameBackRow.holds Tryd.pinned (OpenSpec.ofChange frameBackWrong)

/-- 'terrazzolaw02.FrameTurned': WHATEVER THE INPUT: true; the input reads as it did. -/
def frameTurnedSpec : ChangeSpec := { name := "frameTurned", fn := fun _ => fun
  | [d1, d2, d3] => { results := [.lit (.bool true)], args := [d1, d2, d3] }
  | _ => none }
def frameTurnedRow : OpenClaim := { program := "ytfgknbfghfgbjaadoor", sum := "505cc2371ff519a0d518078f1c64cc459028cee4aca7a708261073a8015df47c", func := "terrazzo/terrazzolaw02.FrameTurned", spec := "frameTurned", unfollowed := true, recurses := true, named := ["terrazzo/frame.halves"], apart := false, laid := [("terrazzo/frame.halves", laid_terrazzo_frame_halves)] }
def FrameTurnedSaid : Prop := frameTurnedRow.holds Tryd.pinned (OpenSpec.ofChange frameTurnedSpec)

/-- ITS FALSE NEIGHBOUR: 'it returns false'. Refute it at one input. -/
def frameTurnedWrong : ChangeSpec := { name := "frameTurned", fn := fun _ => fun
  | [d1, d2, d3] => { results := [.lit (.bool false)], args := [d1, d2, d3] }
  | _ => none }
def FrameTurnedWrongFalsely : Prop := frameTurnedRow.holds Tryd.pinned (OpenSpec.ofChange frameTurnedWrong)

/-- 'terrazzolaw02.FrameOwn': WHATEVER THE INPUT: true; the input reads as it did. -/
def frameOwnSpec : ChangeSpec := { name := "frameOwn", fn := fun _ => fun
  | [d1, d2] => { results := [.lit (.bool true)], args := [d1, d2] }
  | _ => none }
def frameOwnRow : OpenClaim := { program := "ytfgknbfghfgbjaadoor", sum := "505cc2371ff519a0d518078f1c64cc459028cee4aca7a708261073a8015df47c", func := "terrazzo/terrazzolaw02.FrameOwn", spec := "frameOwn", unfollowed := true, recurses := true, named := ["terrazzo/frame.halves"], apart := false, laid := [("terrazzo/frame.halves", laid_terrazzo_frame_halves)] }
def FrameOwnSaid : Prop := frameOwnRow.holds Tryd.pinned (OpenSpec.ofChange frameOwnSpec)

/-- ITS FALSE NEIGHBOUR: 'it returns false'. Refute it at one input. -/
def frameOwnWrong : ChangeSpec := { name := "frameOwn", fn := fun _ => fun
  | [d1, d2] => { results := [.lit (.bool false)], args := [d1, d2] }
  | _ => none }
def FrameOwnWrongFalsely : Prop := frameOwnRow.holds Tryd.pinned (OpenSpec.ofChange frameOwnWrong)

/- THE SECOND FORM. 'bulk': how many values and letters a reading holds, each counted each time it is reached (what is shared counts as often as it is met; a slice's spare places count too). A statement '..UptoSaid' is the law's where the arguments, and the package variables that the reading takes, are together of bulk at most 1048576: NARROWER than '..Said'. Prove '..Said' where nothing that the law and all that it calls make is longer than what came in: it says more and counts as full. Else prove '..UptoSaid'. A law counts once. -/
mutual
def uptoBulk {H : Type} : DataW H → Nat
  | .lit (.string bytes) => bytes.length + 1
  | .lit _ => 1
  | .nil => 1
  | .ptr d => uptoBulk d + 1
  | .slice elems spare => uptoBulkAll elems + uptoBulkAll spare + 1
  | .agg parts => uptoBulkAll parts + 1
  | .iface _ d => uptoBulk d + 1
  | .map entries => uptoBulkEntries entries + 1
  | .held _ => 1
def uptoBulkAll {H : Type} : List (DataW H) → Nat
  | [] => 0
  | d :: r => uptoBulk d + uptoBulkAll r
def uptoBulkEntries {H : Type} : List (Lit × DataW H) → Nat
  | [] => 0
  | x :: r => uptoBulkEntry x + uptoBulkEntries r
def uptoBulkEntry {H : Type} : Lit × DataW H → Nat
  | (.string bytes, d) => bytes.length + uptoBulk d + 1
  | (_, d) => uptoBulk d + 1
 end
def uptoSmall : (H : Type) → List (DataW H) → Bool := fun _ ds => decide (uptoBulkAll ds ≤ 1048576)
def OpenSpec.upto (s : _root_.Go.ChangeSpec) : _root_.Go.OpenSpec := { _root_.Go.OpenSpec.ofChange s with cond := some uptoSmall }

/-- 'terrazzolaw02.FrameSums', WHERE WHAT IT READS IS OF BULK AT MOST 1048576: true; the input reads as it did. -/
def frameSumsUptoRow : OpenClaim := { program := "ytfgknbfghfgbjaadoor", sum := "505cc2371ff519a0d518078f1c64cc459028cee4aca7a708261073a8015df47c", func := "terrazzo/terrazzolaw02.FrameSums", spec := "frameSums", unfollowed := true, recurses := true, named := ["terrazzo/frame.halves"], apart := false, laid := [("terrazzo/frame.halves", laid_terrazzo_frame_halves)], narrowed := true }
def FrameSumsUptoSaid : Prop := frameSumsUptoRow.holds Tryd.pinned (OpenSpec.upto frameSumsSpec)

/-- 'terrazzolaw02.FrameNexts', WHERE WHAT IT READS IS OF BULK AT MOST 1048576: true; the input reads as it did. -/
def frameNextsUptoRow : OpenClaim := { program := "ytfgknbfghfgbjaadoor", sum := "505cc2371ff519a0d518078f1c64cc459028cee4aca7a708261073a8015df47c", func := "terrazzo/terrazzolaw02.FrameNexts", spec := "frameNexts", unfollowed := true, recurses := true, named := ["terrazzo/frame.halves"], apart := false, laid := [("terrazzo/frame.halves", laid_terrazzo_frame_halves)], narrowed := true }
def FrameNextsUptoSaid : Prop := frameNextsUptoRow.holds Tryd.pinned (OpenSpec.upto frameNextsSpec)

/-- 'terrazzolaw02.FrameWholes', WHERE WHAT IT READS IS OF BULK AT MOST 1048576: true; the input reads as it did. -/
def frameWholesUptoRow : OpenClaim := { program := "ytfgknbfghfgbjaadoor", sum := "505cc2371ff519a0d518078f1c64cc459028cee4aca7a708261073a8015df47c", func := "terrazzo/terrazzolaw02.FrameWholes", spec := "frameWholes", unfollowed := true, recurses := true, named := ["terrazzo/frame.halves"], apart := false, laid := [("terrazzo/frame.halves", laid_terrazzo_frame_halves)], narrowed := true }
def FrameWholesUptoSaid : Prop := frameWholesUptoRow.holds Tryd.pinned (OpenSpec.upto frameWholesSpec)

/-- 'terrazzolaw02.FrameBack', WHERE WHAT IT READS IS OF BULK AT MOST 1048576: true; the input reads as it did. -/
def frameBackUptoRow : OpenClaim := { program := "ytfgknbfghfgbjaadoor", sum := "505cc2371ff519a0d518078f1c64cc459028cee4aca7a708261073a8015df47c", func := "terrazzo/terrazzolaw02.FrameBack", spec := "frameBack", unfollowed := true, recurses := true, named := ["terrazzo/frame.halves"], apart := false, laid := [("terrazzo/frame.halves", laid_terrazzo_frame_halves)], narrowed := true }
def FrameBackUptoSaid : Prop := frameBackUptoRow.holds Tryd.pinned (OpenSpec.upto frameBackSpec)

/-- 'terrazzolaw02.FrameTurned', WHERE WHAT IT READS IS OF BULK AT MOST 1048576: true; the input reads as it did. -/
def frameTurnedUptoRow : OpenClaim := { program := "ytfgknbfghfgbjaadoor", sum := "505cc2371ff519a0d518078f1c64cc459028cee4aca7a708261073a8015df47c", func := "terrazzo/terrazzolaw02.FrameTurned", spec := "frameTurned", unfollowed := true, recurses := true, named := ["terrazzo/frame.halves"], apart := false, laid := [("terrazzo/frame.halves", laid_terrazzo_frame_halves)], narrowed := true }
def FrameTurnedUptoSaid : Prop := frameTurnedUptoRow.holds Tryd.pinned (OpenSpec.upto frameTurnedSpec)

/-- 'terrazzolaw02.FrameOwn', WHERE WHAT IT READS IS OF BULK AT MOST 1048576: true; the input reads as it did. -/
def frameOwnUptoRow : OpenClaim := { program := "ytfgknbfghfgbjaadoor", sum := "505cc2371ff519a0d518078f1c64cc459028cee4aca7a708261073a8015df47c", func := "terrazzo/terrazzolaw02.FrameOwn", spec := "frameOwn", unfollowed := true, recurses := true, named := ["terrazzo/frame.halves"], apart := false, laid := [("terrazzo/frame.halves", laid_terrazzo_frame_halves)], narrowed := true }
def FrameOwnUptoSaid : Prop := frameOwnUptoRow.holds Tryd.pinned (OpenSpec.upto frameOwnSpec)

end Rows
end Go.Proofs.YtfgknbfghfgbjaaDoor
