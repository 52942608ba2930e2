/-
  NARROWER THAN 'FOR EVERY INPUT', by the rows' own cells (each row's printed sentence says how): MediumKeeps: laid · MediumCuts: laid · MediumRoom: laid · MediumOrder: laid · MediumPlays: laid · MediumSpoilt: laid · MediumNone: laid.
  DERIVED. THE GIVEN ROWS OF THIS SEAT. 7 by the template 'for every input the law returns true; each argument reads behind the call as it read before'; 0 by the template 'total and deterministic' (their statements: YtodfejeifbhoeaaDoorTotals.lean).
  GIVEN WITH THE SEED: the statements are not yours to turn. If you find one false, say at which input.
  Laid BY PROGRAM, IN A SANDBOX (cutbox-rows.mjs): the forced cells as the released guide's own fill.sh prints them over the translation 961be95daba5da92… (all of the seat's roots in one cut). By AI agents, Wed Nov 11 2026. No macro, syntax, notation, axiom, sorry.
-/
import Derived.Test.YtodfejeifbhoeaaDoorChecked
import GoSem.Claim
import GoSem.ClaimJoined
import GoSem.ClaimMapViews
import Derived.JoinedTies
import Derived.KernelRfl
namespace Go.Proofs.YtodfejeifbhoeaaDoor
/- THE CELL 'sum', in the pinned program and in every row, IS THE sha256 OF THE DUMP (.gsa) THAT YtodfejeifbhoeaaDoorProg.lean LOADS. Nothing in Lean hashes anything: it is a label: what it is worth is what the hold of that sum in a sandbox is worth. -/
noncomputable def Tryd.pinned : Pinned := { name := "ytodfejeifbhoeaadoor", sum := "961be95daba5da920d6c506f6a3a2028385167ae63b14a8550869d22078c2dfa", checked := Tryd.checked }
namespace Rows
def none {H : Type} : Left H := { results := [], args := [] }

/- WHAT THE LISTED PACKAGE-LEVEL VARIABLES READ AS WHEN THE CALL BEGINS. Each datum BY PROGRAM (the guide's laid-datum.mjs) off the statement by which the dump's own 'gosem.cut.vars' lays the variable. In a bare row this is a premise. The card (YtodfejeifbhoeaaDoorCards.lean) ties it to the program's text. -/
def laid_terrazzo_frame_halves {H : Type} : DataW H := .agg [.lit (.int .u32 0), .lit (.int .u32 274646895), .lit (.int .u32 549293790), .lit (.int .u32 820201905), .lit (.int .u32 1098587580), .lit (.int .u32 1361435347), .lit (.int .u32 1640403810), .lit (.int .u32 1905808397), .lit (.int .u32 2197175160), .lit (.int .u32 2460548119), .lit (.int .u32 2722870694), .lit (.int .u32 2987750089), .lit (.int .u32 3280807620), .lit (.int .u32 3553878443), .lit (.int .u32 3811616794), .lit (.int .u32 4084100981)]

/-- 'terrazzolaw10.MediumKeeps': WHATEVER THE INPUT: true; the input reads as it did. -/
def mediumKeepsSpec : ChangeSpec := { name := "mediumKeeps", fn := fun _ => fun
  | [d] => { results := [.lit (.bool true)], args := [d] }
  | _ => none }
def mediumKeepsRow : OpenClaim := { program := "ytodfejeifbhoeaadoor", sum := "961be95daba5da920d6c506f6a3a2028385167ae63b14a8550869d22078c2dfa", func := "terrazzo/terrazzolaw10.MediumKeeps", spec := "mediumKeeps", unfollowed := true, recurses := true, named := ["terrazzo/frame.halves"], apart := false, laid := [("terrazzo/frame.halves", laid_terrazzo_frame_halves)] }
def MediumKeepsSaid : Prop := mediumKeepsRow.holds Tryd.pinned (OpenSpec.ofChange mediumKeepsSpec)

/-- ITS FALSE NEIGHBOUR: 'it returns false'. Refute it at one input. -/
def mediumKeepsWrong : ChangeSpec := { name := "mediumKeeps", fn := fun _ => fun
  | [d] => { results := [.lit (.bool false)], args := [d] }
  | _ => none }
def MediumKeepsWrongFalsely : Prop := mediumKeepsRow.holds Tryd.pinned (OpenSpec.ofChange mediumKeepsWrong)

/-- 'terrazzolaw10.MediumCuts': WHATEVER THE INPUT: true; the input reads as it did. -/
def mediumCutsSpec : ChangeSpec := { name := "mediumCuts", fn := fun _ => fun
  | [d1, d2, d3] => { results := [.lit (.bool true)], args := [d1, d2, d3] }
  | _ => none }
def mediumCutsRow : OpenClaim := { program := "ytodfejeifbhoeaadoor", sum := "961be95daba5da920d6c506f6a3a2028385167ae63b14a8550869d22078c2dfa", func := "terrazzo/terrazzolaw10.MediumCuts", spec := "mediumCuts", unfollowed := true, recurses := true, named := ["terrazzo/frame.halves"], apart := false, laid := [("terrazzo/frame.halves", laid_terrazzo_frame_halves)] }
def MediumCutsSaid : Prop := mediumCutsRow.holds Tryd.pinned (OpenSpec.ofChange mediumCutsSpec)

/-- ITS FALSE NEIGHBOUR: 'it returns false'. Refute it at one input. -/
def mediumCutsWrong : ChangeSpec := { name := "mediumCuts", fn := fun _ => fun
  | [d1, d2, d3] => { results := [.lit (.bool false)], args := [d1, d2, d3] }
  | _ => none }
def MediumCutsWrongFalsely : Prop := mediumCutsRow.holds Tryd.pinned (OpenSpec.ofChange mediumCutsWrong)

/-- 'terrazzolaw10.MediumRoom': WHATEVER THE INPUT: true; the input reads as it did. -/
def mediumRoomSpec : ChangeSpec := { name := "mediumRoom", fn := fun _ => fun
  | [d1, d2] => { results := [.lit (.bool true)], args := [d1, d2] }
  | _ => none }
def mediumRoomRow : OpenClaim := { program := "ytodfejeifbhoeaadoor", sum := "961be95daba5da920d6c506f6a3a2028385167ae63b14a8550869d22078c2dfa", func := "terrazzo/terrazzolaw10.MediumRoom", spec := "mediumRoom", unfollowed := true, recurses := true, named := ["terrazzo/frame.halves"], apart := false, laid := [("terrazzo/frame.halves", laid_terrazzo_frame_halves)] }
def MediumRoomSaid : Prop := mediumRoomRow.holds Tryd.pinned (OpenSpec.ofChange mediumRoomSpec)

/-- ITS FALSE NEIGHBOUR: 'it returns false'. Refute it at one input. -/
def mediumRoomWrong : ChangeSpec := { name := "mediumRoom", fn := fun _ => fun
  | [d1, d2] => { results := [.lit (.bool false)], args := [d1, d2] }
  | _ => none }
def MediumRoomWrongFalsely : Prop := mediumRoomRow.holds Tryd.pinned (OpenSpec.ofChange mediumRoomWrong)

/-- 'terrazzolaw10.MediumOrder': WHATEVER THE INPUT: true; the input reads as it did. -/
def mediumOrderSpec : ChangeSpec := { name := "mediumOrder", fn := fun _ => fun
  | [d] => { results := [.lit (.bool true)], args := [d] }
  | _ => none }
def mediumOrderRow : OpenClaim := { program := "ytodfejeifbhoeaadoor", sum := "961be95daba5da920d6c506f6a3a2028385167ae63b14a8550869d22078c2dfa", func := "terrazzo/terrazzolaw10.MediumOrder", spec := "mediumOrder", unfollowed := true, recurses := true, named := ["terrazzo/frame.halves"], apart := false, laid := [("terrazzo/frame.halves", laid_terrazzo_frame_halves)] }
def MediumOrderSaid : Prop := mediumOrderRow.holds Tryd.pinned (OpenSpec.ofChange mediumOrderSpec)

/-- ITS FALSE NEIGHBOUR: 'it returns false'. Refute it at one input. -/
def mediumOrderWrong : ChangeSpec := { name := "mediumOrder", fn := fun _ => fun
  | [d] => { results := [.lit (.bool false)], args := [d] }
  | _ => none }
def MediumOrderWrongFalsely : Prop := mediumOrderRow.holds Tryd.pinned (OpenSpec.ofChange mediumOrderWrong)

/-- 'terrazzolaw10.MediumPlays': WHATEVER THE INPUT: true; the input reads as it did. -/
def mediumPlaysSpec : ChangeSpec := { name := "mediumPlays", fn := fun _ => fun
  | [d1, d2] => { results := [.lit (.bool true)], args := [d1, d2] }
  | _ => none }
def mediumPlaysRow : OpenClaim := { program := "ytodfejeifbhoeaadoor", sum := "961be95daba5da920d6c506f6a3a2028385167ae63b14a8550869d22078c2dfa", func := "terrazzo/terrazzolaw10.MediumPlays", spec := "mediumPlays", unfollowed := true, recurses := true, named := ["terrazzo/frame.halves"], apart := false, laid := [("terrazzo/frame.halves", laid_terrazzo_frame_halves)] }
def MediumPlaysSaid : Prop := mediumPlaysRow.holds Tryd.pinned (OpenSpec.ofChange mediumPlaysSpec)

/-- ITS FALSE NEIGHBOUR: 'it returns false'. Refute it at one input. -/
def mediumPlaysWrong : ChangeSpec := { name := "mediumPlays", fn := fun _ => fun
  | [d1, d2] => { results := [.lit (.bool false)], args := [d1, d2] }
  | _ => none }
def MediumPlaysWrongFalsely : Prop := mediumPlaysRow.holds Tryd.pinned (OpenSpec.ofChange mediumPlaysWrong)

/-- 'terrazzolaw10.MediumSpoilt': WHATEVER THE INPUT: true; the input reads as it did. -/
def mediumSpoiltSpec : ChangeSpec := { name := "mediumSpoilt", fn := fun _ => fun
  | [d1, d2, d3] => { results := [.lit (.bool true)], args := [d1, d2, d3] }
  | _ => none }
def mediumSpoiltRow : OpenClaim := { program := "ytodfejeifbhoeaadoor", sum := "961be95daba5da920d6c506f6a3a2028385167ae63b14a8550869d22078c2dfa", func := "terrazzo/terrazzolaw10.MediumSpoilt", spec := "mediumSpoilt", unfollowed := true, recurses := true, named := ["terrazzo/frame.halves"], apart := false, laid := [("terrazzo/frame.halves", laid_terrazzo_frame_halves)] }
def MediumSpoiltSaid : Prop := mediumSpoiltRow.holds Tryd.pinned (OpenSpec.ofChange mediumSpoiltSpec)

/-- ITS FALSE NEIGHBOUR: 'it returns false'. Refute it at one input. -/
def mediumSpoiltWrong : ChangeSpec := { name := "mediumSpoilt", fn := fun _ => fun
  | [d1, d2, d3] => { results := [.lit (.bool false)], args := [d1, d2, d3] }
  | _ => none }
def MediumSpoiltWrongFalsely : Prop := mediumSpoiltRow.holds Tryd.pinned (OpenSpec.ofChange mediumSpoiltWrong)

/-- 'terrazzolaw10.MediumNone': WHATEVER THE INPUT: true; the input reads as it did. -/
def mediumNoneSpec : ChangeSpec := { name := "mediumNone", fn := fun _ => fun
  | [d1, d2, d3] => { results := [.lit (.bool true)], args := [d1, d2, d3] }
  | _ => none }
def mediumNoneRow : OpenClaim := { program := "ytodfejeifbhoeaadoor", sum := "961be95daba5da920d6c506f6a3a2028385167ae63b14a8550869d22078c2dfa", func := "terrazzo/terrazzolaw10.MediumNone", spec := "mediumNone", unfollowed := true, recurses := true, named := ["terrazzo/frame.halves"], apart := false, laid := [("terrazzo/frame.halves", laid_terrazzo_frame_halves)] }
def MediumNoneSaid : Prop := mediumNoneRow.holds Tryd.pinned (OpenSpec.ofChange mediumNoneSpec)

/-- ITS FALSE NEIGHBOUR: 'it returns false'. Refute it at one input. -/
def mediumNoneWrong : ChangeSpec := { name := "mediumNone", fn := fun _ => fun
  | [d1, d2, d3] => { results := [.lit (.bool false)], args := [d1, d2, d3] }
  | _ => none }
def MediumNoneWrongFalsely : Prop := mediumNoneRow.holds Tryd.pinned (OpenSpec.ofChange mediumNoneWrong)

/- THE SECOND FORM. 'bulk': how many values and letters a reading holds, each counted each time it is reached (what is shared counts as often as it is met; a slice's spare places count too). A statement '..UptoSaid' is the law's where the arguments, and the package variables that the reading takes, are together of bulk at most 1048576: NARROWER than '..Said'. Prove '..Said' where nothing that the law and all that it calls make is longer than what came in: it says more and counts as full. Else prove '..UptoSaid'. A law counts once. -/
mutual
def uptoBulk {H : Type} : DataW H → Nat
  | .lit (.string bytes) => bytes.length + 1
  | .lit _ => 1
  | .nil => 1
  | .ptr d => uptoBulk d + 1
  | .slice elems spare => uptoBulkAll elems + uptoBulkAll spare + 1
  | .agg parts => uptoBulkAll parts + 1
  | .iface _ d => uptoBulk d + 1
  | .map entries => uptoBulkEntries entries + 1
  | .held _ => 1
def uptoBulkAll {H : Type} : List (DataW H) → Nat
  | [] => 0
  | d :: r => uptoBulk d + uptoBulkAll r
def uptoBulkEntries {H : Type} : List (Lit × DataW H) → Nat
  | [] => 0
  | x :: r => uptoBulkEntry x + uptoBulkEntries r
def uptoBulkEntry {H : Type} : Lit × DataW H → Nat
  | (.string bytes, d) => bytes.length + uptoBulk d + 1
  | (_, d) => uptoBulk d + 1
 end
def uptoSmall : (H : Type) → List (DataW H) → Bool := fun _ ds => decide (uptoBulkAll ds ≤ 1048576)
def OpenSpec.upto (s : _root_.Go.ChangeSpec) : _root_.Go.OpenSpec := { _root_.Go.OpenSpec.ofChange s with cond := some uptoSmall }

/-- 'terrazzolaw10.MediumKeeps', WHERE WHAT IT READS IS OF BULK AT MOST 1048576: true; the input reads as it did. -/
def mediumKeepsUptoRow : OpenClaim := { program := "ytodfejeifbhoeaadoor", sum := "961be95daba5da920d6c506f6a3a2028385167ae63b14a8550869d22078c2dfa", func := "terrazzo/terrazzolaw10.MediumKeeps", spec := "mediumKeeps", unfollowed := true, recurses := true, named := ["terrazzo/frame.halves"], apart := false, laid := [("terrazzo/frame.halves", laid_terrazzo_frame_halves)], narrowed := true }
def MediumKeepsUptoSaid : Prop := mediumKeepsUptoRow.holds Tryd.pinned (OpenSpec.upto mediumKeepsSpec)

/-- 'terrazzolaw10.MediumCuts', WHERE WHAT IT READS IS OF BULK AT MOST 1048576: true; the input reads as it did. -/
def mediumCutsUptoRow : OpenClaim := { program := "ytodfejeifbhoeaadoor", sum := "961be95daba5da920d6c506f6a3a2028385167ae63b14a8550869d22078c2dfa", func := "terrazzo/terrazzolaw10.MediumCuts", spec := "mediumCuts", unfollowed := true, recurses := true, named := ["terrazzo/frame.halves"], apart := false, laid := [("terrazzo/frame.halves", laid_terrazzo_frame_halves)], narrowed := true }
def MediumCutsUptoSaid : Prop := mediumCutsUptoRow.holds Tryd.pinned (OpenSpec.upto mediumCutsSpec)

/-- 'terrazzolaw10.MediumRoom', WHERE WHAT IT READS IS OF BULK AT MOST 1048576: true; the input reads as it did. -/
def mediumRoomUptoRow : OpenClaim := { program := "ytodfejeifbhoeaadoor", sum := "961be95daba5da920d6c506f6a3a2028385167ae63b14a8550869d22078c2dfa", func := "terrazzo/terrazzolaw10.MediumRoom", spec := "mediumRoom", unfollowed := true, recurses := true, named := ["terrazzo/frame.halves"], apart := false, laid := [("terrazzo/frame.halves", laid_terrazzo_frame_halves)], narrowed := true }
def MediumRoomUptoSaid : Prop := mediumRoomUptoRow.holds Tryd.pinned (OpenSpec.upto mediumRoomSpec)

/-- 'terrazzolaw10.MediumOrder', WHERE WHAT IT READS IS OF BULK AT MOST 1048576: true; the input reads as it did. -/
def mediumOrderUptoRow : OpenClaim := { program := "ytodfejeifbhoeaadoor", sum := "961be95daba5da920d6c506f6a3a2028385167ae63b14a8550869d22078c2dfa", func := "terrazzo/terrazzolaw10.MediumOrder", spec := "mediumOrder", unfollowed := true, recurses := true, named := ["terrazzo/frame.halves"], apart := false, laid := [("terrazzo/frame.halves", laid_terrazzo_frame_halves)], narrowed := true }
def MediumOrderUptoSaid : Prop := mediumOrderUptoRow.holds Tryd.pinned (OpenSpec.upto mediumOrderSpec)

/-- 'terrazzolaw10.MediumPlays', WHERE WHAT IT READS IS OF BULK AT MOST 1048576: true; the input reads as it did. -/
def mediumPlaysUptoRow : OpenClaim := { program := "ytodfejeifbhoeaadoor", sum := "961be95daba5da920d6c506f6a3a2028385167ae63b14a8550869d22078c2dfa", func := "terrazzo/terrazzolaw10.MediumPlays", spec := "mediumPlays", unfollowed := true, recurses := true, named := ["terrazzo/frame.halves"], apart := false, laid := [("terrazzo/frame.halves", laid_terrazzo_frame_halves)], narrowed := true }
def MediumPlaysUptoSaid : Prop := mediumPlaysUptoRow.holds Tryd.pinned (OpenSpec.upto mediumPlaysSpec)

/-- 'terrazzolaw10.MediumSpoilt', WHERE WHAT IT READS IS OF BULK AT MOST 1048576: true; the input reads as it did. -/
def mediumSpoiltUptoRow : OpenClaim := { program := "ytodfejeifbhoeaadoor", sum := "961be95daba5da920d6c506f6a3a2028385167ae63b14a8550869d22078c2dfa", func := "terrazzo/terrazzolaw10.MediumSpoilt", spec := "mediumSpoilt", unfollowed := true, recurses := true, named := ["terrazzo/frame.halves"], apart := false, laid := [("terrazzo/frame.halves", laid_terrazzo_frame_halves)], narrowed := true }
def MediumSpoiltUptoSaid : Prop := mediumSpoiltUptoRow.holds Tryd.pinned (OpenSpec.upto mediumSpoiltSpec)

/-- 'terrazzolaw10.MediumNone', WHERE WHAT IT READS IS OF BULK AT MOST 1048576: true; the input reads as it did. -/
def mediumNoneUptoRow : OpenClaim := { program := "ytodfejeifbhoeaadoor", sum := "961be95daba5da920d6c506f6a3a2028385167ae63b14a8550869d22078c2dfa", func := "terrazzo/terrazzolaw10.MediumNone", spec := "mediumNone", unfollowed := true, recurses := true, named := ["terrazzo/frame.halves"], apart := false, laid := [("terrazzo/frame.halves", laid_terrazzo_frame_halves)], narrowed := true }
def MediumNoneUptoSaid : Prop := mediumNoneUptoRow.holds Tryd.pinned (OpenSpec.upto mediumNoneSpec)

end Rows
end Go.Proofs.YtodfejeifbhoeaaDoor
