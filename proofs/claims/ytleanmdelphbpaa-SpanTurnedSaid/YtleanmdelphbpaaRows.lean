/-
  No cell of these rows narrows 'for every input' (looked for: loops, veiled, ifaces, maps, wideKeys, modest, calm, conditions, laid).
  DERIVED. THE GIVEN ROWS OF THIS SEAT. 6 by the template 'for every input the law returns true; each argument reads behind the call as it read before'; 0 by the template 'total and deterministic' (their statements: YtleanmdelphbpaaTotals.lean).
  GIVEN WITH THE SEED: the statements are not yours to turn. If you find one false, say at which input.
  Laid BY PROGRAM, IN A SANDBOX (cutbox-rows.mjs): the forced cells as the released guide's own fill.sh prints them over the translation ec51e800a180c14c… (all of the seat's roots in one cut). By AI agents, Wed Nov 11 2026. No macro, syntax, notation, axiom, sorry.
-/
import Derived.Test.YtleanmdelphbpaaChecked
import GoSem.Claim
import GoSem.ClaimJoined
import GoSem.ClaimMapViews
import Derived.JoinedTies
import Derived.KernelRfl
namespace Go.Proofs.Ytleanmdelphbpaa
/- THE CELL 'sum', in the pinned program and in every row, IS THE sha256 OF THE DUMP (.gsa) THAT YtleanmdelphbpaaProg.lean LOADS. Nothing in Lean hashes anything: it is a label: what it is worth is what the hold of that sum in a sandbox is worth. -/
noncomputable def Try.pinned : Pinned := { name := "ytleanmdelphbpaa", sum := "ec51e800a180c14c6ba9f4a4f060ca57f052e4f85aee7a2ec80750aa25940dde", checked := Try.checked }
namespace Rows
def none {H : Type} : Left H := { results := [], args := [] }

/-- 'terrazzolaw04.SpanCleans': WHATEVER THE INPUT: true; the input reads as it did. -/
def spanCleansSpec : ChangeSpec := { name := "spanCleans", fn := fun _ => fun
  | [d1, d2] => { results := [.lit (.bool true)], args := [d1, d2] }
  | _ => none }
def spanCleansRow : OpenClaim := { program := "ytleanmdelphbpaa", sum := "ec51e800a180c14c6ba9f4a4f060ca57f052e4f85aee7a2ec80750aa25940dde", func := "terrazzo/terrazzolaw04.SpanCleans", spec := "spanCleans", unfollowed := true, recurses := true, apart := false }
def SpanCleansSaid : Prop := spanCleansRow.holds Try.pinned (OpenSpec.ofChange spanCleansSpec)

/-- ITS FALSE NEIGHBOUR: 'it returns false'. Refute it at one input. -/
def spanCleansWrong : ChangeSpec := { name := "spanCleans", fn := fun _ => fun
  | [d1, d2] => { results := [.lit (.bool false)], args := [d1, d2] }
  | _ => none }
def SpanCleansWrongFalsely : Prop := spanCleansRow.holds Try.pinned (OpenSpec.ofChange spanCleansWrong)

/-- 'terrazzolaw04.SpanWithin': WHATEVER THE INPUT: true; the input reads as it did. -/
def spanWithinSpec : ChangeSpec := { name := "spanWithin", fn := fun _ => fun
  | [d1, d2, d3] => { results := [.lit (.bool true)], args := [d1, d2, d3] }
  | _ => none }
def spanWithinRow : OpenClaim := { program := "ytleanmdelphbpaa", sum := "ec51e800a180c14c6ba9f4a4f060ca57f052e4f85aee7a2ec80750aa25940dde", func := "terrazzo/terrazzolaw04.SpanWithin", spec := "spanWithin", unfollowed := true, recurses := true, apart := false }
def SpanWithinSaid : Prop := spanWithinRow.holds Try.pinned (OpenSpec.ofChange spanWithinSpec)

/-- ITS FALSE NEIGHBOUR: 'it returns false'. Refute it at one input. -/
def spanWithinWrong : ChangeSpec := { name := "spanWithin", fn := fun _ => fun
  | [d1, d2, d3] => { results := [.lit (.bool false)], args := [d1, d2, d3] }
  | _ => none }
def SpanWithinWrongFalsely : Prop := spanWithinRow.holds Try.pinned (OpenSpec.ofChange spanWithinWrong)

/-- 'terrazzolaw04.SpanPairs': WHATEVER THE INPUT: true; the input reads as it did. -/
def spanPairsSpec : ChangeSpec := { name := "spanPairs", fn := fun _ => fun
  | [d1, d2] => { results := [.lit (.bool true)], args := [d1, d2] }
  | _ => none }
def spanPairsRow : OpenClaim := { program := "ytleanmdelphbpaa", sum := "ec51e800a180c14c6ba9f4a4f060ca57f052e4f85aee7a2ec80750aa25940dde", func := "terrazzo/terrazzolaw04.SpanPairs", spec := "spanPairs", unfollowed := true, recurses := true, apart := false }
def SpanPairsSaid : Prop := spanPairsRow.holds Try.pinned (OpenSpec.ofChange spanPairsSpec)

/-- ITS FALSE NEIGHBOUR: 'it returns false'. Refute it at one input. -/
def spanPairsWrong : ChangeSpec := { name := "spanPairs", fn := fun _ => fun
  | [d1, d2] => { results := [.lit (.bool false)], args := [d1, d2] }
  | _ => none }
def SpanPairsWrongFalsely : Prop := spanPairsRow.holds Try.pinned (OpenSpec.ofChange spanPairsWrong)

/-- 'terrazzolaw04.SpanBytes': WHATEVER THE INPUT: true; the input reads as it did. -/
def spanBytesSpec : ChangeSpec := { name := "spanBytes", fn := fun _ => fun
  | [d1, d2, d3] => { results := [.lit (.bool true)], args := [d1, d2, d3] }
  | _ => none }
def spanBytesRow : OpenClaim := { program := "ytleanmdelphbpaa", sum := "ec51e800a180c14c6ba9f4a4f060ca57f052e4f85aee7a2ec80750aa25940dde", func := "terrazzo/terrazzolaw04.SpanBytes", spec := "spanBytes", unfollowed := true, recurses := true, apart := false }
def SpanBytesSaid : Prop := spanBytesRow.holds Try.pinned (OpenSpec.ofChange spanBytesSpec)

/-- ITS FALSE NEIGHBOUR: 'it returns false'. Refute it at one input. -/
def spanBytesWrong : ChangeSpec := { name := "spanBytes", fn := fun _ => fun
  | [d1, d2, d3] => { results := [.lit (.bool false)], args := [d1, d2, d3] }
  | _ => none }
def SpanBytesWrongFalsely : Prop := spanBytesRow.holds Try.pinned (OpenSpec.ofChange spanBytesWrong)

/-- 'terrazzolaw04.SpanParts': WHATEVER THE INPUT: true; the input reads as it did. -/
def spanPartsSpec : ChangeSpec := { name := "spanParts", fn := fun _ => fun
  | [d1, d2] => { results := [.lit (.bool true)], args := [d1, d2] }
  | _ => none }
def spanPartsRow : OpenClaim := { program := "ytleanmdelphbpaa", sum := "ec51e800a180c14c6ba9f4a4f060ca57f052e4f85aee7a2ec80750aa25940dde", func := "terrazzo/terrazzolaw04.SpanParts", spec := "spanParts", unfollowed := true, recurses := true, apart := false }
def SpanPartsSaid : Prop := spanPartsRow.holds Try.pinned (OpenSpec.ofChange spanPartsSpec)

/-- ITS FALSE NEIGHBOUR: 'it returns false'. Refute it at one input. -/
def spanPartsWrong : ChangeSpec := { name := "spanParts", fn := fun _ => fun
  | [d1, d2] => { results := [.lit (.bool false)], args := [d1, d2] }
  | _ => none }
def SpanPartsWrongFalsely : Prop := spanPartsRow.holds Try.pinned (OpenSpec.ofChange spanPartsWrong)

/-- 'terrazzolaw04.SpanTurned': WHATEVER THE INPUT: true; the input reads as it did. -/
def spanTurnedSpec : ChangeSpec := { name := "spanTurned", fn := fun _ => fun
  | [d1, d2] => { results := [.lit (.bool true)], args := [d1, d2] }
  | _ => none }
def spanTurnedRow : OpenClaim := { program := "ytleanmdelphbpaa", sum := "ec51e800a180c14c6ba9f4a4f060ca57f052e4f85aee7a2ec80750aa25940dde", func := "terrazzo/terrazzolaw04.SpanTurned", spec := "spanTurned", unfollowed := true, recurses := true, apart := false }
def SpanTurnedSaid : Prop := spanTurnedRow.holds Try.pinned (OpenSpec.ofChange spanTurnedSpec)

/-- ITS FALSE NEIGHBOUR: 'it returns false'. Refute it at one input. -/
def spanTurnedWrong : ChangeSpec := { name := "spanTurned", fn := fun _ => fun
  | [d1, d2] => { results := [.lit (.bool false)], args := [d1, d2] }
  | _ => none }
def SpanTurnedWrongFalsely : Prop := spanTurnedRow.holds Try.pinned (OpenSpec.ofChange spanTurnedWrong)

/- THE SECOND FORM. 'bulk': how many values and letters a reading holds, each counted each time it is reached (what is shared counts as often as it is met; a slice's spare places count too). A statement '..UptoSaid' is the law's where the arguments, and the package variables that the reading takes, are together of bulk at most 1048576: NARROWER than '..Said'. Prove '..Said' where nothing that the law and all that it calls make is longer than what came in: it says more and counts as full. Else prove '..UptoSaid'. A law counts once. -/
mutual
def uptoBulk {H : Type} : DataW H → Nat
  | .lit (.string bytes) => bytes.length + 1
  | .lit _ => 1
  | .nil => 1
  | .ptr d => uptoBulk d + 1
  | .slice elems spare => uptoBulkAll elems + uptoBulkAll spare + 1
  | .agg parts => uptoBulkAll parts + 1
  | .iface _ d => uptoBulk d + 1
  | .map entries => uptoBulkEntries entries + 1
  | .held _ => 1
def uptoBulkAll {H : Type} : List (DataW H) → Nat
  | [] => 0
  | d :: r => uptoBulk d + uptoBulkAll r
def uptoBulkEntries {H : Type} : List (Lit × DataW H) → Nat
  | [] => 0
  | x :: r => uptoBulkEntry x + uptoBulkEntries r
def uptoBulkEntry {H : Type} : Lit × DataW H → Nat
  | (.string bytes, d) => bytes.length + uptoBulk d + 1
  | (_, d) => uptoBulk d + 1
 end
def uptoSmall : (H : Type) → List (DataW H) → Bool := fun _ ds => decide (uptoBulkAll ds ≤ 1048576)
def OpenSpec.upto (s : _root_.Go.ChangeSpec) : _root_.Go.OpenSpec := { _root_.Go.OpenSpec.ofChange s with cond := some uptoSmall }

/-- 'terrazzolaw04.SpanCleans', WHERE WHAT IT READS IS OF BULK AT MOST 1048576: true; the input reads as it did. -/
def spanCleansUptoRow : OpenClaim := { program := "ytleanmdelphbpaa", sum := "ec51e800a180c14c6ba9f4a4f060ca57f052e4f85aee7a2ec80750aa25940dde", func := "terrazzo/terrazzolaw04.SpanCleans", spec := "spanCleans", unfollowed := true, recurses := true, apart := false, narrowed := true }
def SpanCleansUptoSaid : Prop := spanCleansUptoRow.holds Try.pinned (OpenSpec.upto spanCleansSpec)

/-- 'terrazzolaw04.SpanWithin', WHERE WHAT IT READS IS OF BULK AT MOST 1048576: true; the input reads as it did. -/
def spanWithinUptoRow : OpenClaim := { program := "ytleanmdelphbpaa", sum := "ec51e800a180c14c6ba9f4a4f060ca57f052e4f85aee7a2ec80750aa25940dde", func := "terrazzo/terrazzolaw04.SpanWithin", spec := "spanWithin", unfollowed := true, recurses := true, apart := false, narrowed := true }
def SpanWithinUptoSaid : Prop := spanWithinUptoRow.holds Try.pinned (OpenSpec.upto spanWithinSpec)

/-- 'terrazzolaw04.SpanPairs', WHERE WHAT IT READS IS OF BULK AT MOST 1048576: true; the input reads as it did. -/
def spanPairsUptoRow : OpenClaim := { program := "ytleanmdelphbpaa", sum := "ec51e800a180c14c6ba9f4a4f060ca57f052e4f85aee7a2ec80750aa25940dde", func := "terrazzo/terrazzolaw04.SpanPairs", spec := "spanPairs", unfollowed := true, recurses := true, apart := false, narrowed := true }
def SpanPairsUptoSaid : Prop := spanPairsUptoRow.holds Try.pinned (OpenSpec.upto spanPairsSpec)

/-- 'terrazzolaw04.SpanBytes', WHERE WHAT IT READS IS OF BULK AT MOST 1048576: true; the input reads as it did. -/
def spanBytesUptoRow : OpenClaim := { program := "ytleanmdelphbpaa", sum := "ec51e800a180c14c6ba9f4a4f060ca57f052e4f85aee7a2ec80750aa25940dde", func := "terrazzo/terrazzolaw04.SpanBytes", spec := "spanBytes", unfollowed := true, recurses := true, apart := false, narrowed := true }
def SpanBytesUptoSaid : Prop := spanBytesUptoRow.holds Try.pinned (OpenSpec.upto spanBytesSpec)

/-- 'terrazzolaw04.SpanParts', WHERE WHAT IT READS IS OF BULK AT MOST 1048576: true; the input reads as it did. -/
def spanPartsUptoRow : OpenClaim := { program := "ytleanmdelphbpaa", sum := "ec51e800a180c14c6ba9f4a4f060ca57f052e4f85aee7a2ec80750aa25940dde", func := "terrazzo/terrazzolaw04.SpanParts", spec := "spanParts", unfollowed := true, recurses := true, apart := false, narrowed := true }
def SpanPartsUptoSaid : Prop := spanPartsUptoRow.holds Try.pinned (OpenSpec.upto spanPartsSpec)

/-- 'terrazzolaw04.SpanTurned', WHERE WHAT IT READS IS OF BULK AT MOST 1048576: true; the input reads as it did. -/
def spanTurnedUptoRow : OpenClaim := { program := "ytleanmdelphbpaa", sum := "ec51e800a180c14c6ba9f4a4f060ca57f052e4f85aee7a2ec80750aa25940dde", func := "terrazzo/terrazzolaw04.SpanTurned", spec := "spanTurned", unfollowed := true, recurses := true, apart := false, narrowed := true }
def SpanTurnedUptoSaid : Prop := spanTurnedUptoRow.holds Try.pinned (OpenSpec.upto spanTurnedSpec)

end Rows
end Go.Proofs.Ytleanmdelphbpaa
