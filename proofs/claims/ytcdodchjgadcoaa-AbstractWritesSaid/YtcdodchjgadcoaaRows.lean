/-
  No cell of these rows narrows 'for every input' (looked for: loops, veiled, ifaces, maps, wideKeys, modest, calm, conditions, laid).
  DERIVED. THE GIVEN ROWS OF THIS SEAT. 7 by the template 'for every input the law returns true; each argument reads behind the call as it read before'; 0 by the template 'total and deterministic' (their statements: YtcdodchjgadcoaaTotals.lean).
  GIVEN WITH THE SEED: the statements are not yours to turn. If you find one false, say at which input.
  Laid BY PROGRAM, IN A SANDBOX (cutbox-rows.mjs): the forced cells as the released guide's own fill.sh prints them over the translation 8a708d07ef2f8e5f… (all of the seat's roots in one cut). By AI agents, Wed Nov 11 2026. No macro, syntax, notation, axiom, sorry.
-/
import Derived.Test.YtcdodchjgadcoaaChecked
import GoSem.Claim
import GoSem.ClaimJoined
import GoSem.ClaimMapViews
import Derived.JoinedTies
import Derived.KernelRfl
namespace Go.Proofs.Ytcdodchjgadcoaa
/- THE CELL 'sum', in the pinned program and in every row, IS THE sha256 OF THE DUMP (.gsa) THAT YtcdodchjgadcoaaProg.lean LOADS. Nothing in Lean hashes anything: it is a label: what it is worth is what the hold of that sum in a sandbox is worth. -/
noncomputable def Try.pinned : Pinned := { name := "ytcdodchjgadcoaa", sum := "8a708d07ef2f8e5f813033b80f86b7b355f33a809caa091e0e84e1d1cbafa34b", checked := Try.checked }
namespace Rows
def none {H : Type} : Left H := { results := [], args := [] }

/-- 'terrazzolaw18.AbstractReads': WHATEVER THE INPUT: true; the input reads as it did. -/
def abstractReadsSpec : ChangeSpec := { name := "abstractReads", fn := fun _ => fun
  | [d1, d2, d3] => { results := [.lit (.bool true)], args := [d1, d2, d3] }
  | _ => none }
def abstractReadsRow : OpenClaim := { program := "ytcdodchjgadcoaa", sum := "8a708d07ef2f8e5f813033b80f86b7b355f33a809caa091e0e84e1d1cbafa34b", func := "terrazzo/terrazzolaw18.AbstractReads", spec := "abstractReads", unfollowed := true, recurses := true, apart := false }
def AbstractReadsSaid : Prop := abstractReadsRow.holds Try.pinned (OpenSpec.ofChange abstractReadsSpec)

/-- ITS FALSE NEIGHBOUR: 'it returns false'. Refute it at one input. -/
def abstractReadsWrong : ChangeSpec := { name := "abstractReads", fn := fun _ => fun
  | [d1, d2, d3] => { results := [.lit (.bool false)], args := [d1, d2, d3] }
  | _ => none }
def AbstractReadsWrongFalsely : Prop := abstractReadsRow.holds Try.pinned (OpenSpec.ofChange abstractReadsWrong)

/-- 'terrazzolaw18.AbstractKeeps': WHATEVER THE INPUT: true; the input reads as it did. -/
def abstractKeepsSpec : ChangeSpec := { name := "abstractKeeps", fn := fun _ => fun
  | [d1, d2, d3] => { results := [.lit (.bool true)], args := [d1, d2, d3] }
  | _ => none }
def abstractKeepsRow : OpenClaim := { program := "ytcdodchjgadcoaa", sum := "8a708d07ef2f8e5f813033b80f86b7b355f33a809caa091e0e84e1d1cbafa34b", func := "terrazzo/terrazzolaw18.AbstractKeeps", spec := "abstractKeeps", unfollowed := true, recurses := true, apart := false }
def AbstractKeepsSaid : Prop := abstractKeepsRow.holds Try.pinned (OpenSpec.ofChange abstractKeepsSpec)

/-- ITS FALSE NEIGHBOUR: 'it returns false'. Refute it at one input. -/
def abstractKeepsWrong : ChangeSpec := { name := "abstractKeeps", fn := fun _ => fun
  | [d1, d2, d3] => { results := [.lit (.bool false)], args := [d1, d2, d3] }
  | _ => none }
def AbstractKeepsWrongFalsely : Prop := abstractKeepsRow.holds Try.pinned (OpenSpec.ofChange abstractKeepsWrong)

/-- 'terrazzolaw18.AbstractDiffers': WHATEVER THE INPUT: true; the input reads as it did. -/
def abstractDiffersSpec : ChangeSpec := { name := "abstractDiffers", fn := fun _ => fun
  | [d1, d2, d3] => { results := [.lit (.bool true)], args := [d1, d2, d3] }
  | _ => none }
def abstractDiffersRow : OpenClaim := { program := "ytcdodchjgadcoaa", sum := "8a708d07ef2f8e5f813033b80f86b7b355f33a809caa091e0e84e1d1cbafa34b", func := "terrazzo/terrazzolaw18.AbstractDiffers", spec := "abstractDiffers", unfollowed := true, recurses := true, apart := false }
def AbstractDiffersSaid : Prop := abstractDiffersRow.holds Try.pinned (OpenSpec.ofChange abstractDiffersSpec)

/-- ITS FALSE NEIGHBOUR: 'it returns false'. Refute it at one input. -/
def abstractDiffersWrong : ChangeSpec := { name := "abstractDiffers", fn := fun _ => fun
  | [d1, d2, d3] => { results := [.lit (.bool false)], args := [d1, d2, d3] }
  | _ => none }
def AbstractDiffersWrongFalsely : Prop := abstractDiffersRow.holds Try.pinned (OpenSpec.ofChange abstractDiffersWrong)

/-- 'terrazzolaw18.AbstractOwn': WHATEVER THE INPUT: true; the input reads as it did. -/
def abstractOwnSpec : ChangeSpec := { name := "abstractOwn", fn := fun _ => fun
  | [d1, d2] => { results := [.lit (.bool true)], args := [d1, d2] }
  | _ => none }
def abstractOwnRow : OpenClaim := { program := "ytcdodchjgadcoaa", sum := "8a708d07ef2f8e5f813033b80f86b7b355f33a809caa091e0e84e1d1cbafa34b", func := "terrazzo/terrazzolaw18.AbstractOwn", spec := "abstractOwn", unfollowed := true, recurses := true, apart := false }
def AbstractOwnSaid : Prop := abstractOwnRow.holds Try.pinned (OpenSpec.ofChange abstractOwnSpec)

/-- ITS FALSE NEIGHBOUR: 'it returns false'. Refute it at one input. -/
def abstractOwnWrong : ChangeSpec := { name := "abstractOwn", fn := fun _ => fun
  | [d1, d2] => { results := [.lit (.bool false)], args := [d1, d2] }
  | _ => none }
def AbstractOwnWrongFalsely : Prop := abstractOwnRow.holds Try.pinned (OpenSpec.ofChange abstractOwnWrong)

/-- 'terrazzolaw18.AbstractDoes': WHATEVER THE INPUT: true; the input reads as it did. -/
def abstractDoesSpec : ChangeSpec := { name := "abstractDoes", fn := fun _ => fun
  | [d1, d2] => { results := [.lit (.bool true)], args := [d1, d2] }
  | _ => none }
def abstractDoesRow : OpenClaim := { program := "ytcdodchjgadcoaa", sum := "8a708d07ef2f8e5f813033b80f86b7b355f33a809caa091e0e84e1d1cbafa34b", func := "terrazzo/terrazzolaw18.AbstractDoes", spec := "abstractDoes", unfollowed := true, recurses := true, apart := false }
def AbstractDoesSaid : Prop := abstractDoesRow.holds Try.pinned (OpenSpec.ofChange abstractDoesSpec)

/-- ITS FALSE NEIGHBOUR: 'it returns false'. Refute it at one input. -/
def abstractDoesWrong : ChangeSpec := { name := "abstractDoes", fn := fun _ => fun
  | [d1, d2] => { results := [.lit (.bool false)], args := [d1, d2] }
  | _ => none }
def AbstractDoesWrongFalsely : Prop := abstractDoesRow.holds Try.pinned (OpenSpec.ofChange abstractDoesWrong)

/-- 'terrazzolaw18.AbstractWrites': WHATEVER THE INPUT: true; the input reads as it did. -/
def abstractWritesSpec : ChangeSpec := { name := "abstractWrites", fn := fun _ => fun
  | [d1, d2, d3] => { results := [.lit (.bool true)], args := [d1, d2, d3] }
  | _ => none }
def abstractWritesRow : OpenClaim := { program := "ytcdodchjgadcoaa", sum := "8a708d07ef2f8e5f813033b80f86b7b355f33a809caa091e0e84e1d1cbafa34b", func := "terrazzo/terrazzolaw18.AbstractWrites", spec := "abstractWrites", unfollowed := true, recurses := true, apart := false }
def AbstractWritesSaid : Prop := abstractWritesRow.holds Try.pinned (OpenSpec.ofChange abstractWritesSpec)

/-- ITS FALSE NEIGHBOUR: 'it returns false'. Refute it at one input. -/
def abstractWritesWrong : ChangeSpec := { name := "abstractWrites", fn := fun _ => fun
  | [d1, d2, d3] => { results := [.lit (.bool false)], args := [d1, d2, d3] }
  | _ => none }
def AbstractWritesWrongFalsely : Prop := abstractWritesRow.holds Try.pinned (OpenSpec.ofChange abstractWritesWrong)

/-- 'terrazzolaw18.AbstractTwice': WHATEVER THE INPUT: true; the input reads as it did. -/
def abstractTwiceSpec : ChangeSpec := { name := "abstractTwice", fn := fun _ => fun
  | [d1, d2, d3] => { results := [.lit (.bool true)], args := [d1, d2, d3] }
  | _ => none }
def abstractTwiceRow : OpenClaim := { program := "ytcdodchjgadcoaa", sum := "8a708d07ef2f8e5f813033b80f86b7b355f33a809caa091e0e84e1d1cbafa34b", func := "terrazzo/terrazzolaw18.AbstractTwice", spec := "abstractTwice", unfollowed := true, recurses := true, apart := false }
def AbstractTwiceSaid : Prop := abstractTwiceRow.holds Try.pinned (OpenSpec.ofChange abstractTwiceSpec)

/-- ITS FALSE NEIGHBOUR: 'it returns false'. Refute it at one input. -/
def abstractTwiceWrong : ChangeSpec := { name := "abstractTwice", fn := fun _ => fun
  | [d1, d2, d3] => { results := [.lit (.bool false)], args := [d1, d2, d3] }
  | _ => none }
def AbstractTwiceWrongFalsely : Prop := abstractTwiceRow.holds Try.pinned (OpenSpec.ofChange abstractTwiceWrong)

/- THE SECOND FORM. 'bulk': how many values and letters a reading holds, each counted each time it is reached (what is shared counts as often as it is met; a slice's spare places count too). A statement '..UptoSaid' is the law's where the arguments, and the package variables that the reading takes, are together of bulk at most 1048576: NARROWER than '..Said'. Prove '..Said' where nothing that the law and all that it calls make is longer than what came in: it says more and counts as full. Else prove '..UptoSaid'. A law counts once. -/
mutual
def uptoBulk {H : Type} : DataW H → Nat
  | .lit (.string bytes) => bytes.length + 1
  | .lit _ => 1
  | .nil => 1
  | .ptr d => uptoBulk d + 1
  | .slice elems spare => uptoBulkAll elems + uptoBulkAll spare + 1
  | .agg parts => uptoBulkAll parts + 1
  | .iface _ d => uptoBulk d + 1
  | .map entries => uptoBulkEntries entries + 1
  | .held _ => 1
def uptoBulkAll {H : Type} : List (DataW H) → Nat
  | [] => 0
  | d :: r => uptoBulk d + uptoBulkAll r
def uptoBulkEntries {H : Type} : List (Lit × DataW H) → Nat
  | [] => 0
  | x :: r => uptoBulkEntry x + uptoBulkEntries r
def uptoBulkEntry {H : Type} : Lit × DataW H → Nat
  | (.string bytes, d) => bytes.length + uptoBulk d + 1
  | (_, d) => uptoBulk d + 1
 end
def uptoSmall : (H : Type) → List (DataW H) → Bool := fun _ ds => decide (uptoBulkAll ds ≤ 1048576)
def OpenSpec.upto (s : _root_.Go.ChangeSpec) : _root_.Go.OpenSpec := { _root_.Go.OpenSpec.ofChange s with cond := some uptoSmall }

/-- 'terrazzolaw18.AbstractReads', WHERE WHAT IT READS IS OF BULK AT MOST 1048576: true; the input reads as it did. -/
def abstractReadsUptoRow : OpenClaim := { program := "ytcdodchjgadcoaa", sum := "8a708d07ef2f8e5f813033b80f86b7b355f33a809caa091e0e84e1d1cbafa34b", func := "terrazzo/terrazzolaw18.AbstractReads", spec := "abstractReads", unfollowed := true, recurses := true, apart := false, narrowed := true }
def AbstractReadsUptoSaid : Prop := abstractReadsUptoRow.holds Try.pinned (OpenSpec.upto abstractReadsSpec)

/-- 'terrazzolaw18.AbstractKeeps', WHERE WHAT IT READS IS OF BULK AT MOST 1048576: true; the input reads as it did. -/
def abstractKeepsUptoRow : OpenClaim := { program := "ytcdodchjgadcoaa", sum := "8a708d07ef2f8e5f813033b80f86b7b355f33a809caa091e0e84e1d1cbafa34b", func := "terrazzo/terrazzolaw18.AbstractKeeps", spec := "abstractKeeps", unfollowed := true, recurses := true, apart := false, narrowed := true }
def AbstractKeepsUptoSaid : Prop := abstractKeepsUptoRow.holds Try.pinned (OpenSpec.upto abstractKeepsSpec)

/-- 'terrazzolaw18.AbstractDiffers', WHERE WHAT IT READS IS OF BULK AT MOST 1048576: true; the input reads as it did. -/
def abstractDiffersUptoRow : OpenClaim := { program := "ytcdodchjgadcoaa", sum := "8a708d07ef2f8e5f813033b80f86b7b355f33a809caa091e0e84e1d1cbafa34b", func := "terrazzo/terrazzolaw18.AbstractDiffers", spec := "abstractDiffers", unfollowed := true, recurses := true, apart := false, narrowed := true }
def AbstractDiffersUptoSaid : Prop := abstractDiffersUptoRow.holds Try.pinned (OpenSpec.upto abstractDiffersSpec)

/-- 'terrazzolaw18.AbstractOwn', WHERE WHAT IT READS IS OF BULK AT MOST 1048576: true; the input reads as it did. -/
def abstractOwnUptoRow : OpenClaim := { program := "ytcdodchjgadcoaa", sum := "8a708d07ef2f8e5f813033b80f86b7b355f33a809caa091e0e84e1d1cbafa34b", func := "terrazzo/terrazzolaw18.AbstractOwn", spec := "abstractOwn", unfollowed := true, recurses := true, apart := false, narrowed := true }
def AbstractOwnUptoSaid : Prop := abstractOwnUptoRow.holds Try.pinned (OpenSpec.upto abstractOwnSpec)

/-- 'terrazzolaw18.AbstractDoes', WHERE WHAT IT READS IS OF BULK AT MOST 1048576: true; the input reads as it did. -/
def abstractDoesUptoRow : OpenClaim := { program := "ytcdodchjgadcoaa", sum := "8a708d07ef2f8e5f813033b80f86b7b355f33a809caa091e0e84e1d1cbafa34b", func := "terrazzo/terrazzolaw18.AbstractDoes", spec := "abstractDoes", unfollowed := true, recurses := true, apart := false, narrowed := true }
def AbstractDoesUptoSaid : Prop := abstractDoesUptoRow.holds Try.pinned (OpenSpec.upto abstractDoesSpec)

/-- 'terrazzolaw18.AbstractWrites', WHERE WHAT IT READS IS OF BULK AT MOST 1048576: true; the input reads as it did. -/
def abstractWritesUptoRow : OpenClaim := { program := "ytcdodchjgadcoaa", sum := "8a708d07ef2f8e5f813033b80f86b7b355f33a809caa091e0e84e1d1cbafa34b", func := "terrazzo/terrazzolaw18.AbstractWrites", spec := "abstractWrites", unfollowed := true, recurses := true, apart := false, narrowed := true }
def AbstractWritesUptoSaid : Prop := abstractWritesUptoRow.holds Try.pinned (OpenSpec.upto abstractWritesSpec)

/-- 'terrazzolaw18.AbstractTwice', WHERE WHAT IT READS IS OF BULK AT MOST 1048576: true; the input reads as it did. -/
def abstractTwiceUptoRow : OpenClaim := { program := "ytcdodchjgadcoaa", sum := "8a708d07ef2f8e5f813033b80f86b7b355f33a809caa091e0e84e1d1cbafa34b", func := "terrazzo/terrazzolaw18.AbstractTwice", spec := "abstractTwice", unfollowed := true, recurses := true, apart := false, narrowed := true }
def AbstractTwiceUptoSaid : Prop := abstractTwiceUptoRow.holds Try.pinned (OpenSpec.upto abstractTwiceSpec)

end Rows
end Go.Proofs.Ytcdodchjgadcoaa
