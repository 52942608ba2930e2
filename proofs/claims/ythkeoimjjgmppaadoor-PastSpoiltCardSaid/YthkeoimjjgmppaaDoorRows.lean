/-
  NARROWER THAN 'FOR EVERY INPUT', by the rows' own cells (each row's printed sentence says how): PastOpen: laid · PastCuts: laid · PastRights: laid · PastImages: laid · PastHonest: laid · PastSpoilt: laid.
  DERIVED. THE GIVEN ROWS OF THIS SEAT. 6 by the template 'for every input the law returns true; each argument reads behind the call as it read before'; 0 by the template 'total and deterministic' (their statements: YthkeoimjjgmppaaDoorTotals.lean).
  GIVEN WITH THE SEED: the statements are not yours to turn. If you find one false, say at which input.
  Laid BY PROGRAM, IN A SANDBOX (cutbox-rows.mjs): the forced cells as the released guide's own fill.sh prints them over the translation 0e729677124fe5b1… (all of the seat's roots in one cut). By AI agents, Wed Nov 11 2026. No macro, syntax, notation, axiom, sorry.
-/
import Derived.Test.YthkeoimjjgmppaaDoorChecked
import GoSem.Claim
import GoSem.ClaimJoined
import GoSem.ClaimMapViews
import Derived.JoinedTies
import Derived.KernelRfl
namespace Go.Proofs.YthkeoimjjgmppaaDoor
/- THE CELL 'sum', in the pinned program and in every row, IS THE sha256 OF THE DUMP (.gsa) THAT YthkeoimjjgmppaaDoorProg.lean LOADS. Nothing in Lean hashes anything: it is a label: what it is worth is what the hold of that sum in a sandbox is worth. -/
noncomputable def Tryd.pinned : Pinned := { name := "ythkeoimjjgmppaadoor", sum := "0e729677124fe5b15fbc14f23ce978452e8ecffee2a4dfbb9832a12a7bf3aaf8", checked := Tryd.checked }
namespace Rows
def none {H : Type} : Left H := { results := [], args := [] }

/- WHAT THE LISTED PACKAGE-LEVEL VARIABLES READ AS WHEN THE CALL BEGINS. Each datum BY PROGRAM (the guide's laid-datum.mjs) off the statement by which the dump's own 'gosem.cut.vars' lays the variable. In a bare row this is a premise. The card (YthkeoimjjgmppaaDoorCards.lean) ties it to the program's text. -/
def laid_terrazzo_entry_names {H : Type} : DataW H := .agg [.lit (.int .i64 0), .lit (.int .i64 9), .lit (.int .i64 3), .lit (.int .i64 2), .lit (.int .i64 0), .lit (.int .i64 4), .lit (.int .i64 4)]

/-- 'terrazzolaw23.PastOpen': WHATEVER THE INPUT: true; the input reads as it did. -/
def pastOpenSpec : ChangeSpec := { name := "pastOpen", fn := fun _ => fun
  | [d1, d2, d3] => { results := [.lit (.bool true)], args := [d1, d2, d3] }
  | _ => none }
def pastOpenRow : OpenClaim := { program := "ythkeoimjjgmppaadoor", sum := "0e729677124fe5b15fbc14f23ce978452e8ecffee2a4dfbb9832a12a7bf3aaf8", func := "terrazzo/terrazzolaw23.PastOpen", spec := "pastOpen", inPlace := ["internal/bytealg.IndexByte"], unfollowed := true, recurses := true, named := ["terrazzo/entry.names"], apart := false, laid := [("terrazzo/entry.names", laid_terrazzo_entry_names)] }
def PastOpenSaid : Prop := pastOpenRow.holds Tryd.pinned (OpenSpec.ofChange pastOpenSpec)

/-- ITS FALSE NEIGHBOUR: 'it returns false'. Refute it at one input. -/
def pastOpenWrong : ChangeSpec := { name := "pastOpen", fn := fun _ => fun
  | [d1, d2, d3] => { results := [.lit (.bool false)], args := [d1, d2, d3] }
  | _ => none }
def PastOpenWrongFalsely : Prop := pastOpenRow.holds Tryd.pinned (OpenSpec.ofChange pastOpenWrong)

/-- 'terrazzolaw23.PastCuts': WHATEVER THE INPUT: true; the input reads as it did. -/
def pastCutsSpec : ChangeSpec := { name := "pastCuts", fn := fun _ => fun
  | [d1, d2, d3] => { results := [.lit (.bool true)], args := [d1, d2, d3] }
  | _ => none }
def pastCutsRow : OpenClaim := { program := "ythkeoimjjgmppaadoor", sum := "0e729677124fe5b15fbc14f23ce978452e8ecffee2a4dfbb9832a12a7bf3aaf8", func := "terrazzo/terrazzolaw23.PastCuts", spec := "pastCuts", inPlace := ["internal/bytealg.IndexByte"], unfollowed := true, recurses := true, named := ["terrazzo/entry.names"], apart := false, laid := [("terrazzo/entry.names", laid_terrazzo_entry_names)] }
def PastCutsSaid : Prop := pastCutsRow.holds Tryd.pinned (OpenSpec.ofChange pastCutsSpec)

/-- ITS FALSE NEIGHBOUR: 'it returns false'. Refute it at one input. -/
def pastCutsWrong : ChangeSpec := { name := "pastCuts", fn := fun _ => fun
  | [d1, d2, d3] => { results := [.lit (.bool false)], args := [d1, d2, d3] }
  | _ => none }
def PastCutsWrongFalsely : Prop := pastCutsRow.holds Tryd.pinned (OpenSpec.ofChange pastCutsWrong)

/-- 'terrazzolaw23.PastRights': WHATEVER THE INPUT: true; the input reads as it did. -/
def pastRightsSpec : ChangeSpec := { name := "pastRights", fn := fun _ => fun
  | [d1, d2, d3] => { results := [.lit (.bool true)], args := [d1, d2, d3] }
  | _ => none }
def pastRightsRow : OpenClaim := { program := "ythkeoimjjgmppaadoor", sum := "0e729677124fe5b15fbc14f23ce978452e8ecffee2a4dfbb9832a12a7bf3aaf8", func := "terrazzo/terrazzolaw23.PastRights", spec := "pastRights", inPlace := ["internal/bytealg.IndexByte"], unfollowed := true, recurses := true, named := ["terrazzo/entry.names"], apart := false, laid := [("terrazzo/entry.names", laid_terrazzo_entry_names)] }
def PastRightsSaid : Prop := pastRightsRow.holds Tryd.pinned (OpenSpec.ofChange pastRightsSpec)

/-- ITS FALSE NEIGHBOUR: 'it returns false'. Refute it at one input. -/
def pastRightsWrong : ChangeSpec := { name := "pastRights", fn := fun _ => fun
  | [d1, d2, d3] => { results := [.lit (.bool false)], args := [d1, d2, d3] }
  | _ => none }
def PastRightsWrongFalsely : Prop := pastRightsRow.holds Tryd.pinned (OpenSpec.ofChange pastRightsWrong)

/-- 'terrazzolaw23.PastImages': WHATEVER THE INPUT: true; the input reads as it did. -/
def pastImagesSpec : ChangeSpec := { name := "pastImages", fn := fun _ => fun
  | [d1, d2, d3] => { results := [.lit (.bool true)], args := [d1, d2, d3] }
  | _ => none }
def pastImagesRow : OpenClaim := { program := "ythkeoimjjgmppaadoor", sum := "0e729677124fe5b15fbc14f23ce978452e8ecffee2a4dfbb9832a12a7bf3aaf8", func := "terrazzo/terrazzolaw23.PastImages", spec := "pastImages", inPlace := ["internal/bytealg.IndexByte"], unfollowed := true, recurses := true, named := ["terrazzo/entry.names"], apart := false, laid := [("terrazzo/entry.names", laid_terrazzo_entry_names)] }
def PastImagesSaid : Prop := pastImagesRow.holds Tryd.pinned (OpenSpec.ofChange pastImagesSpec)

/-- ITS FALSE NEIGHBOUR: 'it returns false'. Refute it at one input. -/
def pastImagesWrong : ChangeSpec := { name := "pastImages", fn := fun _ => fun
  | [d1, d2, d3] => { results := [.lit (.bool false)], args := [d1, d2, d3] }
  | _ => none }
def PastImagesWrongFalsely : Prop := pastImagesRow.holds Tryd.pinned (OpenSpec.ofChange pastImagesWrong)

/-- 'terrazzolaw23.PastHonest': WHATEVER THE INPUT: true; the input reads as it did. -/
def pastHonestSpec : ChangeSpec := { name := "pastHonest", fn := fun _ => fun
  | [d1, d2] => { results := [.lit (.bool true)], args := [d1, d2] }
  | _ => none }
def pastHonestRow : OpenClaim := { program := "ythkeoimjjgmppaadoor", sum := "0e729677124fe5b15fbc14f23ce978452e8ecffee2a4dfbb9832a12a7bf3aaf8", func := "terrazzo/terrazzolaw23.PastHonest", spec := "pastHonest", inPlace := ["internal/bytealg.IndexByte"], unfollowed := true, recurses := true, named := ["terrazzo/entry.names"], apart := false, laid := [("terrazzo/entry.names", laid_terrazzo_entry_names)] }
def PastHonestSaid : Prop := pastHonestRow.holds Tryd.pinned (OpenSpec.ofChange pastHonestSpec)

/-- ITS FALSE NEIGHBOUR: 'it returns false'. Refute it at one input. -/
def pastHonestWrong : ChangeSpec := { name := "pastHonest", fn := fun _ => fun
  | [d1, d2] => { results := [.lit (.bool false)], args := [d1, d2] }
  | _ => none }
def PastHonestWrongFalsely : Prop := pastHonestRow.holds Tryd.pinned (OpenSpec.ofChange pastHonestWrong)

/-- 'terrazzolaw23.PastSpoilt': WHATEVER THE INPUT: true; the input reads as it did. -/
def pastSpoiltSpec : ChangeSpec := { name := "pastSpoilt", fn := fun _ => fun
  | [d1, d2, d3] => { results := [.lit (.bool true)], args := [d1, d2, d3] }
  | _ => none }
def pastSpoiltRow : OpenClaim := { program := "ythkeoimjjgmppaadoor", sum := "0e729677124fe5b15fbc14f23ce978452e8ecffee2a4dfbb9832a12a7bf3aaf8", func := "terrazzo/terrazzolaw23.PastSpoilt", spec := "pastSpoilt", inPlace := ["internal/bytealg.IndexByte"], unfollowed := true, recurses := true, named := ["terrazzo/entry.names"], apart := false, laid := [("terrazzo/entry.names", laid_terrazzo_entry_names)] }
def PastSpoiltSaid : Prop := pastSpoiltRow.holds Tryd.pinned (OpenSpec.ofChange pastSpoiltSpec)

/-- ITS FALSE NEIGHBOUR: 'it returns false'. Refute it at one input. -/
def pastSpoiltWrong : ChangeSpec := { name := "pastSpoilt", fn := fun _ => fun
  | [d1, d2, d3] => { results := [.lit (.bool false)], args := [d1, d2, d3] }
  | _ => none }
def PastSpoiltWrongFalsely : Prop := pastSpoiltRow.holds Tryd.pinned (OpenSpec.ofChange pastSpoiltWrong)

/- THE SECOND FORM. 'bulk': how many values and letters a reading holds, each counted each time it is reached (what is shared counts as often as it is met; a slice's spare places count too). A statement '..UptoSaid' is the law's where the arguments, and the package variables that the reading takes, are together of bulk at most 1048576: NARROWER than '..Said'. Prove '..Said' where nothing that the law and all that it calls make is longer than what came in: it says more and counts as full. Else prove '..UptoSaid'. A law counts once. -/
mutual
def uptoBulk {H : Type} : DataW H → Nat
  | .lit (.string bytes) => bytes.length + 1
  | .lit _ => 1
  | .nil => 1
  | .ptr d => uptoBulk d + 1
  | .slice elems spare => uptoBulkAll elems + uptoBulkAll spare + 1
  | .agg parts => uptoBulkAll parts + 1
  | .iface _ d => uptoBulk d + 1
  | .map entries => uptoBulkEntries entries + 1
  | .held _ => 1
def uptoBulkAll {H : Type} : List (DataW H) → Nat
  | [] => 0
  | d :: r => uptoBulk d + uptoBulkAll r
def uptoBulkEntries {H : Type} : List (Lit × DataW H) → Nat
  | [] => 0
  | x :: r => uptoBulkEntry x + uptoBulkEntries r
def uptoBulkEntry {H : Type} : Lit × DataW H → Nat
  | (.string bytes, d) => bytes.length + uptoBulk d + 1
  | (_, d) => uptoBulk d + 1
 end
def uptoSmall : (H : Type) → List (DataW H) → Bool := fun _ ds => decide (uptoBulkAll ds ≤ 1048576)
def OpenSpec.upto (s : _root_.Go.ChangeSpec) : _root_.Go.OpenSpec := { _root_.Go.OpenSpec.ofChange s with cond := some uptoSmall }

/-- 'terrazzolaw23.PastOpen', WHERE WHAT IT READS IS OF BULK AT MOST 1048576: true; the input reads as it did. -/
def pastOpenUptoRow : OpenClaim := { program := "ythkeoimjjgmppaadoor", sum := "0e729677124fe5b15fbc14f23ce978452e8ecffee2a4dfbb9832a12a7bf3aaf8", func := "terrazzo/terrazzolaw23.PastOpen", spec := "pastOpen", inPlace := ["internal/bytealg.IndexByte"], unfollowed := true, recurses := true, named := ["terrazzo/entry.names"], apart := false, laid := [("terrazzo/entry.names", laid_terrazzo_entry_names)], narrowed := true }
def PastOpenUptoSaid : Prop := pastOpenUptoRow.holds Tryd.pinned (OpenSpec.upto pastOpenSpec)

/-- 'terrazzolaw23.PastCuts', WHERE WHAT IT READS IS OF BULK AT MOST 1048576: true; the input reads as it did. -/
def pastCutsUptoRow : OpenClaim := { program := "ythkeoimjjgmppaadoor", sum := "0e729677124fe5b15fbc14f23ce978452e8ecffee2a4dfbb9832a12a7bf3aaf8", func := "terrazzo/terrazzolaw23.PastCuts", spec := "pastCuts", inPlace := ["internal/bytealg.IndexByte"], unfollowed := true, recurses := true, named := ["terrazzo/entry.names"], apart := false, laid := [("terrazzo/entry.names", laid_terrazzo_entry_names)], narrowed := true }
def PastCutsUptoSaid : Prop := pastCutsUptoRow.holds Tryd.pinned (OpenSpec.upto pastCutsSpec)

/-- 'terrazzolaw23.PastRights', WHERE WHAT IT READS IS OF BULK AT MOST 1048576: true; the input reads as it did. -/
def pastRightsUptoRow : OpenClaim := { program := "ythkeoimjjgmppaadoor", sum := "0e729677124fe5b15fbc14f23ce978452e8ecffee2a4dfbb9832a12a7bf3aaf8", func := "terrazzo/terrazzolaw23.PastRights", spec := "pastRights", inPlace := ["internal/bytealg.IndexByte"], unfollowed := true, recurses := true, named := ["terrazzo/entry.names"], apart := false, laid := [("terrazzo/entry.names", laid_terrazzo_entry_names)], narrowed := true }
def PastRightsUptoSaid : Prop := pastRightsUptoRow.holds Tryd.pinned (OpenSpec.upto pastRightsSpec)

/-- 'terrazzolaw23.PastImages', WHERE WHAT IT READS IS OF BULK AT MOST 1048576: true; the input reads as it did. -/
def pastImagesUptoRow : OpenClaim := { program := "ythkeoimjjgmppaadoor", sum := "0e729677124fe5b15fbc14f23ce978452e8ecffee2a4dfbb9832a12a7bf3aaf8", func := "terrazzo/terrazzolaw23.PastImages", spec := "pastImages", inPlace := ["internal/bytealg.IndexByte"], unfollowed := true, recurses := true, named := ["terrazzo/entry.names"], apart := false, laid := [("terrazzo/entry.names", laid_terrazzo_entry_names)], narrowed := true }
def PastImagesUptoSaid : Prop := pastImagesUptoRow.holds Tryd.pinned (OpenSpec.upto pastImagesSpec)

/-- 'terrazzolaw23.PastHonest', WHERE WHAT IT READS IS OF BULK AT MOST 1048576: true; the input reads as it did. -/
def pastHonestUptoRow : OpenClaim := { program := "ythkeoimjjgmppaadoor", sum := "0e729677124fe5b15fbc14f23ce978452e8ecffee2a4dfbb9832a12a7bf3aaf8", func := "terrazzo/terrazzolaw23.PastHonest", spec := "pastHonest", inPlace := ["internal/bytealg.IndexByte"], unfollowed := true, recurses := true, named := ["terrazzo/entry.names"], apart := false, laid := [("terrazzo/entry.names", laid_terrazzo_entry_names)], narrowed := true }
def PastHonestUptoSaid : Prop := pastHonestUptoRow.holds Tryd.pinned (OpenSpec.upto pastHonestSpec)

/-- 'terrazzolaw23.PastSpoilt', WHERE WHAT IT READS IS OF BULK AT MOST 1048576: true; the input reads as it did. -/
def pastSpoiltUptoRow : OpenClaim := { program := "ythkeoimjjgmppaadoor", sum := "0e729677124fe5b15fbc14f23ce978452e8ecffee2a4dfbb9832a12a7bf3aaf8", func := "terrazzo/terrazzolaw23.PastSpoilt", spec := "pastSpoilt", inPlace := ["internal/bytealg.IndexByte"], unfollowed := true, recurses := true, named := ["terrazzo/entry.names"], apart := false, laid := [("terrazzo/entry.names", laid_terrazzo_entry_names)], narrowed := true }
def PastSpoiltUptoSaid : Prop := pastSpoiltUptoRow.holds Tryd.pinned (OpenSpec.upto pastSpoiltSpec)

end Rows
end Go.Proofs.YthkeoimjjgmppaaDoor
