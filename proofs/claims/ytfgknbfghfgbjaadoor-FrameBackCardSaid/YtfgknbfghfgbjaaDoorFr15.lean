/- The walk of FrameWholes. -/
import Derived.Test.YtfgknbfghfgbjaaDoorFr14
namespace Go.Proofs.YtfgknbfghfgbjaaDoor
open Go.RowKit
set_option linter.unusedVariables false

set_option maxHeartbeats 2000000 in
set_option maxRecDepth 100000 in
theorem wholes_walk (w : World) (ht : Tab w) (A : Option Addr) (b : List UInt8) (c : Nat) (r : RdB w (Old w) A b) (l : b.length ≤ c) (mx : c ≤ 9223372036854775807) (nn : A = none → c = 0) :
    Calls Tryd.prog 5 #[.slice A b.length c] w fun e w' => e = .returned (.bool true) ∧ Below w.heap.size w w' := by
  go_enter Tryd.func5, Tryd.ntmps5
  go_wp2_with fail
  refine (awake_any w ht).mono ?_
  rintro e w1 ⟨rfl, b1⟩
  have ht := ht.below b1
  have r := r.below b1
  by_cases hl : 20000 < b.length
  · go_wp2_with fail
    go_ret
    exact ⟨rfl, b1⟩
  · have hl' : b.length ≤ 1000000 := by omega
    have hwl : (wholeO b).length ≤ big := by
      have := wholeN_len (b.length + 1) b 0
      unfold wholeO big
      omega
    go_wp2_with fail
    refine (Whole_any _ A c b w1 r hl' l mx ht).mono ?_
    rintro e w2 ⟨v2, rfl, o2, b2⟩
    have r := r.below b2
    go_wp2_with fail
    refine (rWhole_any _ A c b w2 r hl' l mx).mono ?_
    rintro e w3 ⟨v3, rfl, o3, b3⟩
    have o2 := OwnI.below o2 b3
    have bb := (b1.thenB' b2).thenB' b3
    obtain ⟨A2, c2, rfl, _, _⟩ := o2.form
    obtain ⟨A3, c3, rfl, _, _⟩ := o3.form
    go_wp2_with fail
    refine (Ints_yes _ _ A2 A3 _ c2 c3 (wholeO b) rfl o2.rd o3.rd hwl).mono ?_
    rintro e w4 ⟨rfl, b4⟩
    go_wp2_with fail
    go_ret
    exact ⟨rfl, bb.thenB' b4⟩
end Go.Proofs.YtfgknbfghfgbjaaDoor
