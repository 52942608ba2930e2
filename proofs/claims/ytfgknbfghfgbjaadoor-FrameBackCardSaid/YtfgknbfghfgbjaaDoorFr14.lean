/- The walk of FrameSums. -/
import Derived.Test.YtfgknbfghfgbjaaDoorFr13
import Derived.Test.YtfgknbfghfgbjaaDoorOpen
namespace Go.Proofs.YtfgknbfghfgbjaaDoor
open Go.RowKit
set_option linter.unusedVariables false

set_option maxHeartbeats 2000000 in
set_option maxRecDepth 100000 in
theorem sums_walk (w : World) (ht : Tab w) (kind : Int) (ik : I64 kind) (A : Option Addr) (b : List UInt8) (c : Nat) (r : RdB w (Old w) A b) (l : b.length ≤ c) (mx : c ≤ 9223372036854775807) (nn : A = none → c = 0) :
    Calls Tryd.prog 3 #[.int .i64 kind, .slice A b.length c] w fun e w' => e = .returned (.bool true) ∧ Below w.heap.size w w' := by
  go_enter Tryd.func3, Tryd.ntmps3
  go_wp2_with fail
  refine (awake_any w ht).mono ?_
  rintro e w1 ⟨rfl, b1⟩
  have ht := ht.below b1
  have r := r.below b1
  by_cases hl : 9000 < b.length
  · go_wp2_with fail
    go_ret
    exact ⟨rfl, b1⟩
  · have hl' : b.length ≤ 1000000 := by omega
    go_wp2_with fail
    refine (Make_any _ A c kind b w1 r hl' ht).mono ?_
    rintro e w2 ⟨v2, rfl, o2, b2⟩
    have ht := ht.below b2
    have r := r.below b2
    go_wp2_with fail
    refine (rMake_any _ A c kind b w2 r hl').mono ?_
    rintro e w3 ⟨v3, rfl, o3, b3⟩
    have ht := ht.below b3
    have r := r.below b3
    have o2 := OwnB.below o2 b3
    have bb := (b1.thenB' b2).thenB' b3
    obtain ⟨A2, n2, c2, rfl, e2, _, _⟩ := OwnB.form' o2
    obtain ⟨A3, n3, c3, rfl, e3, _, _⟩ := OwnB.form' o3
    have s2 := str_inB o2 e2.out (Below.refl _ _)
    have s3 := str_inB o3 e3.out (Below.refl _ _)
    have hs := Sum_any _ A c b w3 r (by omega) ht
    have hr := rSum_any _ A c b w3 r (by omega)
    generalize ((sumO b).toNat : Int) = z at *
    generalize (makeO kind b).1 = x at *
    generalize (makeO kind b).2 = y at *
    clear o2 o3 e2 e3
    go_wp2_with fail
    refine hs.mono ?_
    rintro e w4 ⟨rfl, rfl⟩
    go_wp2_with fail
    refine hr.mono ?_
    rintro e w4 ⟨rfl, rfl⟩
    go_wp2_with fail
    go_ret
    exact ⟨rfl, bb⟩
end Go.Proofs.YtfgknbfghfgbjaaDoor
