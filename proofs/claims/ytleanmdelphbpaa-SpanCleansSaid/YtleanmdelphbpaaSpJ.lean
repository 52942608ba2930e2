/- SpanCleans: the walk. -/
import Derived.Test.YtleanmdelphbpaaSpI
namespace Go.Proofs.Ytleanmdelphbpaa
open Go.RowKit
set_option linter.unusedVariables false

set_option maxHeartbeats 4000000 in
set_option maxRecDepth 100000 in
theorem cleans_walk (W : World) (A0 : Option Addr) (b0 : List Sp) (c0 : Nat) (r0 : RdSp W (Old W) A0 b0) (l0 : b0.length ≤ c0) (m0 : c0 ≤ 9223372036854775807) (n0 : A0 = none → c0 = 0) (w0 : ∀ s ∈ b0, I64 s.1 ∧ I64 s.2) (a1 : Int) (i1 : I64 a1) :
    Calls Try.prog 3 #[.slice A0 b0.length c0, .int .i64 a1] W fun e w' => e = .returned (.bool true) ∧ Below W.heap.size W w' := by
  have haw := awake_any W
  clear l0 m0 n0 w0 i1
  go_enter Try.func3, Try.ntmps3
  go_wp2_with fail
  refine haw.mono ?_
  clear haw
  rintro e w1 ⟨rfl, bb⟩
  have r0 := RdL.below r0 bb
  go_wp2_with fail
  refine (few_any _ _ _ _ _ _ _).mono ?_
  rintro e wx ⟨rfl, rfl⟩
  cases hf : fewB b0.length 0
  focus
    go_wp2_with fail
    go_ret
    exact ⟨rfl, bb⟩
  obtain ⟨q0, q1⟩ := fewB_yes hf
  clear hf
  go_wp2_with fail
  refine (Clean_any _ _ _ _ _ r0 (by omega)).mono ?_
  rintro e w2 ⟨vx, Lx, rfl, ox, ix, b2_, lx⟩
  have r0 := RdL.below r0 b2_
  have bb := bb.thenB' b2_
  have Ix := Lib.hid ix
  obtain ⟨Ax, cx, rfl, _, _⟩ := OwnC.form ox
  have rx := OwnSp.rd ox
  clear ox ix b2_
  go_wp2_with fail
  refine (rClean_any _ _ _ _ _ r0 (by omega)).mono ?_
  rintro e w3 ⟨vy, Ly, rfl, oy, iy, b3_⟩
  have r0 := RdL.below r0 b3_
  have rx := RdL.below rx b3_
  have bb := bb.thenB' b3_
  have Iy := Lib.hid iy
  obtain ⟨Ay, cy, rfl, _, _⟩ := OwnC.form oy
  have ry := OwnSp.rd oy
  clear oy iy b3_
  go_wp2_with fail
  refine (rSame_yes _ _ _ _ _ _ _ _ _ rx ry (by omega) (Ix.out.one Iy.out fun _ => rfl)).mono ?_
  rintro e w4 ⟨rfl, b4_⟩
  have r0 := RdL.below r0 b4_
  have rx := RdL.below rx b4_
  have ry := RdL.below ry b4_
  have bb := bb.thenB' b4_
  clear b4_
  clear rx ry
  go_wp2_with fail
  refine (Many_any _ _ _ _ _ r0 (by omega)).mono ?_
  rintro e w5 ⟨Lm, im, rfl, b5_⟩
  have r0 := RdL.below r0 b5_
  have bb := bb.thenB' b5_
  have Im := Lib.hid im
  clear im b5_
  go_wp2_with fail
  refine (rMany_any _ _ _ _ _ r0 (by omega)).mono ?_
  rintro e w6 ⟨Lk, ik, rfl, b6_⟩
  have r0 := RdL.below r0 b6_
  have bb := bb.thenB' b6_
  have Ik := Lib.hid ik
  clear ik b6_
  have Ek : Lm = Lk := Im.out.one Ik.out fun _ => rfl
  subst Ek
  go_wp2_with fail
  refine (Has_any _ _ _ _ a1 _ r0 (by omega)).mono ?_
  rintro e w7 ⟨rfl, b7_⟩
  have r0 := RdL.below r0 b7_
  have bb := bb.thenB' b7_
  clear b7_
  go_wp2_with fail
  refine (rHas_any _ _ _ _ a1 _ r0 (by omega)).mono ?_
  rintro e wy ⟨rfl, rfl⟩
  go_wp2_with fail
  go_ret
  exact ⟨rfl, bb⟩
end Go.Proofs.Ytleanmdelphbpaa
