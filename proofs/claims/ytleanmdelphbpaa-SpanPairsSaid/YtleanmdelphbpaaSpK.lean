/- SpanPairs: the walk. -/
import Derived.Test.YtleanmdelphbpaaSpI
namespace Go.Proofs.Ytleanmdelphbpaa
open Go.RowKit
set_option linter.unusedVariables false

set_option maxHeartbeats 4000000 in
set_option maxRecDepth 100000 in
theorem pairs_walk (W : World) (A0 : Option Addr) (b0 : List Sp) (c0 : Nat) (r0 : RdSp W (Old W) A0 b0) (l0 : b0.length ≤ c0) (m0 : c0 ≤ 9223372036854775807) (n0 : A0 = none → c0 = 0) (w0 : ∀ s ∈ b0, I64 s.1 ∧ I64 s.2) (A1 : Option Addr) (b1 : List Sp) (c1 : Nat) (r1 : RdSp W (Old W) A1 b1) (l1 : b1.length ≤ c1) (m1 : c1 ≤ 9223372036854775807) (n1 : A1 = none → c1 = 0) (w1 : ∀ s ∈ b1, I64 s.1 ∧ I64 s.2) :
    Calls Try.prog 5 #[.slice A0 b0.length c0, .slice A1 b1.length c1] W fun e w' => e = .returned (.bool true) ∧ Below W.heap.size W w' := by
  have haw := awake_any W
  clear l0 m0 n0 w0 l1 m1 n1 w1
  go_enter Try.func5, Try.ntmps5
  go_wp2_with fail
  refine haw.mono ?_
  clear haw
  rintro e w1 ⟨rfl, bb⟩
  have r0 := RdL.below r0 bb
  have r1 := RdL.below r1 bb
  go_wp2_with fail
  refine (few_any _ _ _ _ _ _ _).mono ?_
  rintro e wx ⟨rfl, rfl⟩
  cases hf : fewB b0.length b1.length
  focus
    go_wp2_with fail
    go_ret
    exact ⟨rfl, bb⟩
  obtain ⟨q0, q1⟩ := fewB_yes hf
  clear hf
  go_wp2_with fail
  refine (rLess_any _ _ _ _ _ _ _ _ _ r0 r1 (by omega) (by omega)).mono ?_
  rintro e w2 ⟨vl, Ll, rfl, ol, il, b2_⟩
  have r0 := RdL.below r0 b2_
  have r1 := RdL.below r1 b2_
  have bb := bb.thenB' b2_
  have Il := Lib.hid il
  obtain ⟨Al, cl, rfl, _, _⟩ := OwnC.form ol
  have rl := OwnSp.rd ol
  clear ol il b2_
  go_wp2_with fail
  refine (Join_any _ _ _ _ _ _ _ _ _ r0 r1 (by omega) (by omega)).mono ?_
  rintro e w3 ⟨vj, Lj, rfl, oj, ij, b3_, lj⟩
  have r0 := RdL.below r0 b3_
  have r1 := RdL.below r1 b3_
  have rl := RdL.below rl b3_
  have bb := bb.thenB' b3_
  have Ij := Lib.hid ij
  obtain ⟨Aj, cj, rfl, _, _⟩ := OwnC.form oj
  have rj := OwnSp.rd oj
  clear oj ij b3_
  go_wp2_with fail
  refine (rJoin_any _ _ _ _ _ _ _ _ _ r0 r1 (by omega) (by omega)).mono ?_
  rintro e w4 ⟨vrj, Lrj, rfl, orj, irj, b4_⟩
  have r0 := RdL.below r0 b4_
  have r1 := RdL.below r1 b4_
  have rl := RdL.below rl b4_
  have rj := RdL.below rj b4_
  have bb := bb.thenB' b4_
  have Irj := Lib.hid irj
  obtain ⟨Arj, crj, rfl, _, _⟩ := OwnC.form orj
  have rrj := OwnSp.rd orj
  clear orj irj b4_
  go_wp2_with fail
  refine (rSame_yes _ _ _ _ _ _ _ _ _ rj rrj (by omega) (Ij.out.one Irj.out fun _ => rfl)).mono ?_
  rintro e w5 ⟨rfl, b5_⟩
  have r0 := RdL.below r0 b5_
  have r1 := RdL.below r1 b5_
  have rl := RdL.below rl b5_
  have rj := RdL.below rj b5_
  have rrj := RdL.below rrj b5_
  have bb := bb.thenB' b5_
  clear b5_
  clear rj rrj
  go_wp2_with fail
  refine (Meet_any _ _ _ _ _ _ _ _ _ r0 r1 (by omega) (by omega)).mono ?_
  rintro e w6 ⟨vm, Lm, rfl, om, im, b6_, lm⟩
  have r0 := RdL.below r0 b6_
  have r1 := RdL.below r1 b6_
  have rl := RdL.below rl b6_
  have bb := bb.thenB' b6_
  have Im := Lib.hid im
  obtain ⟨Am, cm, rfl, _, _⟩ := OwnC.form om
  have rm := OwnSp.rd om
  clear om im b6_
  go_wp2_with fail
  refine (rMeet_any _ _ _ _ _ _ _ _ _ r0 r1 (by omega) (by omega)).mono ?_
  rintro e w7 ⟨vrm, Lrm, rfl, orm, irm, b7_⟩
  have r0 := RdL.below r0 b7_
  have r1 := RdL.below r1 b7_
  have rl := RdL.below rl b7_
  have rm := RdL.below rm b7_
  have bb := bb.thenB' b7_
  have Irm := Lib.hid irm
  obtain ⟨Arm, crm, rfl, _, _⟩ := OwnC.form orm
  have rrm := OwnSp.rd orm
  clear orm irm b7_
  go_wp2_with fail
  refine (rSame_yes _ _ _ _ _ _ _ _ _ rm rrm (by omega) (Im.out.one Irm.out fun _ => rfl)).mono ?_
  rintro e w8 ⟨rfl, b8_⟩
  have r0 := RdL.below r0 b8_
  have r1 := RdL.below r1 b8_
  have rl := RdL.below rl b8_
  have rm := RdL.below rm b8_
  have rrm := RdL.below rrm b8_
  have bb := bb.thenB' b8_
  clear b8_
  clear rm rrm
  go_wp2_with fail
  refine (Less_any _ _ _ _ _ _ _ _ _ r0 r1 (by omega) (by omega)).mono ?_
  rintro e w9 ⟨vk, Lk, rfl, ok, ik, b9_, lk⟩
  have r0 := RdL.below r0 b9_
  have r1 := RdL.below r1 b9_
  have rl := RdL.below rl b9_
  have bb := bb.thenB' b9_
  have Ik := Lib.hid ik
  obtain ⟨Ak, ck, rfl, _, _⟩ := OwnC.form ok
  have rk := OwnSp.rd ok
  clear ok ik b9_
  have Ek : Ll = Lk := Il.out.one Ik.out fun _ => rfl
  subst Ek
  go_wp2_with fail
  refine (rSame_yes _ _ _ _ _ _ _ _ _ rk rl (by omega) (rfl)).mono ?_
  rintro e w10 ⟨rfl, b10_⟩
  have r0 := RdL.below r0 b10_
  have r1 := RdL.below r1 b10_
  have rl := RdL.below rl b10_
  have rk := RdL.below rk b10_
  have bb := bb.thenB' b10_
  clear b10_
  clear rk
  go_wp2_with fail
  refine (Within_any _ _ _ _ _ _ _ _ _ r0 r1 (by omega) (by omega)).mono ?_
  rintro e w11 ⟨Lw, iw, rfl, b11_⟩
  have r0 := RdL.below r0 b11_
  have r1 := RdL.below r1 b11_
  have rl := RdL.below rl b11_
  have bb := bb.thenB' b11_
  have Iw := Lib.hid iw
  clear iw b11_
  have Ew : Ll = Lw := Il.out.one Iw.out fun _ => rfl
  subst Ew
  go_wp2_with fail
  go_ret
  exact ⟨rfl, bb⟩
end Go.Proofs.Ytleanmdelphbpaa
