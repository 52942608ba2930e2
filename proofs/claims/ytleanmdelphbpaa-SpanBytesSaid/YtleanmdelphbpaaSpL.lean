/- SpanBytes: the walk. -/
import Derived.Test.YtleanmdelphbpaaSpI
namespace Go.Proofs.Ytleanmdelphbpaa
open Go.RowKit
set_option linter.unusedVariables false

set_option maxHeartbeats 4000000 in
set_option maxRecDepth 100000 in
theorem bytes_walk (W : World) (A0 : Option Addr) (b0 : List Sp) (c0 : Nat) (r0 : RdSp W (Old W) A0 b0) (l0 : b0.length ≤ c0) (m0 : c0 ≤ 9223372036854775807) (n0 : A0 = none → c0 = 0) (w0 : ∀ s ∈ b0, I64 s.1 ∧ I64 s.2) (A1 : Option Addr) (b1 : List Sp) (c1 : Nat) (r1 : RdSp W (Old W) A1 b1) (l1 : b1.length ≤ c1) (m1 : c1 ≤ 9223372036854775807) (n1 : A1 = none → c1 = 0) (w1 : ∀ s ∈ b1, I64 s.1 ∧ I64 s.2) (a2 : Int) (i2 : I64 a2) :
    Calls Try.prog 6 #[.slice A0 b0.length c0, .slice A1 b1.length c1, .int .i64 a2] W fun e w' => e = .returned (.bool true) ∧ Below W.heap.size W w' := by
  have haw := awake_any W
  clear l0 m0 n0 w0 l1 m1 n1 w1 i2
  go_enter Try.func6, Try.ntmps6
  go_wp2_with fail
  refine haw.mono ?_
  clear haw
  rintro e w1 ⟨rfl, bb⟩
  have r0 := RdL.below r0 bb
  have r1 := RdL.below r1 bb
  go_wp2_with fail
  refine (few_any _ _ _ _ _ _ _).mono ?_
  rintro e wx ⟨rfl, rfl⟩
  cases hf : fewB b0.length b1.length
  focus
    go_wp2_with fail
    go_ret
    exact ⟨rfl, bb⟩
  obtain ⟨q0, q1⟩ := fewB_yes hf
  clear hf
  go_wp2_with fail
  refine (Join_any _ _ _ _ _ _ _ _ _ r0 r1 (by omega) (by omega)).mono ?_
  rintro e w2 ⟨vj, Lj, rfl, oj, ij, b2_, lj⟩
  have r0 := RdL.below r0 b2_
  have r1 := RdL.below r1 b2_
  have bb := bb.thenB' b2_
  have Ij := Lib.hid ij
  obtain ⟨Aj, cj, rfl, _, _⟩ := OwnC.form oj
  have rj := OwnSp.rd oj
  clear oj ij b2_
  go_wp2_with fail
  refine (Meet_any _ _ _ _ _ _ _ _ _ r0 r1 (by omega) (by omega)).mono ?_
  rintro e w3 ⟨vm, Lm, rfl, om, im, b3_, lm⟩
  have r0 := RdL.below r0 b3_
  have r1 := RdL.below r1 b3_
  have rj := RdL.below rj b3_
  have bb := bb.thenB' b3_
  have Im := Lib.hid im
  obtain ⟨Am, cm, rfl, _, _⟩ := OwnC.form om
  have rm := OwnSp.rd om
  clear om im b3_
  go_wp2_with fail
  refine (Less_any _ _ _ _ _ _ _ _ _ r0 r1 (by omega) (by omega)).mono ?_
  rintro e w4 ⟨vl, Ll, rfl, ol, il, b4_, ll⟩
  have r0 := RdL.below r0 b4_
  have r1 := RdL.below r1 b4_
  have rj := RdL.below rj b4_
  have rm := RdL.below rm b4_
  have bb := bb.thenB' b4_
  have Il := Lib.hid il
  obtain ⟨Al, cl, rfl, _, _⟩ := OwnC.form ol
  have rl := OwnSp.rd ol
  clear ol il b4_
  go_wp2_with fail
  refine (Has_any _ _ _ _ a2 _ r0 (by omega)).mono ?_
  rintro e w5 ⟨rfl, b5_⟩
  have r0 := RdL.below r0 b5_
  have r1 := RdL.below r1 b5_
  have rj := RdL.below rj b5_
  have rm := RdL.below rm b5_
  have rl := RdL.below rl b5_
  have bb := bb.thenB' b5_
  clear b5_
  go_wp2_with fail
  refine (Has_any _ _ _ _ a2 _ r1 (by omega)).mono ?_
  rintro e w6 ⟨rfl, b6_⟩
  have r0 := RdL.below r0 b6_
  have r1 := RdL.below r1 b6_
  have rj := RdL.below rj b6_
  have rm := RdL.below rm b6_
  have rl := RdL.below rl b6_
  have bb := bb.thenB' b6_
  clear b6_
  have HJ : Hid (hasS Lj a2 = (hasS b0 a2 || hasS b1 a2)) := Ij.out.is a2
  have HM : Hid (hasS Lm a2 = (hasS b0 a2 && hasS b1 a2)) := Im.out.is a2
  have HL : Hid (hasS Ll a2 = (hasS b0 a2 && !hasS b1 a2)) := Il.out.is a2
  cases hx : hasS b0 a2
  all_goals
    cases hy : hasS b1 a2
    all_goals
      rw [hx, hy] at HJ HM HL
      clear hx hy
      have hj := Has_any _ _ cj _ a2 _ rj (by omega)
      rw [HJ.out] at hj
      go_wp2_with fail
      refine (hj).mono ?_
      rintro e w7 ⟨rfl, b7_⟩
      have r0 := RdL.below r0 b7_
      have r1 := RdL.below r1 b7_
      have rj := RdL.below rj b7_
      have rm := RdL.below rm b7_
      have rl := RdL.below rl b7_
      have bb := bb.thenB' b7_
      clear b7_
      clear hj
      have hm := Has_any _ _ cm _ a2 _ rm (by omega)
      rw [HM.out] at hm
      go_wp2_with fail
      refine (hm).mono ?_
      rintro e w8 ⟨rfl, b8_⟩
      have r0 := RdL.below r0 b8_
      have r1 := RdL.below r1 b8_
      have rj := RdL.below rj b8_
      have rm := RdL.below rm b8_
      have rl := RdL.below rl b8_
      have bb := bb.thenB' b8_
      clear b8_
      clear hm
      have hl := Has_any _ _ cl _ a2 _ rl (by omega)
      rw [HL.out] at hl
      go_wp2_with fail
      refine (hl).mono ?_
      rintro e w9 ⟨rfl, b9_⟩
      have r0 := RdL.below r0 b9_
      have r1 := RdL.below r1 b9_
      have rj := RdL.below rj b9_
      have rm := RdL.below rm b9_
      have rl := RdL.below rl b9_
      have bb := bb.thenB' b9_
      clear b9_
      clear hl
      go_wp2_with fail
      refine (cleanL_yes _ _ _ _ _ rj (by omega) Ij.out.clean).mono ?_
      rintro e w10 ⟨rfl, b10_⟩
      have r0 := RdL.below r0 b10_
      have r1 := RdL.below r1 b10_
      have rj := RdL.below rj b10_
      have rm := RdL.below rm b10_
      have rl := RdL.below rl b10_
      have bb := bb.thenB' b10_
      clear b10_
      go_wp2_with fail
      refine (cleanL_yes _ _ _ _ _ rm (by omega) Im.out.clean).mono ?_
      rintro e w11 ⟨rfl, b11_⟩
      have r0 := RdL.below r0 b11_
      have r1 := RdL.below r1 b11_
      have rj := RdL.below rj b11_
      have rm := RdL.below rm b11_
      have rl := RdL.below rl b11_
      have bb := bb.thenB' b11_
      clear b11_
      go_wp2_with fail
      refine (cleanL_yes _ _ _ _ _ rl (by omega) Il.out.clean).mono ?_
      rintro e w12 ⟨rfl, b12_⟩
      have r0 := RdL.below r0 b12_
      have r1 := RdL.below r1 b12_
      have rj := RdL.below rj b12_
      have rm := RdL.below rm b12_
      have rl := RdL.below rl b12_
      have bb := bb.thenB' b12_
      clear b12_
      go_wp2_with fail
      refine (Clean_any _ _ _ _ _ r0 (by omega)).mono ?_
      rintro e w13 ⟨vc, Lc, rfl, oc, ic, b13_, lc⟩
      have r0 := RdL.below r0 b13_
      have r1 := RdL.below r1 b13_
      have rj := RdL.below rj b13_
      have rm := RdL.below rm b13_
      have rl := RdL.below rl b13_
      have bb := bb.thenB' b13_
      have Ic := Lib.hid ic
      obtain ⟨Ac, cc, rfl, _, _⟩ := OwnC.form oc
      have rc := OwnSp.rd oc
      clear oc ic b13_
      go_wp2_with fail
      refine (cleanL_yes _ _ _ _ _ rc (by omega) Ic.out.clean).mono ?_
      rintro e w14 ⟨rfl, b14_⟩
      have r0 := RdL.below r0 b14_
      have r1 := RdL.below r1 b14_
      have rj := RdL.below rj b14_
      have rm := RdL.below rm b14_
      have rl := RdL.below rl b14_
      have rc := RdL.below rc b14_
      have bb := bb.thenB' b14_
      clear b14_
      go_wp2_with fail
      go_ret
      exact ⟨rfl, bb⟩
end Go.Proofs.Ytleanmdelphbpaa
