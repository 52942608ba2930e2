/- SpanParts: the walk. -/
import Derived.Test.YtleanmdelphbpaaSpI
namespace Go.Proofs.Ytleanmdelphbpaa
open Go.RowKit
set_option linter.unusedVariables false

set_option maxHeartbeats 4000000 in
set_option maxRecDepth 100000 in
theorem parts_walk (W : World) (A0 : Option Addr) (b0 : List Sp) (c0 : Nat) (r0 : RdSp W (Old W) A0 b0) (l0 : b0.length ≤ c0) (m0 : c0 ≤ 9223372036854775807) (n0 : A0 = none → c0 = 0) (w0 : ∀ s ∈ b0, I64 s.1 ∧ I64 s.2) (A1 : Option Addr) (b1 : List Sp) (c1 : Nat) (r1 : RdSp W (Old W) A1 b1) (l1 : b1.length ≤ c1) (m1 : c1 ≤ 9223372036854775807) (n1 : A1 = none → c1 = 0) (w1 : ∀ s ∈ b1, I64 s.1 ∧ I64 s.2) :
    Calls Try.prog 7 #[.slice A0 b0.length c0, .slice A1 b1.length c1] W fun e w' => e = .returned (.bool true) ∧ Below W.heap.size W w' := by
  have haw := awake_any W
  clear l0 m0 n0 w0 l1 m1 n1 w1
  go_enter Try.func7, Try.ntmps7
  go_wp2_with fail
  refine haw.mono ?_
  clear haw
  rintro e w1 ⟨rfl, bb⟩
  have r0 := RdL.below r0 bb
  have r1 := RdL.below r1 bb
  go_wp2_with fail
  refine (few_any _ _ _ _ _ _ _).mono ?_
  rintro e wx ⟨rfl, rfl⟩
  cases hf : fewB b0.length b1.length
  focus
    go_wp2_with fail
    go_ret
    exact ⟨rfl, bb⟩
  obtain ⟨q0, q1⟩ := fewB_yes hf
  clear hf
  go_wp2_with fail
  refine (Meet_any _ _ _ _ _ _ _ _ _ r0 r1 (by omega) (by omega)).mono ?_
  rintro e w2 ⟨vm, Lm, rfl, om, im, b2_, lm⟩
  have r0 := RdL.below r0 b2_
  have r1 := RdL.below r1 b2_
  have bb := bb.thenB' b2_
  have Im := Lib.hid im
  obtain ⟨Am, cm, rfl, _, _⟩ := OwnC.form om
  have rm := OwnSp.rd om
  clear om im b2_
  go_wp2_with fail
  refine (Less_any _ _ _ _ _ _ _ _ _ r0 r1 (by omega) (by omega)).mono ?_
  rintro e w3 ⟨vl, Ll, rfl, ol, il, b3_, ll⟩
  have r0 := RdL.below r0 b3_
  have r1 := RdL.below r1 b3_
  have rm := RdL.below rm b3_
  have bb := bb.thenB' b3_
  have Il := Lib.hid il
  obtain ⟨Al, cl, rfl, _, _⟩ := OwnC.form ol
  have rl := OwnSp.rd ol
  clear ol il b3_
  go_wp2_with fail
  refine (Join_any _ _ _ _ _ _ _ _ _ rm rl (by omega) (by omega)).mono ?_
  rintro e w4 ⟨vj, Lj, rfl, oj, ij, b4_, lj⟩
  have r0 := RdL.below r0 b4_
  have r1 := RdL.below r1 b4_
  have rm := RdL.below rm b4_
  have rl := RdL.below rl b4_
  have bb := bb.thenB' b4_
  have Ij := Lib.hid ij
  obtain ⟨Aj, cj, rfl, _, _⟩ := OwnC.form oj
  have rj := OwnSp.rd oj
  clear oj ij b4_
  go_wp2_with fail
  refine (Clean_any _ _ _ _ _ r0 (by omega)).mono ?_
  rintro e w5 ⟨vc, Lc, rfl, oc, ic, b5_, lc⟩
  have r0 := RdL.below r0 b5_
  have r1 := RdL.below r1 b5_
  have rm := RdL.below rm b5_
  have rl := RdL.below rl b5_
  have rj := RdL.below rj b5_
  have bb := bb.thenB' b5_
  have Ic := Lib.hid ic
  obtain ⟨Ac, cc, rfl, _, _⟩ := OwnC.form oc
  have rc := OwnSp.rd oc
  clear oc ic b5_
  go_wp2_with fail
  refine (rSame_yes _ _ _ _ _ _ _ _ _ rj rc (by omega) (Ij.out.one Ic.out (join_parts Im.out Il.out))).mono ?_
  rintro e w6 ⟨rfl, b6_⟩
  have r0 := RdL.below r0 b6_
  have r1 := RdL.below r1 b6_
  have rm := RdL.below rm b6_
  have rl := RdL.below rl b6_
  have rj := RdL.below rj b6_
  have rc := RdL.below rc b6_
  have bb := bb.thenB' b6_
  clear b6_
  clear rj rc
  go_wp2_with fail
  refine (Meet_any _ _ _ _ _ _ _ _ _ rm rl (by omega) (by omega)).mono ?_
  rintro e w7 ⟨ve, Le, rfl, oe, ie, b7_, le⟩
  have r0 := RdL.below r0 b7_
  have r1 := RdL.below r1 b7_
  have rm := RdL.below rm b7_
  have rl := RdL.below rl b7_
  have bb := bb.thenB' b7_
  have Ie := Lib.hid ie
  obtain rfl : Le = [] := Ie.out.nil.2 (meet_parts Im.out Il.out)
  obtain ⟨Ae, ce, rfl, _, _⟩ := OwnC.form oe
  have re := OwnSp.rd oe
  clear oe ie b7_
  clear re
  go_wp2_with fail
  refine (Many_any _ _ _ _ _ rm (by omega)).mono ?_
  rintro e w8 ⟨Lp, ip, rfl, b8_⟩
  have r0 := RdL.below r0 b8_
  have r1 := RdL.below r1 b8_
  have rm := RdL.below rm b8_
  have rl := RdL.below rl b8_
  have bb := bb.thenB' b8_
  have Ip := Lib.hid ip
  clear ip b8_
  go_wp2_with fail
  refine (Many_any _ _ _ _ _ rl (by omega)).mono ?_
  rintro e w9 ⟨Lq, iq, rfl, b9_⟩
  have r0 := RdL.below r0 b9_
  have r1 := RdL.below r1 b9_
  have rm := RdL.below rm b9_
  have rl := RdL.below rl b9_
  have bb := bb.thenB' b9_
  have Iq := Lib.hid iq
  clear iq b9_
  have hp := sum_clean_bd Ip.out.clean
  have hq := sum_clean_bd Iq.out.clean
  have HS : Hid (∀ Ls, IsR (hasS b0) Ls → sumS Ls = sumS Lp + sumS Lq) := fun Ls h => (sum_parts Im.out Il.out Ip.out Iq.out h).symm
  generalize sumS Lp = sp at *
  generalize sumS Lq = sq at *
  obtain ⟨hp1, hp2⟩ := hp
  obtain ⟨hq1, hq2⟩ := hq
  go_wp2_with fail
  refine (Many_any _ _ _ _ _ r0 (by omega)).mono ?_
  rintro e w10 ⟨Ls, is, rfl, b10_⟩
  have r0 := RdL.below r0 b10_
  have r1 := RdL.below r1 b10_
  have rm := RdL.below rm b10_
  have rl := RdL.below rl b10_
  have bb := bb.thenB' b10_
  have Is := Lib.hid is
  clear is b10_
  rw [HS.out _ Is.out]
  go_wp2_with fail
  refine (Within_any _ _ _ _ _ _ _ _ _ rm r1 (by omega) (by omega)).mono ?_
  rintro e w11 ⟨Lu, iu, rfl, b11_⟩
  have r0 := RdL.below r0 b11_
  have r1 := RdL.below r1 b11_
  have rm := RdL.below rm b11_
  have rl := RdL.below rl b11_
  have bb := bb.thenB' b11_
  have Iu := Lib.hid iu
  clear iu b11_
  obtain rfl : Lu = [] := Iu.out.nil.2 (within_meet Im.out)
  go_wp2_with fail
  refine (Within_any _ _ _ _ _ _ _ _ _ rl r0 (by omega) (by omega)).mono ?_
  rintro e w12 ⟨Lv, iv, rfl, b12_⟩
  have r0 := RdL.below r0 b12_
  have r1 := RdL.below r1 b12_
  have rm := RdL.below rm b12_
  have rl := RdL.below rl b12_
  have bb := bb.thenB' b12_
  have Iv := Lib.hid iv
  clear iv b12_
  obtain rfl : Lv = [] := Iv.out.nil.2 (within_less Il.out)
  go_wp2_with fail
  go_ret
  exact ⟨rfl, bb⟩
end Go.Proofs.Ytleanmdelphbpaa
