/- SpanWithin: the walk. -/
import Derived.Test.YtleanmdelphbpaaSpI
import Derived.Deep.CutRange
namespace Go.Proofs.Ytleanmdelphbpaa
open Go.RowKit
set_option linter.unusedVariables false

set_option maxHeartbeats 4000000 in
set_option maxRecDepth 100000 in
theorem within_walk (W : World) (A0 : Option Addr) (b0 : List Sp) (c0 : Nat) (r0 : RdSp W (Old W) A0 b0) (l0 : b0.length ≤ c0) (m0 : c0 ≤ 9223372036854775807) (n0 : A0 = none → c0 = 0) (w0 : ∀ s ∈ b0, I64 s.1 ∧ I64 s.2) (A1 : Option Addr) (b1 : List Sp) (c1 : Nat) (r1 : RdSp W (Old W) A1 b1) (l1 : b1.length ≤ c1) (m1 : c1 ≤ 9223372036854775807) (n1 : A1 = none → c1 = 0) (w1 : ∀ s ∈ b1, I64 s.1 ∧ I64 s.2) (A2 : Option Addr) (b2 : List Sp) (c2 : Nat) (r2 : RdSp W (Old W) A2 b2) (l2 : b2.length ≤ c2) (m2 : c2 ≤ 9223372036854775807) (n2 : A2 = none → c2 = 0) (w2 : ∀ s ∈ b2, I64 s.1 ∧ I64 s.2) :
    Calls Try.prog 4 #[.slice A0 b0.length c0, .slice A1 b1.length c1, .slice A2 b2.length c2] W fun e w' => e = .returned (.bool true) ∧ Below W.heap.size W w' := by
  have haw := awake_any W
  clear l0 m0 n0 w0 l1 m1 n1 w1 l2 m2 n2 w2
  go_enter Try.func4, Try.ntmps4
  go_wp2_with fail
  refine haw.mono ?_
  clear haw
  rintro e w1 ⟨rfl, bb⟩
  have r0 := RdL.below r0 bb
  have r1 := RdL.below r1 bb
  have r2 := RdL.below r2 bb
  go_wp2_with fail
  refine (few_any _ _ _ _ _ _ _).mono ?_
  rintro e wx ⟨rfl, rfl⟩
  cases hf : fewB b0.length b1.length
  focus
    go_wp2_with fail
    go_ret
    exact ⟨rfl, bb⟩
  obtain ⟨q0, q1⟩ := fewB_yes hf
  clear hf
  by_cases h40 : 40 < b2.length
  focus
    have h40I : (40 : Int) < (b2.length : Int) := by omega
    go_wp2_with fail
    go_ret
    exact ⟨rfl, bb⟩
  have h40I : ¬ (40 : Int) < (b2.length : Int) := by omega
  go_wp2_with fail
  refine (Within_any _ _ _ _ _ _ _ _ _ r0 r1 (by omega) (by omega)).mono ?_
  rintro e w2 ⟨Lp, ip, rfl, b2_⟩
  have r0 := RdL.below r0 b2_
  have r1 := RdL.below r1 b2_
  have r2 := RdL.below r2 b2_
  have bb := bb.thenB' b2_
  have Ip := Lib.hid ip
  clear ip b2_
  go_wp2_with fail
  refine (Within_any _ _ _ _ _ _ _ _ _ r1 r2 (by omega) (by omega)).mono ?_
  rintro e w3 ⟨Lq, iq, rfl, b3_⟩
  have r0 := RdL.below r0 b3_
  have r1 := RdL.below r1 b3_
  have r2 := RdL.below r2 b3_
  have bb := bb.thenB' b3_
  have Iq := Lib.hid iq
  clear iq b3_
  go_wp2_with fail
  refine (Within_any _ _ _ _ _ _ _ _ _ r0 r2 (by omega) (by omega)).mono ?_
  rintro e w4 ⟨Ls, is, rfl, b4_⟩
  have r0 := RdL.below r0 b4_
  have r1 := RdL.below r1 b4_
  have r2 := RdL.below r2 b4_
  have bb := bb.thenB' b4_
  have Is := Lib.hid is
  clear is b4_
  have HT := Lib.hid (within_trans Ip.out Iq.out Is.out)
  have HX := Lib.hid (within_is Ip.out)
  clear Ip Iq Is
  generalize ((Lp.length : Int) == 0) = x at *
  generalize ((Lq.length : Int) == 0) = y at *
  generalize ((Ls.length : Int) == 0) = z at *
  obtain ⟨sm, hsm⟩ := ex_same b0 b1
  have HSM := Lib.hid hsm
  clear hsm h40I
  go_upto_region 10 with fail
  go_cut [12] from 13 to 70 (fun s wx => s = .bool sm ∧ Below W.heap.size W wx ∧ Below w4.heap.size w4 wx)
  case first =>
    clear HT
    cases x
    focus
      have HF : Hid (sm = false) := by
        unfold Hid; rw [Bool.eq_false_iff]; intro h; exact absurd (HX.out.2 (HSM.out.1 h).1) (by decide)
      go_wp2_with fail
      go_meet
      case rel => exact ⟨by rw [HF.out], bb, Below.refl _ _⟩
    have HXT := Lib.hid (HX.out.1 rfl)
    go_wp2_with fail
    refine (Within_any _ _ _ _ _ _ _ _ _ r1 r0 (by omega) (by omega)).mono ?_
    rintro e w5 ⟨Lv, iv, rfl, b5_⟩
    have hv := within_is iv
    have HF : Hid (((Lv.length : Int) == 0) = sm) := by unfold Hid; rw [Bool.eq_iff_iff, hv, HSM.out]; exact ⟨fun h => ⟨HXT.out, h⟩, fun h => h.2⟩
    clear hv iv
    go_wp2_with fail
    go_meet
    case rel => exact ⟨by rw [← HF.out], bb.thenB' b5_, b5_⟩
  case rest =>
    obtain ⟨rfl, bb, bx⟩ := hcut
    have r0 := RdL.below r0 bx
    have r1 := RdL.below r1 bx
    have r2 := RdL.below r2 bx
    clear bx HX
    have hxyz : x = false ∨ (x = true ∧ y = false) ∨ (x = true ∧ y = true ∧ z = true) := by have h := HT.out; revert h; cases x <;> cases y <;> cases z <;> simp
    clear HT
    rcases hxyz with rfl | ⟨rfl, rfl⟩ | ⟨rfl, rfl, rfl⟩
    all_goals
      go_wp2_with fail
      refine (Clean_any _ _ _ _ _ r0 (by omega)).mono ?_
      rintro e w6 ⟨vg, Lg, rfl, og, ig, b6_, lg⟩
      have r0 := RdL.below r0 b6_
      have r1 := RdL.below r1 b6_
      have r2 := RdL.below r2 b6_
      have bb := bb.thenB' b6_
      have Ig := Lib.hid ig
      obtain ⟨Ag, cg, rfl, _, _⟩ := OwnC.form og
      have rg := OwnSp.rd og
      clear og ig b6_
      go_wp2_with fail
      refine (Clean_any _ _ _ _ _ r1 (by omega)).mono ?_
      rintro e w7 ⟨vh, Lh, rfl, oh, ih, b7_, lh⟩
      have r0 := RdL.below r0 b7_
      have r1 := RdL.below r1 b7_
      have r2 := RdL.below r2 b7_
      have rg := RdL.below rg b7_
      have bb := bb.thenB' b7_
      have Ih := Lib.hid ih
      obtain ⟨Ah, ch, rfl, _, _⟩ := OwnC.form oh
      have rh := OwnSp.rd oh
      clear oh ih b7_
      have hs := rSame_any _ _ _ _ cg ch _ _ _ rg rh (by omega)
      rw [show decide (Lg = Lh) = sm from by rw [Bool.eq_iff_iff, decide_eq_true_iff, same_is Ig.out Ih.out, HSM.out]] at hs
      go_wp2_with fail
      refine (hs).mono ?_
      rintro e w8 ⟨rfl, b8_⟩
      have r0 := RdL.below r0 b8_
      have r1 := RdL.below r1 b8_
      have r2 := RdL.below r2 b8_
      have rg := RdL.below rg b8_
      have rh := RdL.below rh b8_
      have bb := bb.thenB' b8_
      clear b8_
      clear hs
      clear rg rh
      go_wp2_with fail
      refine (Within_any _ _ _ _ _ _ _ _ _ (RdSp.none _) r0 (Nat.zero_le _) (by omega)).mono ?_
      rintro e w9 ⟨Lnn, inn, rfl, b9_⟩
      have r0 := RdL.below r0 b9_
      have r1 := RdL.below r1 b9_
      have r2 := RdL.below r2 b9_
      have bb := bb.thenB' b9_
      have Inn := Lib.hid inn
      clear inn b9_
      obtain rfl : Lnn = [] := within_nil Inn.out
      go_wp2_with fail
      refine (Within_any _ _ _ _ _ _ _ _ _ r0 (RdSp.none _) (by omega) (Nat.zero_le _)).mono ?_
      rintro e w10 ⟨Lo, io, rfl, b10_⟩
      have r0 := RdL.below r0 b10_
      have r1 := RdL.below r1 b10_
      have r2 := RdL.below r2 b10_
      have bb := bb.thenB' b10_
      have Io := Lib.hid io
      clear io b10_
      go_wp2_with fail
      refine (Many_any _ _ _ _ _ r0 (by omega)).mono ?_
      rintro e w11 ⟨Lt, it, rfl, b11_⟩
      have r0 := RdL.below r0 b11_
      have r1 := RdL.below r1 b11_
      have r2 := RdL.below r2 b11_
      have bb := bb.thenB' b11_
      have It := Lib.hid it
      clear it b11_
      rw [within_none Io.out It.out]
      go_wp2_with fail
      go_ret
      exact ⟨rfl, bb⟩
end Go.Proofs.Ytleanmdelphbpaa
