/- SpanTurned: the walk. -/
import Derived.Test.YtleanmdelphbpaaSpI
namespace Go.Proofs.Ytleanmdelphbpaa
open Go.RowKit
set_option linter.unusedVariables false

set_option maxHeartbeats 4000000 in
set_option maxRecDepth 100000 in
theorem turned_walk (W : World) (A0 : Option Addr) (b0 : List Sp) (c0 : Nat) (r0 : RdSp W (Old W) A0 b0) (l0 : b0.length ≤ c0) (m0 : c0 ≤ 9223372036854775807) (n0 : A0 = none → c0 = 0) (w0 : ∀ s ∈ b0, I64 s.1 ∧ I64 s.2) (A1 : Option Addr) (b1 : List Sp) (c1 : Nat) (r1 : RdSp W (Old W) A1 b1) (l1 : b1.length ≤ c1) (m1 : c1 ≤ 9223372036854775807) (n1 : A1 = none → c1 = 0) (w1 : ∀ s ∈ b1, I64 s.1 ∧ I64 s.2) :
    Calls Try.prog 8 #[.slice A0 b0.length c0, .slice A1 b1.length c1] W fun e w' => e = .returned (.bool true) ∧ Below W.heap.size W w' := by
  have haw := awake_any W
  clear l0 m0 n0 w0 l1 m1 n1 w1
  go_enter Try.func8, Try.ntmps8
  go_wp2_with fail
  refine haw.mono ?_
  clear haw
  rintro e w1 ⟨rfl, bb⟩
  have r0 := RdL.below r0 bb
  have r1 := RdL.below r1 bb
  go_wp2_with fail
  refine (few_any _ _ _ _ _ _ _).mono ?_
  rintro e wx ⟨rfl, rfl⟩
  cases hf : fewB b0.length b1.length
  focus
    go_wp2_with fail
    go_ret
    exact ⟨rfl, bb⟩
  obtain ⟨q0, q1⟩ := fewB_yes hf
  clear hf
  go_wp2_with fail
  go_loopw [7, 8] (fun v i wr => ∃ j : Nat, j ≤ b0.length ∧ i = .int .i64 ((j : Int) - 1) ∧ OwnSp wr w1.heap.size v (b0.drop j).reverse ∧ Below w1.heap.size w1 wr) (fun _ i _ => (intOf i + 1).toNat)
  case atStart => exact ⟨b0.length, Nat.le_refl _, rfl, by rw [List.drop_length]; exact OwnC.nil, Below.refl _ _⟩
  case round =>
    obtain ⟨j, hj, rfl, oT, bt⟩ := hrel
    rcases Nat.eq_zero_or_pos j with h0 | h0
    · subst h0
      rw [List.drop_zero] at oT
      have r0 := RdL.below r0 bt
      have r1 := RdL.below r1 bt
      have bb := bb.thenB' bt
      obtain ⟨AT, nT, cT, rfl, hnT, _, _⟩ := OwnC.form' oT
      have rT := OwnSp.rd oT
      have hT : b0.reverse.length ≤ 40 := by rw [List.length_reverse]; exact q0
      have HR := Lib.hid (has_rev b0)
      have HJ := Lib.hid (join_rev b0)
      have HL := Lib.hid (less_rev b0)
      clear oT hj
      have hnT := hnT.out
      generalize b0.reverse = t at *
      subst hnT
      go_wp2_with fail
      refine (Clean_any _ _ _ _ _ r0 (by omega)).mono ?_
      rintro e w2 ⟨vc, Lc, rfl, oc, ic, b2_, lc⟩
      have r0 := RdL.below r0 b2_
      have r1 := RdL.below r1 b2_
      have rT := RdL.below rT b2_
      have bb := bb.thenB' b2_
      have Ic := Lib.hid ic
      obtain ⟨Ac, cc, rfl, _, _⟩ := OwnC.form oc
      have rc := OwnSp.rd oc
      clear oc ic b2_
      go_wp2_with fail
      refine (Clean_any _ _ _ _ _ rT (by omega)).mono ?_
      rintro e w3 ⟨vd, Ld, rfl, od, id, b3_, ld⟩
      have r0 := RdL.below r0 b3_
      have r1 := RdL.below r1 b3_
      have rT := RdL.below rT b3_
      have rc := RdL.below rc b3_
      have bb := bb.thenB' b3_
      have Id := Lib.hid id
      obtain ⟨Ad, cd, rfl, _, _⟩ := OwnC.form od
      have rd := OwnSp.rd od
      clear od id b3_
      go_wp2_with fail
      refine (rSame_yes _ _ _ _ _ _ _ _ _ rd rc (by omega) (Id.out.one Ic.out HR.out)).mono ?_
      rintro e w4 ⟨rfl, b4_⟩
      have r0 := RdL.below r0 b4_
      have r1 := RdL.below r1 b4_
      have rT := RdL.below rT b4_
      have rc := RdL.below rc b4_
      have rd := RdL.below rd b4_
      have bb := bb.thenB' b4_
      clear b4_
      clear rd
      go_wp2_with fail
      refine (Clean_any _ _ _ _ _ rc (by omega)).mono ?_
      rintro e w5 ⟨ve, Le, rfl, oe, ie, b5_, le⟩
      have r0 := RdL.below r0 b5_
      have r1 := RdL.below r1 b5_
      have rT := RdL.below rT b5_
      have rc := RdL.below rc b5_
      have bb := bb.thenB' b5_
      have Ie := Lib.hid ie
      obtain ⟨Ae, ce, rfl, _, _⟩ := OwnC.form oe
      have re := OwnSp.rd oe
      clear oe ie b5_
      go_wp2_with fail
      refine (rSame_yes _ _ _ _ _ _ _ _ _ re rc (by omega) (Ie.out.one Ic.out Ic.out.is)).mono ?_
      rintro e w6 ⟨rfl, b6_⟩
      have r0 := RdL.below r0 b6_
      have r1 := RdL.below r1 b6_
      have rT := RdL.below rT b6_
      have rc := RdL.below rc b6_
      have re := RdL.below re b6_
      have bb := bb.thenB' b6_
      clear b6_
      clear re
      go_wp2_with fail
      refine (Join_any _ _ _ _ _ _ _ _ _ r0 r1 (by omega) (by omega)).mono ?_
      rintro e w7 ⟨vff, Lff, rfl, off, iff, b7_, lff⟩
      have r0 := RdL.below r0 b7_
      have r1 := RdL.below r1 b7_
      have rT := RdL.below rT b7_
      have rc := RdL.below rc b7_
      have bb := bb.thenB' b7_
      have Iff := Lib.hid iff
      obtain ⟨Aff, cff, rfl, _, _⟩ := OwnC.form off
      have rff := OwnSp.rd off
      clear off iff b7_
      go_wp2_with fail
      refine (Join_any _ _ _ _ _ _ _ _ _ r1 r0 (by omega) (by omega)).mono ?_
      rintro e w8 ⟨vg, Lg, rfl, og, ig, b8_, lg⟩
      have r0 := RdL.below r0 b8_
      have r1 := RdL.below r1 b8_
      have rT := RdL.below rT b8_
      have rc := RdL.below rc b8_
      have rff := RdL.below rff b8_
      have bb := bb.thenB' b8_
      have Ig := Lib.hid ig
      obtain ⟨Ag, cg, rfl, _, _⟩ := OwnC.form og
      have rg := OwnSp.rd og
      clear og ig b8_
      go_wp2_with fail
      refine (rSame_yes _ _ _ _ _ _ _ _ _ rff rg (by omega) (Iff.out.one Ig.out fun n => (join_turn b0 b1 n).symm)).mono ?_
      rintro e w9 ⟨rfl, b9_⟩
      have r0 := RdL.below r0 b9_
      have r1 := RdL.below r1 b9_
      have rT := RdL.below rT b9_
      have rc := RdL.below rc b9_
      have rff := RdL.below rff b9_
      have rg := RdL.below rg b9_
      have bb := bb.thenB' b9_
      clear b9_
      clear rff rg
      go_wp2_with fail
      refine (Meet_any _ _ _ _ _ _ _ _ _ r0 r1 (by omega) (by omega)).mono ?_
      rintro e w10 ⟨vh, Lh, rfl, oh, ih, b10_, lh⟩
      have r0 := RdL.below r0 b10_
      have r1 := RdL.below r1 b10_
      have rT := RdL.below rT b10_
      have rc := RdL.below rc b10_
      have bb := bb.thenB' b10_
      have Ih := Lib.hid ih
      obtain ⟨Ah, ch, rfl, _, _⟩ := OwnC.form oh
      have rh := OwnSp.rd oh
      clear oh ih b10_
      go_wp2_with fail
      refine (Meet_any _ _ _ _ _ _ _ _ _ r1 r0 (by omega) (by omega)).mono ?_
      rintro e w11 ⟨vk, Lk, rfl, ok, ik, b11_, lk⟩
      have r0 := RdL.below r0 b11_
      have r1 := RdL.below r1 b11_
      have rT := RdL.below rT b11_
      have rc := RdL.below rc b11_
      have rh := RdL.below rh b11_
      have bb := bb.thenB' b11_
      have Ik := Lib.hid ik
      obtain ⟨Ak, ck, rfl, _, _⟩ := OwnC.form ok
      have rk := OwnSp.rd ok
      clear ok ik b11_
      go_wp2_with fail
      refine (rSame_yes _ _ _ _ _ _ _ _ _ rh rk (by omega) (Ih.out.one Ik.out fun n => (meet_turn b0 b1 n).symm)).mono ?_
      rintro e w12 ⟨rfl, b12_⟩
      have r0 := RdL.below r0 b12_
      have r1 := RdL.below r1 b12_
      have rT := RdL.below rT b12_
      have rc := RdL.below rc b12_
      have rh := RdL.below rh b12_
      have rk := RdL.below rk b12_
      have bb := bb.thenB' b12_
      clear b12_
      clear rh rk
      go_wp2_with fail
      refine (Join_any _ _ _ _ _ _ _ _ _ r0 rT (by omega) (by omega)).mono ?_
      rintro e w13 ⟨vp, Lp, rfl, op, ip, b13_, lp⟩
      have r0 := RdL.below r0 b13_
      have r1 := RdL.below r1 b13_
      have rT := RdL.below rT b13_
      have rc := RdL.below rc b13_
      have bb := bb.thenB' b13_
      have Ip := Lib.hid ip
      obtain ⟨Ap, cp, rfl, _, _⟩ := OwnC.form op
      have rp := OwnSp.rd op
      clear op ip b13_
      go_wp2_with fail
      refine (rSame_yes _ _ _ _ _ _ _ _ _ rp rc (by omega) (Ip.out.one Ic.out HJ.out)).mono ?_
      rintro e w14 ⟨rfl, b14_⟩
      have r0 := RdL.below r0 b14_
      have r1 := RdL.below r1 b14_
      have rT := RdL.below rT b14_
      have rc := RdL.below rc b14_
      have rp := RdL.below rp b14_
      have bb := bb.thenB' b14_
      clear b14_
      clear rp
      go_wp2_with fail
      refine (Less_any _ _ _ _ _ _ _ _ _ r0 rT (by omega) (by omega)).mono ?_
      rintro e w15 ⟨vq, Lq, rfl, oq, iq, b15_, lq⟩
      have r0 := RdL.below r0 b15_
      have r1 := RdL.below r1 b15_
      have rT := RdL.below rT b15_
      have rc := RdL.below rc b15_
      have bb := bb.thenB' b15_
      have Iq := Lib.hid iq
      obtain rfl : Lq = [] := Iq.out.nil.2 HL.out
      obtain ⟨Aq, cq, rfl, _, _⟩ := OwnC.form oq
      have rq := OwnSp.rd oq
      clear oq iq b15_
      go_wp2_with fail
      go_ret
      exact ⟨rfl, bb⟩
    · obtain ⟨i, rfl⟩ : ∃ i, j = i + 1 := ⟨j - 1, by omega⟩
      have hli : i < b0.length := by omega
      obtain ⟨ad, rfl, d0, d1⟩ := (RdSp.below r0 bt).at_ hli
      have HD : Hid ((b0.drop i).reverse = (b0.drop (i + 1)).reverse ++ [b0[i]]) := by unfold Hid; rw [List.drop_eq_getElem_cons hli, List.reverse_cons]
      have HLn : Hid ((b0.drop (i + 1)).reverse.length ≤ 40) := by unfold Hid; rw [List.length_reverse, List.length_drop]; omega
      generalize (b0.drop (i + 1)).reverse = T at *
      generalize b0[i] = s at *
      obtain ⟨x, y⟩ := s
      dsimp only at d0 d1
      have hrn := rd_newSp wr (x, y)
      have bn := below_new wr (.cells #[.int .i64 x, .int .i64 y] 34)
      have oT1 := OwnC.below oT bn
      have bt1 := bt.thenB' bn
      have jm : ((i + 1 : Nat) : Int) - 1 = (i : Int) := by omega
      rw [jm]
      clear jm
      go_wp2_with first
        | (at_builtin; go_loud (refine wpList_appSp rfl (.tmp 25) (.tmp 30) rfl w1.heap.size _ T [(x, y)] rfl oT1 _ (some ⟨wr.heap.size, 0, none⟩) 1 1 rfl rfl hrn (by have := HLn.out; simp only [List.length_cons, List.length_nil]; omega) bt1.size ?_; intro v4 w4 o4 x4; have b4 := bt1.trans (x4.below oT1 (Nat.le_refl _) bt1.size)))
      go_roundw
      case rel => exact ⟨i, by omega, rfl, by rw [HD.out]; exact o4, b4⟩
      case measure => simp [intOf]
end Go.Proofs.Ytleanmdelphbpaa
