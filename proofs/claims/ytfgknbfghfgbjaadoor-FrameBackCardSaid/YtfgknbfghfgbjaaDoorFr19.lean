/- The walk of FrameTurned. -/
import Derived.Test.YtfgknbfghfgbjaaDoorFr18
namespace Go.Proofs.YtfgknbfghfgbjaaDoor
open Go.RowKit
set_option linter.unusedVariables false

theorem and_mask (c : Int) (m : Nat) (hm : m < 9223372036854775808) : ∃ j : Nat, bits .and .i64 c (m : Int) = (j : Int) ∧ j ≤ m := by
  refine ⟨(BitVec.ofInt 64 c &&& BitVec.ofInt 64 (m : Int)).toNat, ?_, ?_⟩
  · show IntKind.i64.wrap (((BitVec.ofInt 64 c &&& BitVec.ofInt 64 (m : Int)).toNat : Nat) : Int) = _
    have h : (BitVec.ofInt 64 c &&& BitVec.ofInt 64 (m : Int)).toNat ≤ m := by
      rw [BitVec.toNat_and, toNat64 m hm]
      exact Nat.and_le_right
    rw [IntKind.wrap_i64]
    omega
  · rw [BitVec.toNat_and, toNat64 m hm]
    exact Nat.and_le_right
theorem wrap8 (n : Nat) (h : n < 256) : IntKind.u8.wrap (n : Int) = (n : Int) := by
  simp [IntKind.wrap, IntKind.bits, IntKind.signed]
  omega
theorem ofInt8 (x : UInt8) : BitVec.ofInt 8 (x.toNat : Int) = x.toBitVec := by
  rw [BitVec.ofInt_natCast]
  apply BitVec.eq_of_toNat_eq
  rw [BitVec.toNat_ofNat]
  exact Nat.mod_eq_of_lt x.toNat_lt
theorem xor8 (x m : UInt8) : bits .xor .u8 (x.toNat : Int) (m.toNat : Int) = ((x ^^^ m).toNat : Int) := by
  show IntKind.u8.wrap (((BitVec.ofInt 8 (x.toNat : Int) ^^^ BitVec.ofInt 8 (m.toNat : Int)).toNat : Nat) : Int) = _
  rw [ofInt8, ofInt8, wrap8 _ (BitVec.isLt _)]
  rfl
theorem xor8_ne (x m : UInt8) (h : m ≠ 0) : x ^^^ m ≠ x := fun e => h (by
  have := congrArg (fun y => x ^^^ y) e
  simpa [← UInt8.xor_assoc] using this)
theorem make7 (body : List UInt8) (h : body.length ≤ 8192) : makeO 7 body = (frameO 7 body, 0) := by
  unfold makeO; rw [if_neg (by omega), if_neg (by omega)]; rfl

set_option maxHeartbeats 4000000 in
set_option maxRecDepth 100000 in
theorem turned_walk (w : World) (ht : Tab w) (A : Option Addr) (b : List UInt8) (c : Nat) (r : RdB w (Old w) A b) (l : b.length ≤ c) (mx : c ≤ 9223372036854775807) (nn : A = none → c = 0) (at_ : Int) (ia : I64 at_) (bt : UInt8) :
    Calls Tryd.prog 7 #[.slice A b.length c, .int .i64 at_, .int .u8 (bt.toNat : Int)] w fun e w' => e = .returned (.bool true) ∧ Below w.heap.size w w' := by
  go_enter Tryd.func7, Tryd.ntmps7
  go_wp2_with fail
  have ht0 := ht
  refine (awake_any w ht).mono ?_
  rintro e w1 ⟨rfl, b1⟩
  have ht := ht.below b1
  have r := r.below b1
  by_cases hl : 2000 < b.length
  · go_wp2_with fail
    go_ret
    exact ⟨rfl, b1⟩
  · have hmk := Make_any _ A c 7 b w1 r (by omega) ht
    rw [make7 b (by omega)] at hmk
    have HFL := Lib.hid (frameO_len 7 b)
    have HC := Lib.hid (fun i hi => frame_cut 7 b i (by omega) (by omega) hi)
    have HT := Lib.hid (fun i d hi hd => frame_turned 7 b i d (by omega) (by omega) hi hd)
    have hb2 : b.length ≤ 2000 := by omega
    generalize frameO 7 b = F at *
    go_wp2_with fail
    refine hmk.mono ?_
    clear hmk
    rintro e w2 ⟨v2, rfl, o2, b2⟩
    have o2 : OwnB w2 w1.heap.size v2 F := o2
    have ht := ht.below b2
    have bb := b1.thenB' b2
    obtain ⟨A2, n, c2, rfl, e2, hc2, hm2⟩ := OwnB.form' o2
    have hm2 : c2 ≤ 9223372036854775807 := hm2
    have hn12 : 12 ≤ n := by rw [e2.out, HFL.out]; omega
    have hn20 : n ≤ 2012 := by rw [e2.out, HFL.out]; omega
    obtain ⟨j, hj, hj2⟩ := and_mask at_ 65535 (by omega)
    have hj : bits .and .i64 at_ 65535 = (j : Int) := hj
    obtain ⟨k, hk⟩ : ∃ k, k = j % n := ⟨_, rfl⟩
    have hkn : k < n := by rw [hk]; exact Nat.mod_lt _ (by omega)
    have hk1 : (j : Int).tmod (n : Int) = (k : Int) := by rw [hk]; rfl
    have hk2 : (j : Int) % (n : Int) = (k : Int) := by rw [hk]; rfl
    have hn0 : (n : Int) ≠ 0 := by omega
    have hn0b : ((n : Int) == 0) = false := by simp; omega
    have hkc : k ≤ c2 := by omega
    have hkF : k < F.length := by rw [← e2.out]; exact hkn
    have rk : RdB w2 _ A2 (F.take k) := o2.rd'.take (by omega)
    have lk : (F.take k).length = k := by rw [List.length_take]; omega
    have hcut := Next_any _ A2 c2 (F.take k) w2 rk (by omega) (by omega) hm2 ht
    rw [lk, HC.out k hkF] at hcut
    clear lk rk hk
    go_wp2_with fail
    refine hcut.mono ?_
    clear hcut
    rintro e w3 ⟨v3, v4, rfl, o3, o4, b3⟩
    have o2 := OwnB.below o2 b3
    have ht := ht.below b3
    have bb := bb.thenB' b3
    simp only [Nx.bad]
    obtain ⟨g, hg, hg1, hg2, hcell, hfr, hst⟩ := (RowB.of_own o2).store hkF
    subst hg
    have hx : F.getD k 0 = F[k] := gd F k hkF
    have hFl : F.length ≤ 1000000 := by rw [← e2.out]; omega
    obtain ⟨tt, htt⟩ : ∃ tt, tt = bt.toNat % 8 := ⟨_, rfl⟩
    have ht1 : (bt.toNat : Int).tmod 8 = (tt : Int) := by rw [htt]; rfl
    have ht2 : (bt.toNat : Int) % 8 = (tt : Int) := by rw [htt]; rfl
    have ht8 : tt < 8 := by omega
    have HX := fun m (hm : m ≠ 0) => HT.out k (F[k] ^^^ m) hkF (by rw [hx]; exact xor8_ne _ _ hm)
    have hx8 := fun m => xor8 F[k] m
    clear htt hx
    generalize F[k] = x at *
    have ht9 : tt = 0 ∨ tt = 1 ∨ tt = 2 ∨ tt = 3 ∨ tt = 4 ∨ tt = 5 ∨ tt = 6 ∨ tt = 7 := by omega
    clear ht8
    rcases ht9 with rfl | rfl | rfl | rfl | rfl | rfl | rfl | rfl
    focus
      have e8 : bits .xor .u8 (x.toNat : Int) 1 = ((x ^^^ 1).toNat : Int) := hx8 1
      have hX := HX 1 (by decide)
      generalize x ^^^ 1 = d at *
    rotate_left
    focus
      have e8 : bits .xor .u8 (x.toNat : Int) 2 = ((x ^^^ 2).toNat : Int) := hx8 2
      have hX := HX 2 (by decide)
      generalize x ^^^ 2 = d at *
    rotate_left
    focus
      have e8 : bits .xor .u8 (x.toNat : Int) 4 = ((x ^^^ 4).toNat : Int) := hx8 4
      have hX := HX 4 (by decide)
      generalize x ^^^ 4 = d at *
    rotate_left
    focus
      have e8 : bits .xor .u8 (x.toNat : Int) 8 = ((x ^^^ 8).toNat : Int) := hx8 8
      have hX := HX 8 (by decide)
      generalize x ^^^ 8 = d at *
    rotate_left
    focus
      have e8 : bits .xor .u8 (x.toNat : Int) 16 = ((x ^^^ 16).toNat : Int) := hx8 16
      have hX := HX 16 (by decide)
      generalize x ^^^ 16 = d at *
    rotate_left
    focus
      have e8 : bits .xor .u8 (x.toNat : Int) 32 = ((x ^^^ 32).toNat : Int) := hx8 32
      have hX := HX 32 (by decide)
      generalize x ^^^ 32 = d at *
    rotate_left
    focus
      have e8 : bits .xor .u8 (x.toNat : Int) 64 = ((x ^^^ 64).toNat : Int) := hx8 64
      have hX := HX 64 (by decide)
      generalize x ^^^ 64 = d at *
    rotate_left
    focus
      have e8 : bits .xor .u8 (x.toNat : Int) 128 = ((x ^^^ 128).toNat : Int) := hx8 128
      have hX := HX 128 (by decide)
      generalize x ^^^ 128 = d at *
    rotate_left
    all_goals
      clear hx8 HX
      have hX2 := Lib.hid hX
      clear hX
      have r5 := hst d
      have hbs := below_store (k := k) bb (Nat.le_trans b1.size hg1) (.int .u8 (d.toNat : Int))
      clear hst
      by_cases hk0 : k = 0
      focus
        have hk0b : ((k : Int) == 0) = true := by simp [hk0]
        have hX3 : Hid (nextO (F.set k d) = .bad 11) := by unfold Hid; rw [hX2.out, if_pos hk0]
      rotate_left
      focus
        have hk0b : ((k : Int) == 0) = false := by simp; exact hk0
        have hX3 : Hid (nextO (F.set k d) = .bad 20) := by unfold Hid; rw [hX2.out, if_neg hk0]
      rotate_left
      all_goals
        clear hX2 hk0
        go_wp2_with fail
        generalize w3.setCell ⟨g, k, none⟩ (.int .u8 (d.toNat : Int)) = w5 at *
        have ht5 := ht0.below hbs
        have hN := Next_any _ (some ⟨g, 0, none⟩) c2 (F.set k d) w5 r5.rd (by rw [List.length_set]; exact hFl) (by rw [List.length_set, ← e2.out]; exact hc2) hm2 ht5
        rw [List.length_set, ← e2.out, hX3.out] at hN
        refine hN.mono ?_
        clear hN
        rintro e w6 ⟨v6, v7, rfl, o6, o7, b6⟩
        obtain ⟨A6, n6, c6, rfl, e6, _, _⟩ := OwnB.form' o6
        obtain ⟨A7, n7, c7, rfl, e7, _, _⟩ := OwnB.form' o7
        obtain rfl : n6 = 0 := e6.out
        obtain rfl : n7 = 0 := e7.out
        have bb := hbs.thenB' b6
        clear hX3 o6 o7 hbs r5 b6
        simp only [Nx.bad]
        go_wp2_with fail
        go_ret
        exact ⟨rfl, bb⟩
end Go.Proofs.YtfgknbfghfgbjaaDoor
