import Derived.Test.YtjgafklomndhlaaWire3
namespace Go.Proofs.Ytjgafklomndhlaa
open Go.RowKit
set_option linter.unusedVariables false

def decN (w k : Nat) (bs : List UInt8) : List Int := (List.range k).map fun i => bigN ((bs.drop (i * w)).take w)
theorem decN_succ (w k : Nat) (bs : List UInt8) : decN w (k + 1) bs = decN w k bs ++ [bigN ((bs.drop (k * w)).take w)] := by simp [decN, List.range_succ]
theorem decN_length (w k : Nat) (bs : List UInt8) : (decN w k bs).length = k := by simp [decN]
def rNums (width most : Int) (s : St) : List Int × St :=
  let t := rNum 1 s
  if t.1 > max most 0 then ([], rFail 11 t.2) else
    let u := rTake (t.1.toNat * (wideI width).toNat) t.2
    (decN (wideI width).toNat (u.1.length / (wideI width).toNat) u.1, u.2)

theorem rNum_one (w : Nat) (h1 : 1 ≤ w) (h2 : w ≤ 7) (bs : List UInt8) (hl : bs.length = w) : (rNum w (bs, 0)).1 = bigN bs := by
  unfold rNum rTake wideI
  simp only [if_true]
  rw [show (min (max (w : Int) 1) 7).toNat = w from by omega, if_neg (by omega), List.take_of_length_le (by omega)]

theorem bigI_one {a : Nat} {b : Int} (h : a ≤ 1785) : a + [b].length ≤ big := by unfold big; simp only [List.length_singleton]; omega

theorem Nums_any' (g : Nat) (D : Nat → Prop) (s : St) (width most : Int) (w : World) (h : Rdr w g D s) :
    Calls Try.prog 16 #[.pointer (some ⟨g, 0, none⟩), .int .i64 width, .int .i64 most] w
      fun e w' => ∃ v, e = .returned v ∧ OwnI w' w.heap.size v (rNums width most s).1 ∧ Rdr w' g D (rNums width most s).2 ∧ Mod (· = g) w w' := by
  have hwd := wideI_bd width
  obtain ⟨k, hk⟩ : ∃ k : Nat, wideI width = (k : Int) := ⟨(wideI width).toNat, by omega⟩
  have hk1 : 1 ≤ k := by omega
  have hk2 : k ≤ 7 := by omega
  have hbd : 0 ≤ (rNum 1 s).1 ∧ (rNum 1 s).1 ≤ 255 := by
    have h1 := bigNat_lt (rTake (wideI 1).toNat s).1
    have h2 : (rTake (wideI 1).toNat s).1.length ≤ 1 := by unfold rTake; split <;> (try split) <;> simp [wideI] <;> omega
    have h3 : 256 ^ (rTake (wideI 1).toNat s).1.length ≤ 256 ^ 1 := Nat.pow_le_pow_right (by omega) h2
    unfold rNum bigN
    simp only
    omega
  obtain ⟨n, hn⟩ : ∃ n : Nat, (rNum 1 s).1 = (n : Int) := ⟨_, (Int.toNat_of_nonneg hbd.1).symm⟩
  have hn63 : n ≤ 255 := by omega
  clear hbd
  have hnk : n * k ≤ 1785 := by
    have := Nat.mul_le_mul hn63 hk2
    omega
  obtain ⟨s2, hs2⟩ : ∃ s2, s2 = if (rNum 1 s).1 > max most 0 then rFail 11 (rNum 1 s).2 else (rNum 1 s).2 := ⟨_, rfl⟩
  have e : Hid (rNums width most s = (decN k ((rTake (n * k) s2).1.length / k) (rTake (n * k) s2).1, (rTake (n * k) s2).2)) := by
    unfold Hid rNums
    simp only
    by_cases hm : (rNum 1 s).1 > max most 0
    · rw [if_pos hm] at hs2 ⊢
      have hne : s2.2 ≠ 0 := by
        rw [hs2]; unfold rFail; split
        · simp
        · rename_i h; simpa using h
      have e4 : rTake (n * k) s2 = ([], s2) := by unfold rTake; rw [if_neg hne]
      rw [e4, hs2]; simp [decN]
    · rw [if_neg hm] at hs2 ⊢
      rw [hs2, hn, hk]; rfl
  have hlen : (rTake (n * k) s2).1.length ≤ n * k := by unfold rTake; split <;> (try split) <;> simp <;> omega
  go_enter Try.func16, Try.ntmps16
  go_wp2_with fail
  with_reducible refine (Num_any' g D s 1 w h).mono ?_
  rintro e w1 ⟨rfl, r1, m1⟩
  rw [hn]
  by_cases hm : (rNum 1 s).1 > max most 0
  focus
    have hs3 : rFail 11 (rNum 1 s).2 = s2 := by rw [hs2, if_pos hm]
    rw [hn] at hm
    clear hs2 hn
    go_wp2_with fail
    with_reducible refine (Fail_any g D _ 11 w1 r1).mono ?_
    rintro e w2 ⟨rfl, r2, m2⟩
    rw [hs3] at r2
    have m3 := m1.trans m2
    clear hs3 r1 m1 m2
    go_wp2_with fail
  rotate_left
  focus
    have hs3 : (rNum 1 s).2 = s2 := by rw [hs2, if_neg hm]
    rw [hn] at hm
    clear hs2 hn
    rw [hs3] at r1
    clear hs3
    obtain ⟨w2, rfl⟩ : ∃ w2 : World, w2 = w1 := ⟨_, rfl⟩
    have r2 := r1
    have m3 := m1
    clear r1 m1
    go_wp2_with fail
  all_goals
    with_reducible refine (wide_any _ _).mono ?_
    rintro e w1' ⟨rfl, rfl⟩
    rw [hk]
    clear hk hwd hm
    go_wp2_with fail
    rw [← Int.natCast_mul]
    with_reducible refine (take_any g D s2 (n * k) w2 r2 (by unfold big; omega)).mono ?_
    rintro e w4 ⟨v1, rfl, o1, r4, m4⟩
    obtain ⟨A1, c1, rfl, hc1, hc2⟩ := o1.form
    have hr := o1.rd
    have m5 := m3.trans m4
    have hw24 := m3.size
    have hw24' := m5.size
    have hgl := h.lt
    unfold maxLen at hc2
    clear r2 h m3
    generalize (rTake (n * k) s2).1 = t at *
    generalize (rTake (n * k) s2).2 = s' at *
    go_wp2_with fail
    go_loopw [10, 11] (fun x i wr => ∃ j : Nat, j ≤ t.length / k ∧ i = .int .i64 ((j * k : Nat) : Int) ∧ OwnI wr w4.heap.size x (decN k j t) ∧ Below w4.heap.size w4 wr) (fun _ i _ => t.length + 1 - (intOf i).toNat)
    case atStart => exact ⟨0, Nat.zero_le _, by simp, OwnI.nil, Below.refl _ _⟩
    case round =>
      obtain ⟨j, hj, rfl, hown, hb⟩ := hrel
      have hjk : j * k ≤ t.length := Nat.le_trans (Nat.mul_le_mul_right k hj) (Nat.div_mul_le_self _ _)
      generalize hp : j * k = p at *
      have HP := Lib.hid hp
      clear hp
      by_cases hlt : p + k ≤ t.length
      · have hlk : ((t.drop p).take k).length = k := by simp; omega
        have hr2 := ((RdB.below hr hb).drop hjk hc1).take (k := k) (by simp; omega)
        have hs4 := hb.size
        have hrd : Rdr (wr.alloc (Obj.cells #[Value.slice (cutA A1 p c1 1) k (c1 - p), Value.int IntKind.i64 0] 57)) wr.heap.size (fun b => w2.heap.size ≤ b ∧ b < w4.heap.size ∧ (Value.slice A1 t.length c1).ownBlock = some b) ((t.drop p).take k, 0) :=
          ⟨cutA A1 p c1 1, c1 - p, by rw [hlk]; exact Blk.new _ _ _, Rd.alloc hr2 _, by rw [hlk]; omega, by omega, by intro hx; omega⟩
        have HV : Hid ((rNum k ((t.drop p).take k, 0)).1 = bigN ((t.drop p).take k)) := rNum_one k hk1 hk2 _ hlk
        have hdl : (decN k j t).length ≤ 1785 := by
          rw [decN_length]
          have := Nat.div_le_self t.length k
          omega
        have hjd : Hid (j + 1 ≤ t.length / k) := by
          unfold Hid
          rw [Nat.le_div_iff_mul_le (by omega), Nat.succ_mul, HP.out]; exact hlt
        go_wp2_with fail
        with_reducible refine (Num_any' _ _ _ k _ hrd).mono ?_
        rintro e w5 ⟨rfl, r5, m5'⟩
        have b5 : Below wr.heap.size wr w5 := ((Below.refl _ _).alloc (Nat.le_refl _) _).trans (m5'.below (by simp) (fun i hi => by omega))
        have o5 := hown.below b5
        have hs5 := b5.size
        have hw5 : w4.heap.size ≤ w5.heap.size := by omega
        rw [HV.out]
        clear hrd r5 m5' hr2
        have H4 : Hid (decN k (j + 1) t = decN k j t ++ [bigN ((t.drop p).take k)]) := by unfold Hid; rw [decN_succ, HP.out]
        generalize bigN ((t.drop p).take k) = z at *
        go_wp2_with (at_builtin; refine wpList_appI rfl (.tmp 47) (.tmp 51) rfl w4.heap.size u10 (decN k j t) rfl (World.ownsRow.alloc o5 _) _ _ _ 1 [z] rfl rfl (rd_newI _ _) (bigI_one hdl) (le_alloc hw5) ?_; intro v' w6 h6 x6; rw [← H4.out] at h6)
        have b6 : Below w4.heap.size w4 w6 := (hb.trans (b5.mono hs4)).trans (x6.preAlloc.below o5 (Nat.le_refl _) hw5)
        go_roundw
        case rel => exact ⟨j + 1, hjd.out, by rw [Nat.succ_mul, HP.out]; go_num, h6, b6⟩
        case measure => simp [intOf]; omega
      · go_wp2
        go_ret
        have hjk2 : j = t.length / k := by
          apply Nat.le_antisymm hj
          apply Nat.le_of_lt_succ
          rw [Nat.div_lt_iff_lt_mul (by omega), Nat.succ_mul, HP.out]
          omega
        subst hjk2
        exact ⟨_, rfl, by rw [e.out]; exact hown.low hw24', by rw [e.out]; exact r4.below hb, m5.thenB hb⟩
end Go.Proofs.Ytjgafklomndhlaa
