/- The walk of FrameOwn. -/
import Derived.Test.YtfgknbfghfgbjaaDoorFr19
namespace Go.Proofs.YtfgknbfghfgbjaaDoor
open Go.RowKit
set_option linter.unusedVariables false

theorem make1 (body : List UInt8) (h : body.length ≤ 8192) : makeO 1 body = (frameO 1 body, 0) := by
  unfold makeO; rw [if_neg (by omega), if_neg (by omega)]; rfl
theorem make1_big (body : List UInt8) (h : 8192 < body.length) : makeO 1 body = ([], 2) := by
  unfold makeO; rw [if_neg (by omega), if_pos h]
theorem next_one (body : List UInt8) (h : body.length ≤ 8192) : nextO (frameO 1 body) = ⟨1, body, [], 12 + body.length, 0⟩ := by
  have := next_frame 1 body [] (by omega) h
  rw [List.append_nil] at this
  exact this

set_option maxHeartbeats 4000000 in
set_option maxRecDepth 100000 in
theorem own_walk (w : World) (ht : Tab w) (A : Option Addr) (b : List UInt8) (c : Nat) (r : RdB w (Old w) A b) (l : b.length ≤ c) (mx : c ≤ 9223372036854775807) (nn : A = none → c = 0) (more : Int) (ia : I64 more) :
    Calls Tryd.prog 8 #[.slice A b.length c, .int .i64 more] w fun e w' => e = .returned (.bool true) ∧ Below w.heap.size w w' := by
  go_enter Tryd.func8, Tryd.ntmps8
  go_wp2_with fail
  refine (awake_any w ht).mono ?_
  rintro e w1 ⟨rfl, b1⟩
  have ht := ht.below b1
  have r := r.below b1
  by_cases hl : 500 < b.length
  · go_wp2_with fail
    go_ret
    exact ⟨rfl, b1⟩
  · have hmk := Make_any _ A c 1 b w1 r (by omega) ht
    rw [make1 b (by omega)] at hmk
    have HFL := Lib.hid (frameO_len 1 b)
    have HNX := Lib.hid (next_one b (by omega))
    have hb2 : b.length ≤ 500 := by omega
    generalize frameO 1 b = F at *
    go_wp2_with fail
    refine hmk.mono ?_
    clear hmk
    rintro e w2 ⟨v2, rfl, o2, b2⟩
    have o2 : OwnB w2 w1.heap.size v2 F := o2
    have ht := ht.below b2
    have bb := b1.thenB' b2
    obtain ⟨A2, n, c2, rfl, e2, hc2, hm2⟩ := OwnB.form' o2
    have hm2 : c2 ≤ 9223372036854775807 := hm2
    have hFl : F.length ≤ 1000000 := by rw [HFL.out]; omega
    have s2 := str_inB o2 e2.out (Below.refl _ _)
    have hnx := Next_any _ A2 c2 F w2 o2.rd' hFl (by rw [← e2.out]; exact hc2) hm2 ht
    rw [HNX.out, ← e2.out] at hnx
    simp only at hnx
    go_wp2_with fail
    refine hnx.mono ?_
    clear hnx s2
    rintro e w3 ⟨v3, v4, rfl, o3, o4, b3⟩
    obtain ⟨A3, n3, c3, rfl, e3, _, _⟩ := OwnB.form' o3
    have r3 := RowB.of_own o3
    clear o4 o3
    go_wp2_with fail
    go_loopw [13] (fun i wr => ∃ (j : Nat) (L : List UInt8), j ≤ b.length ∧ Hid (L.length = b.length) ∧ i = .int .i64 (j : Int) ∧ RowB wr w2.heap.size A3 L ∧ Below w2.heap.size w2 wr) (fun i _ => b.length - (intOf i).toNat)
    case atStart => exact ⟨0, b, Nat.zero_le _, Lib.hid rfl, rfl, r3, b3⟩
    case round =>
      clear r3 b3
      obtain ⟨j, L, hj, HL, rfl, r3, b3⟩ := hrel
      have hn3 : n3 ≤ 500 := by rw [e3.out]; exact hb2
      by_cases hlt : j < n3
      · have hjL : j < L.length := by rw [HL.out, ← e3.out]; exact hlt
        obtain ⟨g, hg, hg1, hg2, hcell, hfr, hst⟩ := r3.store hjL
        subst hg
        have hx8 : bits .xor .u8 (L[j].toNat : Int) 255 = ((L[j] ^^^ 255).toNat : Int) := xor8 L[j] 255
        have r4 := hst (L[j] ^^^ 255)
        have HL2 : Hid ((L.set j (L[j] ^^^ 255)).length = b.length) := by unfold Hid; rw [List.length_set]; exact HL.out
        generalize L.set j (L[j] ^^^ 255) = L2 at *
        generalize L[j] ^^^ 255 = d at *
        have b4 := below_store (k := j) b3 hg1 (.int .u8 (d.toNat : Int))
        generalize L[j] = x at *
        clear hst
        go_wp2_with fail
        go_roundw
        case rel => exact ⟨j + 1, L2, by rw [← e3.out]; omega, HL2, by go_num, r4, b4⟩
        case measure => have := e3.out; simp [intOf] <;> omega
      · have bw := bb.thenB' b3
        have ht := ht.below b3
        have hsz := b3.size
        by_cases hmo : more.tmod 4 = 0
        focus
          have hmb : (more.tmod 4 != 0) = false := by simp [hmo]
          obtain ⟨Z, hZ⟩ : ∃ Z : List UInt8, Z = List.replicate 8192 0 := ⟨_, rfl⟩
          have hZl : Z.length = 8192 := by rw [hZ, List.length_replicate]
          have HZ := Lib.hid hZ
          have HZl := Lib.hid hZl
          have HM := Lib.hid (make1 Z (by omega))
          have HL := Lib.hid (frameO_len 1 Z)
          clear hmo hZ hZl
          generalize frameO 1 Z = G at *
          go_wp2_with (at_make; refine wpList_makeB rfl (.tmp 57) (.tmp 57) rfl wr.heap.size 8192 rfl rfl (by unfold big; omega) (Nat.le_refl _) ?_; intro w4 o4 b4)
          rw [← HZ.out] at o4
          have hmk := Make_any _ (some ⟨wr.heap.size, 0, none⟩) 8192 1 Z w4 (OwnB.rd' o4) (by have := HZl.out; omega) (ht.below b4)
          rw [HZl.out, HM.out] at hmk
          refine hmk.mono ?_
          clear hmk
          rintro e w5 ⟨v5, rfl, o5, b5⟩
          have o5 : OwnB w5 w4.heap.size v5 G := o5
          obtain ⟨A5, n5, c5, rfl, e5, _, _⟩ := OwnB.form' o5
          have hn5 : n5 = 8204 := by rw [e5.out, HL.out, HZl.out]
          subst hn5
          have bz := b4.thenB' b5
          have s2 := str_inB o2 e2.out (Below.trans b3 (bz.mono hsz))
          have bw := bw.thenB' bz
          go_wp2_with fail
          go_ret
          exact ⟨rfl, bw⟩
        rotate_left
        focus
          have hmb : (more.tmod 4 != 0) = true := by simp [hmo]
          obtain ⟨Z, hZ⟩ : ∃ Z : List UInt8, Z = List.replicate 8193 0 := ⟨_, rfl⟩
          have hZl : Z.length = 8193 := by rw [hZ, List.length_replicate]
          have HZ := Lib.hid hZ
          have HZl := Lib.hid hZl
          have HM := Lib.hid (make1_big Z (by omega))
          clear hmo hZ hZl
          go_wp2_with (at_make; refine wpList_makeB rfl (.tmp 57) (.tmp 57) rfl wr.heap.size 8193 rfl rfl (by unfold big; omega) (Nat.le_refl _) ?_; intro w4 o4 b4)
          rw [← HZ.out] at o4
          have hmk := Make_any _ (some ⟨wr.heap.size, 0, none⟩) 8193 1 Z w4 (OwnB.rd' o4) (by have := HZl.out; omega) (ht.below b4)
          rw [HZl.out, HM.out] at hmk
          refine hmk.mono ?_
          clear hmk
          rintro e w5 ⟨v5, rfl, o5, b5⟩
          obtain ⟨A5, n5, c5, rfl, e5, _, _⟩ := OwnB.form' o5
          obtain rfl : n5 = 0 := e5.out
          have bz := b4.thenB' b5
          have s2 := str_inB o2 e2.out (Below.trans b3 (bz.mono hsz))
          have bw := bw.thenB' bz
          go_wp2_with fail
          go_ret
          exact ⟨rfl, bw⟩
end Go.Proofs.YtfgknbfghfgbjaaDoor
