/- The document's Next. -/
import Derived.Test.YthpmmnpjdpgamaaDoorFr9
namespace Go.Proofs.YthpmmnpjdpgamaaDoor
open Go.RowKit
set_option linter.unusedVariables false

theorem cell_below {w w' : World} {a : Addr} {v : Value} (h : w.cell? a = some v) (hb : Below w.heap.size w w') : w'.cell? a = some v := by
  have hh := World.block_lt_of_cell? w _ h
  have e3 := hb.block _ hh
  unfold World.cell? at h ⊢
  rw [e3]; exact h

set_option maxHeartbeats 4000000 in
set_option maxRecDepth 100000 in
theorem rNext_cap (D : Nat → Prop) (A : Option Addr) (c : Nat) (b : List UInt8) (w : World) (h : RdB w D A b) (hl : b.length ≤ 1000000) (hc : b.length ≤ c) (hm : c ≤ 9223372036854775807) :
    Calls Tryd.prog 29 #[.slice A b.length c] w fun e w' => ∃ A' n c', e = .returned (.tuple #[.int .i64 (nextO b).k, .slice A' n c', .int .i64 ((nextO b).fin : Int), .int .i64 (nextO b).e]) ∧ Hid (n = (nextO b).body.length) ∧ RdB w' D A' (nextO b).body ∧ Below w.heap.size w w' ∧ Hid (n ≤ c' ∧ c' ≤ 9223372036854775807) := by
  by_cases h8 : b.length < 8
  · have e : Hid (nextO b = .bad 10) := by unfold Hid nextO; rw [if_pos h8]
    go_enter Tryd.func29, Tryd.ntmps29
    go_wp2_with fail
    ((try simp only [Exit.inBlock, Exit.then]); refine bodyPost_ret (results_tmp4 rfl _ _ _) rfl ?_)
    exact ⟨none, 0, 0, by rw [e.out] <;> rfl, by rw [e.out]; exact Lib.hid rfl, by rw [e.out]; exact RdB.nil, Below.refl _ _, Lib.hid ⟨Nat.le_refl _, Nat.zero_le _⟩⟩
  · obtain ⟨ad, rfl, _, p0⟩ := h.at_ (k := 0) (by omega)
    have hl0 : 0 < b.length := by omega
    by_cases h90 : b.getD 0 0 = 90
    · have hb0 : b[0] = 90 := by rw [List.getD_eq_getElem?_getD, List.getElem?_eq_getElem (by omega : 0 < b.length)] at h90; exact h90
      rw [hb0] at p0
      have p0' : w.cell? ad = some (.int .u8 90) := p0
      have hl8 : 8 ≤ b.length := by omega
      have hl8c : 8 ≤ c := by omega
      have hl4c : 4 ≤ c := by omega
      have hl8ci : (8 : Int) ≤ (c : Int) := by omega
      have hl4ci : (4 : Int) ≤ (c : Int) := by omega
      have H90 := Lib.hid h90
      have r4 : RdB w D (some ad) (b.take 4) := h.take (by omega)
      have r8 : RdB w D (some ad) (b.take 8) := h.take hl8
      have l8 : (b.take 8).length = 8 := by rw [List.length_take]; omega
      have rf : RdB w D (cutA (some ad) 4 c 1) ((b.take 8).drop 4) := r8.drop (by omega) (by omega)
      have L4 : Hid ((b.take 4).length = 4) := by unfold Hid; rw [List.length_take]; omega
      have LF : Hid (4 = ((b.take 8).drop 4).length) := by unfold Hid; rw [List.length_drop, l8]
      have hdec : tailO (b.take 4) = (b.take 8).drop 4 ∨ tailO (b.take 4) ≠ (b.take 8).drop 4 := Decidable.em _
      clear hb0 h90 l8 r8
      rcases hdec with hs | hs
      rotate_left
      · have e : Hid (nextO b = .bad 20) := by unfold Hid nextO; rw [if_neg h8, if_neg (fun h => h H90.out), if_pos hs]
        have hne : Hid (((b.take 8).drop 4 == tailO (b.take 4)) = false) := by unfold Hid; rw [beq_eq_false_iff_ne]; exact fun h => hs h.symm
        clear hs
        generalize (b.take 8).drop 4 = F at *
        generalize b.take 4 = X at *
        go_enter Tryd.func29, Tryd.ntmps29
        go_wp2_with fail
        refine r_start (R := RB) (by rfl) (n := 8) (L := #[false, false, false, false, false, false, false, false]) rfl rfl ?_
        have bd : Below w.heap.size w w.drew := (Below.refl _ _).drew
        have h := h.below bd
        have r4 := r4.below bd
        have rf := rf.below bd
        have bb := bd
        generalize w.drew = wd1 at *
        clear bd
        refine r_flt RB_refl 0 15 #[true, false, false, false, false, false, false, false] (by simp only [List.getElem?_toArray, List.getElem?_cons_zero]; rfl) (by rfl) (by kernel_rfl) (by kernel_rfl) (by kernel_rfl) (fun _ _ _ _ h => h) rfl (by rfl) ?_
        apply Exists.intro
        apply And.intro
        · intro W hW
          first | (go_simp; with_reducible rfl) | go_simp
        (try simp only [Act.put, List.setIfInBounds_toArray]); (try simp only [List.set_cons_succ]); (try simp only [List.set_cons_zero])
        refine r_flt RB_refl 1 16 #[true, true, false, false, false, false, false, false] (by simp only [List.getElem?_toArray, List.getElem?_cons_succ, List.getElem?_cons_zero]; rfl) (by rfl) (by kernel_rfl) (by kernel_rfl) (by kernel_rfl) (fun _ _ _ _ h => h) rfl (by rfl) ?_
        apply Exists.intro
        apply And.intro
        · intro W hW
          go_simp; rfl
        (try simp only [Act.put, List.setIfInBounds_toArray]); (try simp only [List.set_cons_succ]); (try simp only [List.set_cons_zero])
        refine r_flt RB_refl 2 17 #[true, true, true, false, false, false, false, false] (by simp only [List.getElem?_toArray, List.getElem?_cons_succ, List.getElem?_cons_zero]; rfl) (by rfl) (by kernel_rfl) (by kernel_rfl) (by kernel_rfl) (fun _ _ _ _ h => h) rfl (by rfl) ?_
        apply Exists.intro
        apply And.intro
        · intro W hW
          have s := str_rd (c := c - 4) (rf.below hW) LF.out
          go_simp; rfl
        (try simp only [Act.put, List.setIfInBounds_toArray]); (try simp only [List.set_cons_succ]); (try simp only [List.set_cons_zero])
        refine r_flt RB_refl 3 18 #[true, true, true, true, false, false, false, false] (by simp only [List.getElem?_toArray, List.getElem?_cons_succ, List.getElem?_cons_zero]; rfl) (by rfl) (by kernel_rfl) (by kernel_rfl) (by kernel_rfl) (fun _ _ _ _ h => h) rfl (by rfl) ?_
        apply Exists.intro
        apply And.intro
        · intro W hW
          first | (go_simp; with_reducible rfl) | go_simp
        (try simp only [Act.put, List.setIfInBounds_toArray]); (try simp only [List.set_cons_succ]); (try simp only [List.set_cons_zero])
        refine r_flt RB_refl 4 19 #[true, true, true, true, true, false, false, false] (by simp only [List.getElem?_toArray, List.getElem?_cons_succ, List.getElem?_cons_zero]; rfl) (by rfl) (by kernel_rfl) (by kernel_rfl) (by kernel_rfl) (fun _ _ _ _ h => h) rfl (by rfl) ?_
        apply Exists.intro
        apply And.intro
        · intro W hW
          go_simp; rfl
        (try simp only [Act.put, List.setIfInBounds_toArray]); (try simp only [List.set_cons_succ]); (try simp only [List.set_cons_zero])
        refine r_one RB_trans 5 (by kernel_rfl) ?_
        refine alt_call 20 #[true, true, true, true, true, true, false, false] (by simp only [List.getElem?_toArray, List.getElem?_cons_succ, List.getElem?_cons_zero]; rfl) (by rfl) rfl (by rfl) (by go_simp; first | exact ⟨rfl, rfl⟩ | rfl) ?_
        have hcall := Tail_any D (some ad) c X wd1 r4 (by have := L4.out; omega)
        rw [L4.out] at hcall
        with_reducible refine hcall.mono ?_
        rintro r w4 ⟨v4, rfl, o4, b4⟩
        obtain ⟨A4, n4, c4, rfl, e4, _, _⟩ := o4.form'
        refine ⟨_, rfl, b4, ?_⟩
        have h := h.below b4
        have rf := rf.below b4
        have bb := bb.thenB' b4
        (try simp only [Act.put, List.setIfInBounds_toArray]); (try simp only [List.set_cons_succ]); (try simp only [List.set_cons_zero])
        refine r_flt RB_refl 6 21 #[true, true, true, true, true, true, true, false] (by simp only [List.getElem?_toArray, List.getElem?_cons_succ, List.getElem?_cons_zero]; rfl) (by rfl) (by kernel_rfl) (by kernel_rfl) (by kernel_rfl) (fun _ _ _ _ h => h) rfl (by rfl) ?_
        apply Exists.intro
        apply And.intro
        · intro W hW
          have s := str_inB o4 e4.out hW
          go_simp; rfl
        (try simp only [Act.put, List.setIfInBounds_toArray]); (try simp only [List.set_cons_succ]); (try simp only [List.set_cons_zero])
        refine r_flt RB_refl 7 22 #[true, true, true, true, true, true, true, true] (by simp only [List.getElem?_toArray, List.getElem?_cons_succ, List.getElem?_cons_zero]; rfl) (by rfl) (by kernel_rfl) (by kernel_rfl) (by kernel_rfl) (fun _ _ _ _ h => h) rfl (by rfl) ?_
        apply Exists.intro
        apply And.intro
        · intro W hW
          have s := hne.out
          go_simp; rfl
        (try simp only [Act.put, List.setIfInBounds_toArray]); (try simp only [List.set_cons_succ]); (try simp only [List.set_cons_zero])
        refine r_done (by kernel_rfl) ?_
        go_wp2_with fail
        ((try simp only [Exit.inBlock, Exit.then]); refine bodyPost_ret (results_tmp4 rfl _ _ _) rfl ?_)
        exact ⟨none, 0, 0, by rw [e.out] <;> rfl, by rw [e.out]; exact Lib.hid rfl, by rw [e.out]; exact RdB.nil, bb, Lib.hid ⟨Nat.le_refl _, Nat.zero_le _⟩⟩
      · have hne : Hid (((b.take 8).drop 4 == tailO (b.take 4)) = true) := by unfold Hid; rw [hs]; simp
        have HS := Lib.hid hs
        clear hs
        obtain ⟨ad', e0, _, p2⟩ := h.at_ (k := 2) (by omega)
        injection e0 with e0
        subst e0
        obtain ⟨ad', e0, _, p3⟩ := h.at_ (k := 3) (by omega)
        injection e0 with e0
        subst e0
        obtain ⟨ad', e0, _, p1⟩ := h.at_ (k := 1) (by omega)
        injection e0 with e0
        subst e0
        have hx := b[2].toNat_lt
        have hy := b[3].toNat_lt
        have hz := b[1].toNat_lt
        have HN : Hid (lenF b = b[2].toNat * 256 + b[3].toNat) := by
          unfold Hid lenF
          rw [List.getD_eq_getElem?_getD, List.getElem?_eq_getElem (by omega : 2 < b.length), List.getD_eq_getElem?_getD, List.getElem?_eq_getElem (by omega : 3 < b.length)]; rfl
        have HK : Hid (((b.getD 1 0).toNat : Int) = (b[1].toNat : Int)) := by
          unfold Hid
          rw [List.getD_eq_getElem?_getD, List.getElem?_eq_getElem (by omega : 1 < b.length)]; rfl
        have P2 := Lib.hid p2
        have P3 := Lib.hid p3
        have P1 := Lib.hid p1
        clear p1 p2 p3
        generalize b[2].toNat = x at *
        generalize b[3].toNat = y at *
        generalize b[1].toNat = z at *
        obtain ⟨n, hn⟩ : ∃ n, n = x * 256 + y := ⟨_, rfl⟩
        rw [← hn] at HN
        have hni : 256 * (x : Int) + (y : Int) = (n : Int) := by omega
        have hn6 : n ≤ 65535 := by omega
        clear hn
        have hwx : IntKind.i64.wrap (x : Int) = (x : Int) := by rw [IntKind.wrap_i64]; omega
        have hwy : IntKind.i64.wrap (y : Int) = (y : Int) := by rw [IntKind.wrap_i64]; omega
        have hwz : IntKind.i64.wrap (z : Int) = (z : Int) := by rw [IntKind.wrap_i64]; omega
        have hwx2 : IntKind.i64.wrap (256 * (x : Int)) = 256 * (x : Int) := by rw [IntKind.wrap_i64]; omega
        have hwn : IntKind.i64.wrap (n : Int) = (n : Int) := by rw [IntKind.wrap_i64]; omega
        have EN : Hid (nextO b = if 8192 < n then .bad 11 else if b.length < n + 12 then .bad 10 else if tailO (bodyF b n) ≠ footF b n then .bad 20 else ⟨(z : Int), bodyF b n, b.drop (12 + n), 12 + n, 0⟩) := by
          unfold Hid nextO
          rw [if_neg h8, if_neg (fun h => h H90.out), if_neg (fun h => h HS.out), HN.out, HK.out]
        generalize (b.take 8).drop 4 = F at *
        generalize b.take 4 = X at *
        go_enter Tryd.func29, Tryd.ntmps29
        go_wp2_with fail
        refine r_start (R := RB) (by rfl) (n := 8) (L := #[false, false, false, false, false, false, false, false]) rfl rfl ?_
        have bd : Below w.heap.size w w.drew := (Below.refl _ _).drew
        have h := h.below bd
        have r4 := r4.below bd
        have rf := rf.below bd
        have bb := bd
        have P1 : w.drew.cell? (ad.add 1) = some (.int .u8 (z : Int)) := P1.out
        have P2 : w.drew.cell? (ad.add 2) = some (.int .u8 (x : Int)) := P2.out
        have P3 : w.drew.cell? (ad.add 3) = some (.int .u8 (y : Int)) := P3.out
        generalize w.drew = wd1 at *
        clear bd
        refine r_flt RB_refl 0 15 #[true, false, false, false, false, false, false, false] (by simp only [List.getElem?_toArray, List.getElem?_cons_zero]; rfl) (by rfl) (by kernel_rfl) (by kernel_rfl) (by kernel_rfl) (fun _ _ _ _ h => h) rfl (by rfl) ?_
        apply Exists.intro
        apply And.intro
        · intro W hW
          first | (go_simp; with_reducible rfl) | go_simp
        (try simp only [Act.put, List.setIfInBounds_toArray]); (try simp only [List.set_cons_succ]); (try simp only [List.set_cons_zero])
        refine r_flt RB_refl 1 16 #[true, true, false, false, false, false, false, false] (by simp only [List.getElem?_toArray, List.getElem?_cons_succ, List.getElem?_cons_zero]; rfl) (by rfl) (by kernel_rfl) (by kernel_rfl) (by kernel_rfl) (fun _ _ _ _ h => h) rfl (by rfl) ?_
        apply Exists.intro
        apply And.intro
        · intro W hW
          go_simp; rfl
        (try simp only [Act.put, List.setIfInBounds_toArray]); (try simp only [List.set_cons_succ]); (try simp only [List.set_cons_zero])
        refine r_flt RB_refl 2 17 #[true, true, true, false, false, false, false, false] (by simp only [List.getElem?_toArray, List.getElem?_cons_succ, List.getElem?_cons_zero]; rfl) (by rfl) (by kernel_rfl) (by kernel_rfl) (by kernel_rfl) (fun _ _ _ _ h => h) rfl (by rfl) ?_
        apply Exists.intro
        apply And.intro
        · intro W hW
          have s := str_rd (c := c - 4) (rf.below hW) LF.out
          go_simp; rfl
        (try simp only [Act.put, List.setIfInBounds_toArray]); (try simp only [List.set_cons_succ]); (try simp only [List.set_cons_zero])
        refine r_flt RB_refl 3 18 #[true, true, true, true, false, false, false, false] (by simp only [List.getElem?_toArray, List.getElem?_cons_succ, List.getElem?_cons_zero]; rfl) (by rfl) (by kernel_rfl) (by kernel_rfl) (by kernel_rfl) (fun _ _ _ _ h => h) rfl (by rfl) ?_
        apply Exists.intro
        apply And.intro
        · intro W hW
          first | (go_simp; with_reducible rfl) | go_simp
        (try simp only [Act.put, List.setIfInBounds_toArray]); (try simp only [List.set_cons_succ]); (try simp only [List.set_cons_zero])
        refine r_flt RB_refl 4 19 #[true, true, true, true, true, false, false, false] (by simp only [List.getElem?_toArray, List.getElem?_cons_succ, List.getElem?_cons_zero]; rfl) (by rfl) (by kernel_rfl) (by kernel_rfl) (by kernel_rfl) (fun _ _ _ _ h => h) rfl (by rfl) ?_
        apply Exists.intro
        apply And.intro
        · intro W hW
          go_simp; rfl
        (try simp only [Act.put, List.setIfInBounds_toArray]); (try simp only [List.set_cons_succ]); (try simp only [List.set_cons_zero])
        refine r_one RB_trans 5 (by kernel_rfl) ?_
        refine alt_call 20 #[true, true, true, true, true, true, false, false] (by simp only [List.getElem?_toArray, List.getElem?_cons_succ, List.getElem?_cons_zero]; rfl) (by rfl) rfl (by rfl) (by go_simp; first | exact ⟨rfl, rfl⟩ | rfl) ?_
        have hcall := Tail_any D (some ad) c X wd1 r4 (by have := L4.out; omega)
        rw [L4.out] at hcall
        with_reducible refine hcall.mono ?_
        rintro r w4 ⟨v4, rfl, o4, b4⟩
        obtain ⟨A4, n4, c4, rfl, e4, _, _⟩ := o4.form'
        refine ⟨_, rfl, b4, ?_⟩
        have h := h.below b4
        have rf := rf.below b4
        have bb := bb.thenB' b4
        have P1 : w4.cell? (ad.add 1) = some (.int .u8 (z : Int)) := cell_below P1 b4
        have P2 : w4.cell? (ad.add 2) = some (.int .u8 (x : Int)) := cell_below P2 b4
        have P3 : w4.cell? (ad.add 3) = some (.int .u8 (y : Int)) := cell_below P3 b4
        (try simp only [Act.put, List.setIfInBounds_toArray]); (try simp only [List.set_cons_succ]); (try simp only [List.set_cons_zero])
        refine r_flt RB_refl 6 21 #[true, true, true, true, true, true, true, false] (by simp only [List.getElem?_toArray, List.getElem?_cons_succ, List.getElem?_cons_zero]; rfl) (by rfl) (by kernel_rfl) (by kernel_rfl) (by kernel_rfl) (fun _ _ _ _ h => h) rfl (by rfl) ?_
        apply Exists.intro
        apply And.intro
        · intro W hW
          have s := str_inB o4 e4.out hW
          go_simp; rfl
        (try simp only [Act.put, List.setIfInBounds_toArray]); (try simp only [List.set_cons_succ]); (try simp only [List.set_cons_zero])
        refine r_flt RB_refl 7 22 #[true, true, true, true, true, true, true, true] (by simp only [List.getElem?_toArray, List.getElem?_cons_succ, List.getElem?_cons_zero]; rfl) (by rfl) (by kernel_rfl) (by kernel_rfl) (by kernel_rfl) (fun _ _ _ _ h => h) rfl (by rfl) ?_
        apply Exists.intro
        apply And.intro
        · intro W hW
          have s := hne.out
          go_simp; rfl
        (try simp only [Act.put, List.setIfInBounds_toArray]); (try simp only [List.set_cons_succ]); (try simp only [List.set_cons_zero])
        refine r_done (by kernel_rfl) ?_
        have p2 : w4.cell? ⟨ad.block, ad.off + 2, none⟩ = some (.int .u8 (x : Int)) := P2
        have p3 : w4.cell? ⟨ad.block, ad.off + 3, none⟩ = some (.int .u8 (y : Int)) := P3
        have g2 : (2 : Int) < (b.length : Int) := by omega
        have g3 : (3 : Int) < (b.length : Int) := by omega
        have g2n : 2 < b.length := by omega
        have g3n : 3 < b.length := by omega
        go_wp2_with fail
        go_quiet (fail)
        have bd := below_drewN (Below.refl w4.heap.size w4) nq
        have h := h.below bd
        have bb := bb.thenB' bd
        have p1 : (w4.drewN nq).cell? ⟨ad.block, ad.off + 1, none⟩ = some (.int .u8 (z : Int)) := P1
        generalize w4.drewN nq = w5 at *
        clear p2 p3 P2 P3 P1 bd
        by_cases hA : 8192 < n
        · have e : Hid (nextO b = .bad 11) := by unfold Hid; rw [EN.out, if_pos hA]
          go_wp2_with fail
          ((try simp only [Exit.inBlock, Exit.then]); refine bodyPost_ret (results_tmp4 rfl _ _ _) rfl ?_)
          exact ⟨none, 0, 0, by rw [e.out] <;> rfl, by rw [e.out]; exact Lib.hid rfl, by rw [e.out]; exact RdB.nil, bb, Lib.hid ⟨Nat.le_refl _, Nat.zero_le _⟩⟩
        · by_cases hB : b.length < n + 12
          · have e : Hid (nextO b = .bad 10) := by unfold Hid; rw [EN.out, if_neg hA, if_pos hB]
            have hBi : (b.length : Int) < (n : Int) + 12 := by omega
            go_wp2_with fail
            ((try simp only [Exit.inBlock, Exit.then]); refine bodyPost_ret (results_tmp4 rfl _ _ _) rfl ?_)
            exact ⟨none, 0, 0, by rw [e.out] <;> rfl, by rw [e.out]; exact Lib.hid rfl, by rw [e.out]; exact RdB.nil, bb, Lib.hid ⟨Nat.le_refl _, Nat.zero_le _⟩⟩
          · have hBi : ¬ (b.length : Int) < (n : Int) + 12 := by omega
            have r8 : RdB w5 D (some ad) (b.take (8 + n)) := h.take (by omega)
            have l8' : (b.take (8 + n)).length = 8 + n := by rw [List.length_take]; omega
            have ry : RdB w5 D (cutA (some ad) 8 c 1) (bodyF b n) := r8.drop (by omega) (by omega)
            have LY := Lib.hid (bodyF_len b n (by omega))
            have r12 : RdB w5 D (some ad) (b.take (12 + n)) := h.take (by omega)
            have l12 : (b.take (12 + n)).length = 12 + n := by rw [List.length_take]; omega
            have rg : RdB w5 D (cutA (some ad) (8 + n) c 1) (footF b n) := r12.drop (by omega) (by omega)
            have LG := Lib.hid (footF_len b n (by omega))
            clear r8 l8' r12 l12
            have hdec : tailO (bodyF b n) = footF b n ∨ tailO (bodyF b n) ≠ footF b n := Decidable.em _
            have h8c : 8 + n ≤ c := by omega
            rcases hdec with hs | hs
            rotate_left
            · have e : Hid (nextO b = .bad 20) := by unfold Hid; rw [EN.out, if_neg hA, if_neg hB, if_pos hs]
              have hne : Hid ((footF b n == tailO (bodyF b n)) = false) := by unfold Hid; rw [beq_eq_false_iff_ne]; exact fun h => hs h.symm
              clear hs
              generalize bodyF b n = Y at *
              generalize footF b n = G at *
              go_wp2_with fail
              obtain ⟨m, hm8⟩ : ∃ m, m = 8 + n := ⟨_, rfl⟩
              obtain ⟨q, hq⟩ : ∃ q, q = 12 + n := ⟨_, rfl⟩
              rw [← hm8] at rg
              have HQ := Lib.hid hq
              have HLG : Hid (q - m = G.length) := by unfold Hid; rw [LG.out]; omega
              have hwm : IntKind.i64.wrap (8 + (n : Int)) = (m : Int) := by rw [IntKind.wrap_i64]; omega
              have hwq : IntKind.i64.wrap (12 + (n : Int)) = (q : Int) := by rw [IntKind.wrap_i64]; omega
              have hmc : m ≤ c := by omega
              have hqc : q ≤ c := by omega
              have hmq : m ≤ q := by omega
              have hmci : (m : Int) ≤ (c : Int) := by omega
              have hqci : (q : Int) ≤ (c : Int) := by omega
              have hmqi : (m : Int) ≤ (q : Int) := by omega
              clear hm8 hq
              refine r_start (R := RB) (by rfl) (n := 11) (L := #[false, false, false, false, false, false, false, false, false, false, false]) rfl rfl ?_
              have bd : Below w5.heap.size w5 w5.drew := (Below.refl _ _).drew
              have h := h.below bd
              have rg := rg.below bd
              have ry := ry.below bd
              have bb := bb.thenB' bd
              have p1 : w5.drew.cell? ⟨ad.block, ad.off + 1, none⟩ = some (.int .u8 (z : Int)) := p1
              generalize w5.drew = wd1 at *
              clear bd
              refine r_flt RB_refl 0 44 #[true, false, false, false, false, false, false, false, false, false, false] (by simp only [List.getElem?_toArray, List.getElem?_cons_zero]; rfl) (by rfl) (by kernel_rfl) (by kernel_rfl) (by kernel_rfl) (fun _ _ _ _ h => h) rfl (by rfl) ?_
              apply Exists.intro
              apply And.intro
              · intro W hW
                first | (go_simp; with_reducible rfl) | go_simp
              (try simp only [Act.put, List.setIfInBounds_toArray]); (try simp only [List.set_cons_succ]); (try simp only [List.set_cons_zero])
              refine r_flt RB_refl 1 45 #[true, true, false, false, false, false, false, false, false, false, false] (by simp only [List.getElem?_toArray, List.getElem?_cons_succ, List.getElem?_cons_zero]; rfl) (by rfl) (by kernel_rfl) (by kernel_rfl) (by kernel_rfl) (fun _ _ _ _ h => h) rfl (by rfl) ?_
              apply Exists.intro
              apply And.intro
              · intro W hW
                first | (go_simp; with_reducible rfl) | go_simp
              (try simp only [Act.put, List.setIfInBounds_toArray]); (try simp only [List.set_cons_succ]); (try simp only [List.set_cons_zero])
              refine r_flt RB_refl 2 46 #[true, true, true, false, false, false, false, false, false, false, false] (by simp only [List.getElem?_toArray, List.getElem?_cons_succ, List.getElem?_cons_zero]; rfl) (by rfl) (by kernel_rfl) (by kernel_rfl) (by kernel_rfl) (fun _ _ _ _ h => h) rfl (by rfl) ?_
              apply Exists.intro
              apply And.intro
              · intro W hW
                go_simp; rfl
              (try simp only [Act.put, List.setIfInBounds_toArray]); (try simp only [List.set_cons_succ]); (try simp only [List.set_cons_zero])
              refine r_flt RB_refl 3 47 #[true, true, true, true, false, false, false, false, false, false, false] (by simp only [List.getElem?_toArray, List.getElem?_cons_succ, List.getElem?_cons_zero]; rfl) (by rfl) (by kernel_rfl) (by kernel_rfl) (by kernel_rfl) (fun _ _ _ _ h => h) rfl (by rfl) ?_
              apply Exists.intro
              apply And.intro
              · intro W hW
                first | (go_simp; with_reducible rfl) | go_simp
              (try simp only [Act.put, List.setIfInBounds_toArray]); (try simp only [List.set_cons_succ]); (try simp only [List.set_cons_zero])
              refine r_flt RB_refl 4 48 #[true, true, true, true, true, false, false, false, false, false, false] (by simp only [List.getElem?_toArray, List.getElem?_cons_succ, List.getElem?_cons_zero]; rfl) (by rfl) (by kernel_rfl) (by kernel_rfl) (by kernel_rfl) (fun _ _ _ _ h => h) rfl (by rfl) ?_
              apply Exists.intro
              apply And.intro
              · intro W hW
                go_simp; rfl
              (try simp only [Act.put, List.setIfInBounds_toArray]); (try simp only [List.set_cons_succ]); (try simp only [List.set_cons_zero])
              refine r_flt RB_refl 5 49 #[true, true, true, true, true, true, false, false, false, false, false] (by simp only [List.getElem?_toArray, List.getElem?_cons_succ, List.getElem?_cons_zero]; rfl) (by rfl) (by kernel_rfl) (by kernel_rfl) (by kernel_rfl) (fun _ _ _ _ h => h) rfl (by rfl) ?_
              apply Exists.intro
              apply And.intro
              · intro W hW
                go_simp; rfl
              (try simp only [Act.put, List.setIfInBounds_toArray]); (try simp only [List.set_cons_succ]); (try simp only [List.set_cons_zero])
              refine r_flt RB_refl 6 50 #[true, true, true, true, true, true, true, false, false, false, false] (by simp only [List.getElem?_toArray, List.getElem?_cons_succ, List.getElem?_cons_zero]; rfl) (by rfl) (by kernel_rfl) (by kernel_rfl) (by kernel_rfl) (fun _ _ _ _ h => h) rfl (by rfl) ?_
              apply Exists.intro
              apply And.intro
              · intro W hW
                have s := str_rd (c := c - m) (rg.below hW) HLG.out
                go_simp; rfl
              (try simp only [Act.put, List.setIfInBounds_toArray]); (try simp only [List.set_cons_succ]); (try simp only [List.set_cons_zero])
              refine r_flt RB_refl 7 51 #[true, true, true, true, true, true, true, true, false, false, false] (by simp only [List.getElem?_toArray, List.getElem?_cons_succ, List.getElem?_cons_zero]; rfl) (by rfl) (by kernel_rfl) (by kernel_rfl) (by kernel_rfl) (fun _ _ _ _ h => h) rfl (by rfl) ?_
              apply Exists.intro
              apply And.intro
              · intro W hW
                first | (go_simp; with_reducible rfl) | go_simp
              (try simp only [Act.put, List.setIfInBounds_toArray]); (try simp only [List.set_cons_succ]); (try simp only [List.set_cons_zero])
              refine r_one RB_trans 8 (by kernel_rfl) ?_
              refine alt_call 52 #[true, true, true, true, true, true, true, true, true, false, false] (by simp only [List.getElem?_toArray, List.getElem?_cons_succ, List.getElem?_cons_zero]; rfl) (by rfl) rfl (by rfl) (by go_simp; first | exact ⟨rfl, rfl⟩ | rfl) ?_
              have hcall := Tail_any D (cutA (some ad) 8 c 1) (c - 8) Y wd1 ry (by have := LY.out; omega)
              rw [LY.out] at hcall
              with_reducible refine hcall.mono ?_
              rintro r w8 ⟨v8, rfl, o8, b8⟩
              obtain ⟨A8, n8, c8, rfl, e8, _, _⟩ := o8.form'
              refine ⟨_, rfl, b8, ?_⟩
              have h := h.below b8
              have rg := rg.below b8
              have ry := ry.below b8
              have p1 := cell_below p1 b8
              have bb := bb.thenB' b8
              (try simp only [Act.put, List.setIfInBounds_toArray]); (try simp only [List.set_cons_succ]); (try simp only [List.set_cons_zero])
              refine r_flt RB_refl 9 53 #[true, true, true, true, true, true, true, true, true, true, false] (by simp only [List.getElem?_toArray, List.getElem?_cons_succ, List.getElem?_cons_zero]; rfl) (by rfl) (by kernel_rfl) (by kernel_rfl) (by kernel_rfl) (fun _ _ _ _ h => h) rfl (by rfl) ?_
              apply Exists.intro
              apply And.intro
              · intro W hW
                have s := str_inB o8 e8.out hW
                go_simp; rfl
              (try simp only [Act.put, List.setIfInBounds_toArray]); (try simp only [List.set_cons_succ]); (try simp only [List.set_cons_zero])
              refine r_flt RB_refl 10 54 #[true, true, true, true, true, true, true, true, true, true, true] (by simp only [List.getElem?_toArray, List.getElem?_cons_succ, List.getElem?_cons_zero]; rfl) (by rfl) (by kernel_rfl) (by kernel_rfl) (by kernel_rfl) (fun _ _ _ _ h => h) rfl (by rfl) ?_
              apply Exists.intro
              apply And.intro
              · intro W hW
                have s := hne.out
                go_simp; rfl
              (try simp only [Act.put, List.setIfInBounds_toArray]); (try simp only [List.set_cons_succ]); (try simp only [List.set_cons_zero])
              refine r_done (by kernel_rfl) ?_
              go_wp2_with fail
              ((try simp only [Exit.inBlock, Exit.then]); refine bodyPost_ret (results_tmp4 rfl _ _ _) rfl ?_)
              exact ⟨none, 0, 0, by rw [e.out] <;> rfl, by rw [e.out]; exact Lib.hid rfl, by rw [e.out]; exact RdB.nil, bb, Lib.hid ⟨Nat.le_refl _, Nat.zero_le _⟩⟩
            · have e : Hid (nextO b = ⟨(z : Int), bodyF b n, b.drop (12 + n), 12 + n, 0⟩) := by unfold Hid; rw [EN.out, if_neg hA, if_neg hB, if_neg (fun h => h hs)]
              have hne : Hid ((footF b n == tailO (bodyF b n)) = true) := by unfold Hid; rw [hs]; simp
              clear hs
              generalize bodyF b n = Y at *
              generalize footF b n = G at *
              go_wp2_with fail
              obtain ⟨m, hm8⟩ : ∃ m, m = 8 + n := ⟨_, rfl⟩
              obtain ⟨q, hq⟩ : ∃ q, q = 12 + n := ⟨_, rfl⟩
              rw [← hm8] at rg
              have HQ := Lib.hid hq
              have HLG : Hid (q - m = G.length) := by unfold Hid; rw [LG.out]; omega
              have hwm : IntKind.i64.wrap (8 + (n : Int)) = (m : Int) := by rw [IntKind.wrap_i64]; omega
              have hwq : IntKind.i64.wrap (12 + (n : Int)) = (q : Int) := by rw [IntKind.wrap_i64]; omega
              have hmc : m ≤ c := by omega
              have hqc : q ≤ c := by omega
              have hmq : m ≤ q := by omega
              have hmci : (m : Int) ≤ (c : Int) := by omega
              have hqci : (q : Int) ≤ (c : Int) := by omega
              have hmqi : (m : Int) ≤ (q : Int) := by omega
              clear hm8 hq
              refine r_start (R := RB) (by rfl) (n := 11) (L := #[false, false, false, false, false, false, false, false, false, false, false]) rfl rfl ?_
              have bd : Below w5.heap.size w5 w5.drew := (Below.refl _ _).drew
              have h := h.below bd
              have rg := rg.below bd
              have ry := ry.below bd
              have bb := bb.thenB' bd
              have p1 : w5.drew.cell? ⟨ad.block, ad.off + 1, none⟩ = some (.int .u8 (z : Int)) := p1
              generalize w5.drew = wd1 at *
              clear bd
              refine r_flt RB_refl 0 44 #[true, false, false, false, false, false, false, false, false, false, false] (by simp only [List.getElem?_toArray, List.getElem?_cons_zero]; rfl) (by rfl) (by kernel_rfl) (by kernel_rfl) (by kernel_rfl) (fun _ _ _ _ h => h) rfl (by rfl) ?_
              apply Exists.intro
              apply And.intro
              · intro W hW
                first | (go_simp; with_reducible rfl) | go_simp
              (try simp only [Act.put, List.setIfInBounds_toArray]); (try simp only [List.set_cons_succ]); (try simp only [List.set_cons_zero])
              refine r_flt RB_refl 1 45 #[true, true, false, false, false, false, false, false, false, false, false] (by simp only [List.getElem?_toArray, List.getElem?_cons_succ, List.getElem?_cons_zero]; rfl) (by rfl) (by kernel_rfl) (by kernel_rfl) (by kernel_rfl) (fun _ _ _ _ h => h) rfl (by rfl) ?_
              apply Exists.intro
              apply And.intro
              · intro W hW
                first | (go_simp; with_reducible rfl) | go_simp
              (try simp only [Act.put, List.setIfInBounds_toArray]); (try simp only [List.set_cons_succ]); (try simp only [List.set_cons_zero])
              refine r_flt RB_refl 2 46 #[true, true, true, false, false, false, false, false, false, false, false] (by simp only [List.getElem?_toArray, List.getElem?_cons_succ, List.getElem?_cons_zero]; rfl) (by rfl) (by kernel_rfl) (by kernel_rfl) (by kernel_rfl) (fun _ _ _ _ h => h) rfl (by rfl) ?_
              apply Exists.intro
              apply And.intro
              · intro W hW
                go_simp; rfl
              (try simp only [Act.put, List.setIfInBounds_toArray]); (try simp only [List.set_cons_succ]); (try simp only [List.set_cons_zero])
              refine r_flt RB_refl 3 47 #[true, true, true, true, false, false, false, false, false, false, false] (by simp only [List.getElem?_toArray, List.getElem?_cons_succ, List.getElem?_cons_zero]; rfl) (by rfl) (by kernel_rfl) (by kernel_rfl) (by kernel_rfl) (fun _ _ _ _ h => h) rfl (by rfl) ?_
              apply Exists.intro
              apply And.intro
              · intro W hW
                first | (go_simp; with_reducible rfl) | go_simp
              (try simp only [Act.put, List.setIfInBounds_toArray]); (try simp only [List.set_cons_succ]); (try simp only [List.set_cons_zero])
              refine r_flt RB_refl 4 48 #[true, true, true, true, true, false, false, false, false, false, false] (by simp only [List.getElem?_toArray, List.getElem?_cons_succ, List.getElem?_cons_zero]; rfl) (by rfl) (by kernel_rfl) (by kernel_rfl) (by kernel_rfl) (fun _ _ _ _ h => h) rfl (by rfl) ?_
              apply Exists.intro
              apply And.intro
              · intro W hW
                go_simp; rfl
              (try simp only [Act.put, List.setIfInBounds_toArray]); (try simp only [List.set_cons_succ]); (try simp only [List.set_cons_zero])
              refine r_flt RB_refl 5 49 #[true, true, true, true, true, true, false, false, false, false, false] (by simp only [List.getElem?_toArray, List.getElem?_cons_succ, List.getElem?_cons_zero]; rfl) (by rfl) (by kernel_rfl) (by kernel_rfl) (by kernel_rfl) (fun _ _ _ _ h => h) rfl (by rfl) ?_
              apply Exists.intro
              apply And.intro
              · intro W hW
                go_simp; rfl
              (try simp only [Act.put, List.setIfInBounds_toArray]); (try simp only [List.set_cons_succ]); (try simp only [List.set_cons_zero])
              refine r_flt RB_refl 6 50 #[true, true, true, true, true, true, true, false, false, false, false] (by simp only [List.getElem?_toArray, List.getElem?_cons_succ, List.getElem?_cons_zero]; rfl) (by rfl) (by kernel_rfl) (by kernel_rfl) (by kernel_rfl) (fun _ _ _ _ h => h) rfl (by rfl) ?_
              apply Exists.intro
              apply And.intro
              · intro W hW
                have s := str_rd (c := c - m) (rg.below hW) HLG.out
                go_simp; rfl
              (try simp only [Act.put, List.setIfInBounds_toArray]); (try simp only [List.set_cons_succ]); (try simp only [List.set_cons_zero])
              refine r_flt RB_refl 7 51 #[true, true, true, true, true, true, true, true, false, false, false] (by simp only [List.getElem?_toArray, List.getElem?_cons_succ, List.getElem?_cons_zero]; rfl) (by rfl) (by kernel_rfl) (by kernel_rfl) (by kernel_rfl) (fun _ _ _ _ h => h) rfl (by rfl) ?_
              apply Exists.intro
              apply And.intro
              · intro W hW
                first | (go_simp; with_reducible rfl) | go_simp
              (try simp only [Act.put, List.setIfInBounds_toArray]); (try simp only [List.set_cons_succ]); (try simp only [List.set_cons_zero])
              refine r_one RB_trans 8 (by kernel_rfl) ?_
              refine alt_call 52 #[true, true, true, true, true, true, true, true, true, false, false] (by simp only [List.getElem?_toArray, List.getElem?_cons_succ, List.getElem?_cons_zero]; rfl) (by rfl) rfl (by rfl) (by go_simp; first | exact ⟨rfl, rfl⟩ | rfl) ?_
              have hcall := Tail_any D (cutA (some ad) 8 c 1) (c - 8) Y wd1 ry (by have := LY.out; omega)
              rw [LY.out] at hcall
              with_reducible refine hcall.mono ?_
              rintro r w8 ⟨v8, rfl, o8, b8⟩
              obtain ⟨A8, n8, c8, rfl, e8, _, _⟩ := o8.form'
              refine ⟨_, rfl, b8, ?_⟩
              have h := h.below b8
              have rg := rg.below b8
              have ry := ry.below b8
              have p1 := cell_below p1 b8
              have bb := bb.thenB' b8
              (try simp only [Act.put, List.setIfInBounds_toArray]); (try simp only [List.set_cons_succ]); (try simp only [List.set_cons_zero])
              refine r_flt RB_refl 9 53 #[true, true, true, true, true, true, true, true, true, true, false] (by simp only [List.getElem?_toArray, List.getElem?_cons_succ, List.getElem?_cons_zero]; rfl) (by rfl) (by kernel_rfl) (by kernel_rfl) (by kernel_rfl) (fun _ _ _ _ h => h) rfl (by rfl) ?_
              apply Exists.intro
              apply And.intro
              · intro W hW
                have s := str_inB o8 e8.out hW
                go_simp; rfl
              (try simp only [Act.put, List.setIfInBounds_toArray]); (try simp only [List.set_cons_succ]); (try simp only [List.set_cons_zero])
              refine r_flt RB_refl 10 54 #[true, true, true, true, true, true, true, true, true, true, true] (by simp only [List.getElem?_toArray, List.getElem?_cons_succ, List.getElem?_cons_zero]; rfl) (by rfl) (by kernel_rfl) (by kernel_rfl) (by kernel_rfl) (fun _ _ _ _ h => h) rfl (by rfl) ?_
              apply Exists.intro
              apply And.intro
              · intro W hW
                have s := hne.out
                go_simp; rfl
              (try simp only [Act.put, List.setIfInBounds_toArray]); (try simp only [List.set_cons_succ]); (try simp only [List.set_cons_zero])
              refine r_done (by kernel_rfl) ?_
              have g1 : (1 : Int) < (b.length : Int) := by omega
              have g1n : 1 < b.length := by omega
              have hwq12 : IntKind.i64.wrap ((n : Int) + 12) = (q : Int) := by have := HQ.out; rw [IntKind.wrap_i64]; omega
              have hq12 : (n : Int) + 12 = (q : Int) := by have := HQ.out; omega
              rw [← HQ.out] at e
              go_wp2_with fail
              ((try simp only [Exit.inBlock, Exit.then]); refine bodyPost_ret (results_tmp4 rfl _ _ _) rfl ?_)
              exact ⟨_, _, _, by rw [e.out] <;> rfl, by rw [e.out]; exact Lib.hid LY.out.symm, by rw [e.out]; exact ry, bb, by unfold Hid; omega⟩
    · have e : Hid (nextO b = .bad 11) := by unfold Hid nextO; rw [if_neg h8, if_pos h90]
      have hne : ((b[0].toNat : Int) != 90) = true := by
        have h1 : b.getD 0 0 = b[0] := by rw [List.getD_eq_getElem?_getD, List.getElem?_eq_getElem (by omega : 0 < b.length)]; rfl
        rw [h1] at h90
        have : b[0].toNat ≠ 90 := fun e => h90 (UInt8.toNat_inj.1 e)
        simp; omega
      have p0' : w.cell? ad = some (.int .u8 (b[0].toNat : Int)) := p0
      clear h90
      go_enter Tryd.func29, Tryd.ntmps29
      go_wp2_with fail
      ((try simp only [Exit.inBlock, Exit.then]); refine bodyPost_ret (results_tmp4 rfl _ _ _) rfl ?_)
      exact ⟨none, 0, 0, by rw [e.out] <;> rfl, by rw [e.out]; exact Lib.hid rfl, by rw [e.out]; exact RdB.nil, Below.refl _ _, Lib.hid ⟨Nat.le_refl _, Nat.zero_le _⟩⟩
theorem rNext_any (D : Nat → Prop) (A : Option Addr) (c : Nat) (b : List UInt8) (w : World) (h : RdB w D A b) (hl : b.length ≤ 1000000) (hc : b.length ≤ c) (hm : c ≤ 9223372036854775807) :
    Calls Tryd.prog 29 #[.slice A b.length c] w fun e w' => ∃ A' n c', e = .returned (.tuple #[.int .i64 (nextO b).k, .slice A' n c', .int .i64 ((nextO b).fin : Int), .int .i64 (nextO b).e]) ∧ Hid (n = (nextO b).body.length) ∧ RdB w' D A' (nextO b).body ∧ Below w.heap.size w w' :=
  (rNext_cap D A c b w h hl hc hm).mono fun e w' ⟨A', n, c', h1, h2, h3, h4, _⟩ => ⟨A', n, c', h1, h2, h3, h4⟩
end Go.Proofs.YthpmmnpjdpgamaaDoor
