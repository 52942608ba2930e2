/- The walk of FrameBack. -/
import Derived.Test.YtfgknbfghfgbjaaDoorFr21
namespace Go.Proofs.YtfgknbfghfgbjaaDoor
open Go.RowKit
set_option linter.unusedVariables false

theorem wrap_is (x : Int) : IntKind.i64.wrap x = wrap64 x := by rw [IntKind.wrap_i64]; unfold wrap64; rfl
def kO (kind : Int) (i : Nat) : Nat := (bits .and .i64 (wrap64 (kind + (i : Int))) 255).toNat
theorem kO_eq (kind : Int) (i : Nat) : bits .and .i64 (wrap64 (kind + (i : Int))) 255 = (kO kind i : Int) := by
  obtain ⟨j, hj, _⟩ := and_mask (wrap64 (kind + (i : Int))) 255 (by omega)
  have hj : bits .and .i64 (wrap64 (kind + (i : Int))) 255 = (j : Int) := hj
  unfold kO
  rw [hj, Int.toNat_natCast]
theorem kO_le (kind : Int) (i : Nat) : kO kind i ≤ 255 := by
  obtain ⟨j, hj, h2⟩ := and_mask (wrap64 (kind + (i : Int))) 255 (by omega)
  have hj : bits .and .i64 (wrap64 (kind + (i : Int))) 255 = (j : Int) := hj
  unfold kO
  rw [hj, Int.toNat_natCast]
  exact h2
theorem makeK (k : Nat) (body : List UInt8) (hk : k ≤ 255) (h : body.length ≤ 8192) : makeO (k : Int) body = (frameO k body, 0) := by
  unfold makeO; rw [if_neg (by omega), if_neg (by omega), Int.toNat_natCast]

set_option maxHeartbeats 8000000 in
set_option maxRecDepth 100000 in
theorem back_walk (w : World) (ht : Tab w) (A : Option Addr) (L : List BV) (c : Nat) (rl : RdL w (Old w) 1 rowCB A L) (l : L.length ≤ c) (mx : c ≤ 9223372036854775807) (nn : A = none → c = 0) (rs : ∀ s ∈ L, RdB w (Old w) s.A s.l ∧ s.l.length ≤ s.c ∧ s.c ≤ 9223372036854775807)
    (kind : Int) (ik : I64 kind) (C : Option Addr) (behind : List UInt8) (d : Nat) (rb : RdB w (Old w) C behind) (ld : behind.length ≤ d) (md : d ≤ 9223372036854775807) (nd : C = none → d = 0) :
    Calls Tryd.prog 6 #[.slice A L.length c, .int .i64 kind, .slice C behind.length d] w fun e w' => e = .returned (.bool true) ∧ Below w.heap.size w w' := by
  have rs : ∀ s ∈ L, RdB w (Old w) s.A s.l := fun s hs => (rs s hs).1
  by_cases h0 : 20 < L.length ∨ 7 < behind.length
  · by_cases h1 : 20 < L.length
    focus skip
    rotate_left
    focus
      have h2 : 7 < behind.length := by omega
    all_goals
      clear h0
      go_enter Tryd.func6, Tryd.ntmps6
      go_wp2_with fail
      refine (awake_any w ht).mono ?_
      rintro e wa ⟨rfl, b1⟩
      go_wp2_with fail
      go_ret
      exact ⟨rfl, b1⟩
  · have hl20 : L.length ≤ 20 := by omega
    have hl7 : behind.length ≤ 7 := by omega
    clear h0
    have hw0 := ht.lt
    have ht0 := ht
    obtain ⟨ls, hls⟩ : ∃ ls, ls = L.map (·.l) := ⟨_, rfl⟩
    have HLL : Hid (ls.length = L.length) := by unfold Hid; rw [hls, List.length_map]
    have HG : Hid (∀ j, (hj : j < L.length) → ls.getD j [] = L[j].l) := fun j hj => by rw [hls, List.getD_eq_getElem?_getD, List.getElem?_map, List.getElem?_eq_getElem hj]; rfl
    clear hls
    obtain ⟨ks, hks⟩ : ∃ ks, ks = kO kind := ⟨_, rfl⟩
    have HK : Hid (∀ j : Nat, bits .and .i64 (wrap64 (kind + (j : Int))) 255 = (ks j : Int)) := fun j => by rw [hks]; exact kO_eq kind j
    have HKL : Hid (∀ j, ks j ≤ 255) := fun j => by rw [hks]; exact kO_le kind j
    clear hks
    go_enter Tryd.func6, Tryd.ntmps6
    go_wp2_with fail
    refine (awake_any w ht).mono ?_
    rintro e w1 ⟨rfl, b1⟩
    have ht1 := ht.below b1
    have rl1 := rl.below b1
    have rs1 := fun s hs => (rs s hs).below b1
    have rb1 := rb.below b1
    go_wp2_with fail
    go_loopw [8, 9, 10, 11, 12] (fun b ends i f e wr => ∃ j : Nat, j ≤ L.length ∧ i = .int .i64 (j : Int) ∧ Hid (∀ t, t < j → (ls.getD t []).length ≤ 500) ∧ OwnB wr w.heap.size b (catO ks ls j) ∧ OwnI wr w.heap.size ends (endsO ks ls j) ∧ Sep b ends ∧ Tab wr ∧ Below w.heap.size w wr) (fun _ _ i _ _ _ => L.length - (intOf i).toNat)
    case atStart => exact ⟨0, Nat.zero_le _, rfl, Lib.hid fun t ht => by omega, OwnB.nil, OwnI.nil, fun k hk => by simp [Value.ownBlock] at hk, ht1, b1⟩
    case round =>
      clear ht1 b1 rl1 rs1 rb1
      obtain ⟨j, hj, rfl, H5, hb, he, hsep, ht, bb⟩ := hrel
      have rl1 := rl.belowB bb (fun _ h => h)
      have rs1 := fun s hs => Rd.belowB (rs s hs) bb (fun _ h => h)
      have rb1 := Rd.belowB rb bb (fun _ h => h)
      have hsz := bb.size
      have hcb := cat_bd ks ls j H5.out
      by_cases hlt : j < L.length
      · obtain ⟨ad, rfl, hcell⟩ := rl1.bv hlt
        have rj := rs1 L[j] (List.getElem_mem hlt)
        have hgj := HG.out j hlt
        have hcat : Hid (catO ks ls (j + 1) = catO ks ls j ++ frameO (ks j) L[j].l) := by unfold Hid; rw [catO, hgj]
        have hend : Hid (endsO ks ls (j + 1) = endsO ks ls j ++ [((catO ks ls (j + 1)).length : Int)]) := Lib.hid rfl
        have hel := endsO_len ks ls j
        have HEL := Lib.hid hel
        have H5' : Hid (L[j].l.length ≤ 500 → ∀ t, t < j + 1 → (ls.getD t []).length ≤ 500) := fun h t ht => by
          rcases Nat.lt_or_ge t j with h1 | h1
          · exact H5.out t h1
          · obtain rfl : t = j := by omega
            rw [hgj]; exact h
        clear hel hgj
        generalize L[j].l = x at *
        generalize L[j].A = Ax at *
        generalize L[j].c = cx at *
        by_cases h500 : 500 < x.length
        · go_wp2_with fail
          go_ret
          exact ⟨rfl, bb⟩
        · have H5'' := Lib.hid (H5'.out (by omega))
          have hk := HK.out j
          have hmk := Make_any _ Ax cx (ks j : Int) x wr rj (by omega) ht
          rw [makeK (ks j) x (HKL.out j) (by omega)] at hmk
          have HF := Lib.hid (frameO_len (ks j) x)
          generalize frameO (ks j) x = F at *
          generalize ks j = k at *
          go_wp2_with fail
          refine hmk.mono ?_
          clear hmk
          rintro e w3 ⟨v3, rfl, o3, b3⟩
          have o3 : OwnB w3 wr.heap.size v3 F := o3
          obtain ⟨A3, n3, c3, rfl, e3, _, _⟩ := OwnB.form' o3
          have hn3 : ((n3 : Int) != (x.length : Int) + 12) = false := by
            have h1 := e3.out
            have h2 := HF.out
            simp; omega
          have hcell := cell_below hcell b3
          have hb := OwnB.below hb b3
          have he := OwnI.below he b3
          have bb := bb.thenB' b3
          have hsz3 := bb.size
          have hl1 : (catO ks ls j).length + F.length ≤ big := by have := HF.out; unfold big; omega
          have r3 := o3.rd'
          clear o3
          go_wp2_with first
            | (at_builtin; refine wpList_appB rfl (.tmp 66) (.tmp 67) rfl w.heap.size _ (catO ks ls j) rfl hb _ A3 n3 c3 F rfl e3.out r3 hl1 hsz3 ?_; intro v8 w4 h8 x8
               have he4 := own_grown he x8.grown hsep
               have hsep4 := hsep.ext x8 (own_blk he)
               have b4 := bb.trans (x8.below hb (Nat.le_refl _) hsz3)
               rw [← hcat.out] at h8
               obtain ⟨A8, n8, c8, rfl, e8, _, _⟩ := OwnB.form' h8
               have nL := below_new w4 (.cells #[.int .i64 (n8 : Int)] 3)
               have hsz4 := Nat.le_trans b4.size nL.size
               have he5 := OwnI.below he4 nL
               have h8' := OwnB.below h8 nL
               have hl2 : (endsO ks ls j).length + [(n8 : Int)].length ≤ big := by rw [HEL.out]; unfold big; simp only [List.length_singleton]; omega)
            | (at_builtin; refine wpList_appI rfl (.tmp 69) (.tmp 72) rfl w.heap.size _ (endsO ks ls j) rfl he5 _ (some ⟨w4.heap.size, 0, none⟩) 1 1 [(n8 : Int)] rfl rfl (rd_newI w4 _) hl2 hsz4 ?_; intro v9 w5 h9 x9)
          have hb5 := own_grown h8' x9.grown hsep4.symm
          have hsep5 := ((hsep4.symm).ext x9 (fun k hk => Nat.lt_of_lt_of_le (own_blk h8 k hk) nL.size)).symm
          have b5 := (b4.thenB' nL).trans (x9.below he5 (Nat.le_refl _) hsz4)
          rw [e8.out, ← hend.out] at h9
          go_roundw
          case rel => exact ⟨j + 1, by omega, by go_num, H5'', hb5, h9, hsep5, ht0.below b5, b5⟩
          case measure => simp [intOf] <;> omega
      · obtain rfl : j = L.length := by omega
        have HB : Hid (catO ks ls L.length ++ behind = remO ks 0 ls behind) := by unfold Hid; rw [← HLL.out]; exact cat_all ks ls behind
        have HW : Hid (wholeO (remO ks 0 ls behind) = endsO ks ls L.length) := by
          unfold Hid
          rw [← HLL.out]
          exact whole_all ks ls behind HKL.out (fun j hj => H5.out j (by rw [← HLL.out]; exact hj)) hl7
        have hel := endsO_len ks ls L.length
        have HEL := Lib.hid hel
        have HBL : Hid ((remO ks 0 ls behind).length ≤ 1000000) := by unfold Hid; rw [← HB.out, List.length_append]; omega
        have hl1 : (catO ks ls L.length).length + behind.length ≤ big := by unfold big; omega
        obtain ⟨A9, c9, rfl, _, _⟩ := own_form he
        clear hel hcb
        go_wp2_with (at_builtin; refine wpList_appB rfl (.tmp 74) (.tmp 75) rfl w.heap.size _ (catO ks ls L.length) rfl hb _ C behind.length d behind rfl rfl rb1 hl1 hsz ?_; intro v8 w4 h8 x8)
        have he4 := own_grown he x8.grown hsep
        have b4 := bb.trans (x8.below hb (Nat.le_refl _) hsz)
        rw [HB.out] at h8
        obtain ⟨A8, n8, c8, rfl, e8, hc8, hm8⟩ := OwnB.form' h8
        have hm8 : c8 ≤ 9223372036854775807 := hm8
        have hwh := Whole_any _ A8 c8 (remO ks 0 ls behind) w4 h8.rd' HBL.out (by rw [← e8.out]; exact hc8) hm8 (ht0.below b4)
        rw [← e8.out, HW.out] at hwh
        refine hwh.mono ?_
        clear hwh
        rintro e w5 ⟨v5, rfl, o5, b5⟩
        obtain ⟨A5, c5, rfl, _, _⟩ := own_form o5
        have he5 := OwnI.below he4 b5
        go_wp2_with fail
        refine (Ints_yes _ _ A5 A9 _ c5 c9 (endsO ks ls L.length) rfl (OwnI.rd o5) (OwnI.rd he5) (by rw [HEL.out]; unfold big; omega)).mono ?_
        rintro e w6 ⟨rfl, b6⟩
        have bb2 := (b4.thenB' b5).thenB' b6
        have r8 : RdB w6 (fun _ => True) A8 (remO ks 0 ls behind) := Rd.imp ((h8.rd'.below b5).below b6) (fun _ _ _ => trivial) (by decide)
        clear bb b4 b5 b6 o5 he5 he4 h8 x8 he hb hsep rl1 rs1 rb1 hsz
        go_wp2_with fail
        go_loopw [8, 13, 14, 15, 16, 17] (fun b i s14 s15 s16 s17 wr => ∃ (j n : Nat) (Ab : Option Addr) (cb : Nat), j ≤ L.length ∧ i = .int .i64 (j : Int) ∧ b = .slice Ab n cb ∧ Hid (n = (remO ks j (ls.drop j) behind).length) ∧ n ≤ cb ∧ cb ≤ 9223372036854775807 ∧ Hid ((remO ks j (ls.drop j) behind).length ≤ 1000000) ∧ RdB wr (fun _ => True) Ab (remO ks j (ls.drop j) behind) ∧ Below w.heap.size w wr) (fun _ i _ _ _ _ _ => L.length - (intOf i).toNat)
        case atStart => exact ⟨0, n8, A8, c8, Nat.zero_le _, rfl, rfl, e8, hc8, hm8, HBL, r8, bb2⟩
        case round =>
          clear r8 bb2 e8 hc8 hm8
          obtain ⟨j, n, Ab, cb, hj, rfl, rfl, e8, hc8, hm8, hBl, r8, bb⟩ := hrel
          have rl1 := rl.belowB bb (fun _ h => h)
          have rs1 := fun s hs => Rd.belowB (rs s hs) bb (fun _ h => h)
          have rb1 := Rd.belowB rb bb (fun _ h => h)
          by_cases hlt : j < L.length
          · obtain ⟨ad, rfl, hcell⟩ := rl1.bv hlt
            have rj := rs1 L[j] (List.getElem_mem hlt)
            have hjl : j < ls.length := by rw [HLL.out]; exact hlt
            have hgj : ls[j] = L[j].l := by rw [← HG.out j hlt, List.getD_eq_getElem?_getD, List.getElem?_eq_getElem hjl]; rfl
            have hx5 := H5.out j hlt
            rw [HG.out j hlt] at hx5
            have hst := rem_step ks ls behind j hjl
            rw [hgj] at hst
            have hn := next_frame (ks j) L[j].l (remO ks (j + 1) (ls.drop (j + 1)) behind) (HKL.out j) (by omega)
            rw [← hst] at hn
            have hBl2 : Hid ((remO ks (j + 1) (ls.drop (j + 1)) behind).length ≤ 1000000) := by
              unfold Hid
              have h1 := hBl.out
              rw [hst, List.length_append] at h1
              omega
            have hnx := Next_any _ Ab cb (remO ks j (ls.drop j) behind) wr r8 hBl.out (by rw [← e8.out]; exact hc8) hm8 (ht0.below bb)
            rw [hn, ← e8.out] at hnx
            simp only at hnx
            have hk := HK.out j
            clear hst hn hgj
            obtain ⟨R, hR⟩ : ∃ R, R = remO ks (j + 1) (ls.drop (j + 1)) behind := ⟨_, rfl⟩
            rw [← hR] at hnx hBl2
            have HR := Lib.hid hR
            clear hR
            generalize remO ks j (ls.drop j) behind = R0 at *
            generalize L[j].l = x at *
            generalize L[j].A = Ax at *
            generalize L[j].c = cx at *
            generalize ks j = k at *
            have hjb : (j : Int) < (L.length : Int) := by omega
            go_wp2_with fail
            refine hnx.mono ?_
            clear hnx
            rintro e w3 ⟨v1, v2, rfl, o1, o2, b3⟩
            obtain ⟨A1, n1, c1, rfl, e1, _, _⟩ := OwnB.form' o1
            obtain ⟨A2, n2, c2, rfl, e2, hc2, hm2⟩ := OwnB.form' o2
            have hcell := cell_below hcell b3
            have rj := RdB.below rj b3
            have bb := bb.thenB' b3
            have r2 : RdB w3 (fun _ => True) A2 R := Rd.imp o2.rd' (fun _ _ _ => trivial) (by decide)
            have hm2 : c2 ≤ 9223372036854775807 := hm2
            clear o2
            go_wp2_with fail
            refine r_start (R := RB) (by rfl) (n := 20) (L := #[false, false, false, false, false, false, false, false, false, false, false, false, false, false, false, false, false, false, false, false]) rfl rfl ?_
            have bd : Below w3.heap.size w3 w3.drew := (Below.refl _ _).drew
            have o1 := OwnB.below o1 bd
            have r2 := RdB.below r2 bd
            have rj := RdB.below rj bd
            have hcell := cell_below hcell bd
            have bb := bb.thenB' bd
            generalize w3.drew = wd1 at *
            clear bd
            refine r_flt RB_refl 0 95 #[true, false, false, false, false, false, false, false, false, false, false, false, false, false, false, false, false, false, false, false] (by simp only [List.getElem?_toArray, List.getElem?_cons_zero]; rfl) (by rfl) (by kernel_rfl) (by kernel_rfl) (by kernel_rfl) (fun _ _ _ _ h => h) rfl (by rfl) ?_
            apply Exists.intro
            apply And.intro
            · intro W hW
              first | (go_simp; with_reducible rfl) | go_simp
            (try simp only [Act.put, List.setIfInBounds_toArray]); (try simp only [List.set_cons_succ]); (try simp only [List.set_cons_zero])
            refine r_flt RB_refl 1 96 #[true, true, false, false, false, false, false, false, false, false, false, false, false, false, false, false, false, false, false, false] (by simp only [List.getElem?_toArray, List.getElem?_cons_succ, List.getElem?_cons_zero]; rfl) (by rfl) (by kernel_rfl) (by kernel_rfl) (by kernel_rfl) (fun _ _ _ _ h => h) rfl (by rfl) ?_
            apply Exists.intro
            apply And.intro
            · intro W hW
              first | (go_simp; with_reducible rfl) | go_simp
            (try simp only [Act.put, List.setIfInBounds_toArray]); (try simp only [List.set_cons_succ]); (try simp only [List.set_cons_zero])
            refine r_flt RB_refl 2 97 #[true, true, true, false, false, false, false, false, false, false, false, false, false, false, false, false, false, false, false, false] (by simp only [List.getElem?_toArray, List.getElem?_cons_succ, List.getElem?_cons_zero]; rfl) (by rfl) (by kernel_rfl) (by kernel_rfl) (by kernel_rfl) (fun _ _ _ _ h => h) rfl (by rfl) ?_
            apply Exists.intro
            apply And.intro
            · intro W hW
              first | (go_simp; with_reducible rfl) | go_simp
            (try simp only [Act.put, List.setIfInBounds_toArray]); (try simp only [List.set_cons_succ]); (try simp only [List.set_cons_zero])
            refine r_flt RB_refl 3 98 #[true, true, true, true, false, false, false, false, false, false, false, false, false, false, false, false, false, false, false, false] (by simp only [List.getElem?_toArray, List.getElem?_cons_succ, List.getElem?_cons_zero]; rfl) (by rfl) (by kernel_rfl) (by kernel_rfl) (by kernel_rfl) (fun _ _ _ _ h => h) rfl (by rfl) ?_
            apply Exists.intro
            apply And.intro
            · intro W hW
              first | (go_simp; with_reducible rfl) | go_simp
            (try simp only [Act.put, List.setIfInBounds_toArray]); (try simp only [List.set_cons_succ]); (try simp only [List.set_cons_zero])
            refine r_flt RB_refl 4 99 #[true, true, true, true, true, false, false, false, false, false, false, false, false, false, false, false, false, false, false, false] (by simp only [List.getElem?_toArray, List.getElem?_cons_succ, List.getElem?_cons_zero]; rfl) (by rfl) (by kernel_rfl) (by kernel_rfl) (by kernel_rfl) (fun _ _ _ _ h => h) rfl (by rfl) ?_
            apply Exists.intro
            apply And.intro
            · intro W hW
              first | (go_simp; with_reducible rfl) | go_simp
            (try simp only [Act.put, List.setIfInBounds_toArray]); (try simp only [List.set_cons_succ]); (try simp only [List.set_cons_zero])
            refine r_flt RB_refl 5 100 #[true, true, true, true, true, true, false, false, false, false, false, false, false, false, false, false, false, false, false, false] (by simp only [List.getElem?_toArray, List.getElem?_cons_succ, List.getElem?_cons_zero]; rfl) (by rfl) (by kernel_rfl) (by kernel_rfl) (by kernel_rfl) (fun _ _ _ _ h => h) rfl (by rfl) ?_
            apply Exists.intro
            apply And.intro
            · intro W hW
              first | (go_simp; with_reducible rfl) | go_simp
            (try simp only [Act.put, List.setIfInBounds_toArray]); (try simp only [List.set_cons_succ]); (try simp only [List.set_cons_zero])
            refine r_flt RB_refl 6 101 #[true, true, true, true, true, true, true, false, false, false, false, false, false, false, false, false, false, false, false, false] (by simp only [List.getElem?_toArray, List.getElem?_cons_succ, List.getElem?_cons_zero]; rfl) (by rfl) (by kernel_rfl) (by kernel_rfl) (by kernel_rfl) (fun _ _ _ _ h => h) rfl (by rfl) ?_
            apply Exists.intro
            apply And.intro
            · intro W hW
              first | (go_simp; with_reducible rfl) | go_simp
            (try simp only [Act.put, List.setIfInBounds_toArray]); (try simp only [List.set_cons_succ]); (try simp only [List.set_cons_zero])
            refine r_flt RB_refl 7 102 #[true, true, true, true, true, true, true, true, false, false, false, false, false, false, false, false, false, false, false, false] (by simp only [List.getElem?_toArray, List.getElem?_cons_succ, List.getElem?_cons_zero]; rfl) (by rfl) (by kernel_rfl) (by kernel_rfl) (by kernel_rfl) (fun _ _ _ _ h => h) rfl (by rfl) ?_
            apply Exists.intro
            apply And.intro
            · intro W hW
              have hk2 : bits .and .i64 (IntKind.i64.wrap (kind + (j : Int))) 255 = (k : Int) := by rw [wrap_is]; exact hk
              go_simp; rfl
            (try simp only [Act.put, List.setIfInBounds_toArray]); (try simp only [List.set_cons_succ]); (try simp only [List.set_cons_zero])
            refine r_flt RB_refl 8 103 #[true, true, true, true, true, true, true, true, true, false, false, false, false, false, false, false, false, false, false, false] (by simp only [List.getElem?_toArray, List.getElem?_cons_succ, List.getElem?_cons_zero]; rfl) (by rfl) (by kernel_rfl) (by kernel_rfl) (by kernel_rfl) (fun _ _ _ _ h => h) rfl (by rfl) ?_
            apply Exists.intro
            apply And.intro
            · intro W hW
              first | (go_simp; with_reducible rfl) | go_simp
            (try simp only [Act.put, List.setIfInBounds_toArray]); (try simp only [List.set_cons_succ]); (try simp only [List.set_cons_zero])
            refine r_flt RB_refl 9 104 #[true, true, true, true, true, true, true, true, true, true, false, false, false, false, false, false, false, false, false, false] (by simp only [List.getElem?_toArray, List.getElem?_cons_succ, List.getElem?_cons_zero]; rfl) (by rfl) (by kernel_rfl) (by kernel_rfl) (by kernel_rfl) (fun _ _ _ _ h => h) rfl (by rfl) ?_
            apply Exists.intro
            apply And.intro
            · intro W hW
              first | (go_simp; with_reducible rfl) | go_simp
            (try simp only [Act.put, List.setIfInBounds_toArray]); (try simp only [List.set_cons_succ]); (try simp only [List.set_cons_zero])
            refine r_flt RB_refl 10 105 #[true, true, true, true, true, true, true, true, true, true, true, false, false, false, false, false, false, false, false, false] (by simp only [List.getElem?_toArray, List.getElem?_cons_succ, List.getElem?_cons_zero]; rfl) (by rfl) (by kernel_rfl) (by kernel_rfl) (by kernel_rfl) (fun _ _ _ _ h => h) rfl (by rfl) ?_
            apply Exists.intro
            apply And.intro
            · intro W hW
              first | (go_simp; with_reducible rfl) | go_simp
            (try simp only [Act.put, List.setIfInBounds_toArray]); (try simp only [List.set_cons_succ]); (try simp only [List.set_cons_zero])
            refine r_flt RB_refl 11 106 #[true, true, true, true, true, true, true, true, true, true, true, true, false, false, false, false, false, false, false, false] (by simp only [List.getElem?_toArray, List.getElem?_cons_succ, List.getElem?_cons_zero]; rfl) (by rfl) (by kernel_rfl) (by kernel_rfl) (by kernel_rfl) (fun _ _ _ _ h => h) rfl (by rfl) ?_
            apply Exists.intro
            apply And.intro
            · intro W hW
              first | (go_simp; with_reducible rfl) | go_simp
            (try simp only [Act.put, List.setIfInBounds_toArray]); (try simp only [List.set_cons_succ]); (try simp only [List.set_cons_zero])
            refine r_flt RB_refl 12 107 #[true, true, true, true, true, true, true, true, true, true, true, true, true, false, false, false, false, false, false, false] (by simp only [List.getElem?_toArray, List.getElem?_cons_succ, List.getElem?_cons_zero]; rfl) (by rfl) (by kernel_rfl) (by kernel_rfl) (by kernel_rfl) (fun _ _ _ _ h => h) rfl (by rfl) ?_
            apply Exists.intro
            apply And.intro
            · intro W hW
              have s := str_inB o1 e1.out hW
              go_simp; rfl
            (try simp only [Act.put, List.setIfInBounds_toArray]); (try simp only [List.set_cons_succ]); (try simp only [List.set_cons_zero])
            refine r_flt RB_refl 13 108 #[true, true, true, true, true, true, true, true, true, true, true, true, true, true, false, false, false, false, false, false] (by simp only [List.getElem?_toArray, List.getElem?_cons_succ, List.getElem?_cons_zero]; rfl) (by rfl) (by kernel_rfl) (by kernel_rfl) (by kernel_rfl) (fun _ _ _ _ h => h) rfl (by rfl) ?_
            apply Exists.intro
            apply And.intro
            · intro W hW
              first | (go_simp; with_reducible rfl) | go_simp
            (try simp only [Act.put, List.setIfInBounds_toArray]); (try simp only [List.set_cons_succ]); (try simp only [List.set_cons_zero])
            refine r_flt RB_refl 14 109 #[true, true, true, true, true, true, true, true, true, true, true, true, true, true, true, false, false, false, false, false] (by simp only [List.getElem?_toArray, List.getElem?_cons_succ, List.getElem?_cons_zero]; rfl) (by rfl) (by kernel_rfl) (by kernel_rfl) (by kernel_rfl) (fun _ _ _ _ h => h) rfl (by rfl) ?_
            apply Exists.intro
            apply And.intro
            · intro W hW
              first | (go_simp; with_reducible rfl) | go_simp
            (try simp only [Act.put, List.setIfInBounds_toArray]); (try simp only [List.set_cons_succ]); (try simp only [List.set_cons_zero])
            refine r_flt RB_refl 15 110 #[true, true, true, true, true, true, true, true, true, true, true, true, true, true, true, true, false, false, false, false] (by simp only [List.getElem?_toArray, List.getElem?_cons_succ, List.getElem?_cons_zero]; rfl) (by rfl) (by kernel_rfl) (by kernel_rfl) (by kernel_rfl) (fun _ _ _ _ h => h) rfl (by rfl) ?_
            apply Exists.intro
            apply And.intro
            · intro W hW
              go_simp; rfl
            (try simp only [Act.put, List.setIfInBounds_toArray]); (try simp only [List.set_cons_succ]); (try simp only [List.set_cons_zero])
            refine r_flt RB_refl 16 111 #[true, true, true, true, true, true, true, true, true, true, true, true, true, true, true, true, true, false, false, false] (by simp only [List.getElem?_toArray, List.getElem?_cons_succ, List.getElem?_cons_zero]; rfl) (by rfl) (by kernel_rfl) (by kernel_rfl) (by kernel_rfl) (fun _ _ _ _ h => h) rfl (by rfl) ?_
            apply Exists.intro
            apply And.intro
            · intro W hW
              have hcw := cell_below hcell hW
              go_simp; rfl
            (try simp only [Act.put, List.setIfInBounds_toArray]); (try simp only [List.set_cons_succ]); (try simp only [List.set_cons_zero])
            refine r_flt RB_refl 17 112 #[true, true, true, true, true, true, true, true, true, true, true, true, true, true, true, true, true, true, false, false] (by simp only [List.getElem?_toArray, List.getElem?_cons_succ, List.getElem?_cons_zero]; rfl) (by rfl) (by kernel_rfl) (by kernel_rfl) (by kernel_rfl) (fun _ _ _ _ h => h) rfl (by rfl) ?_
            apply Exists.intro
            apply And.intro
            · intro W hW
              have s := str_rd (c := cx) (RdB.below rj hW) rfl
              go_simp; rfl
            (try simp only [Act.put, List.setIfInBounds_toArray]); (try simp only [List.set_cons_succ]); (try simp only [List.set_cons_zero])
            refine r_flt RB_refl 18 113 #[true, true, true, true, true, true, true, true, true, true, true, true, true, true, true, true, true, true, true, false] (by simp only [List.getElem?_toArray, List.getElem?_cons_succ, List.getElem?_cons_zero]; rfl) (by rfl) (by kernel_rfl) (by kernel_rfl) (by kernel_rfl) (fun _ _ _ _ h => h) rfl (by rfl) ?_
            apply Exists.intro
            apply And.intro
            · intro W hW
              first | (go_simp; with_reducible rfl) | go_simp
            (try simp only [Act.put, List.setIfInBounds_toArray]); (try simp only [List.set_cons_succ]); (try simp only [List.set_cons_zero])
            refine r_flt RB_refl 19 114 #[true, true, true, true, true, true, true, true, true, true, true, true, true, true, true, true, true, true, true, true] (by simp only [List.getElem?_toArray, List.getElem?_cons_succ, List.getElem?_cons_zero]; rfl) (by rfl) (by kernel_rfl) (by kernel_rfl) (by kernel_rfl) (fun _ _ _ _ h => h) rfl (by rfl) ?_
            apply Exists.intro
            apply And.intro
            · intro W hW
              first | (go_simp; with_reducible rfl) | go_simp
            (try simp only [Act.put, List.setIfInBounds_toArray]); (try simp only [List.set_cons_succ]); (try simp only [List.set_cons_zero])
            refine r_done (by kernel_rfl) ?_
            go_wp2_with fail
            go_roundw
            case rel => exact ⟨j + 1, n2, A2, c2, by omega, by go_num, rfl, by rw [← HR.out]; exact e2, hc2, hm2, by rw [← HR.out]; exact hBl2, by rw [← HR.out]; exact r2, bb⟩
            case measure => simp [intOf] <;> omega
          · obtain rfl : j = L.length := by omega
            have HE : Hid (remO ks L.length (ls.drop L.length) behind = behind) := by unfold Hid; rw [← HLL.out, List.drop_length]; rfl
            rw [HE.out] at e8 r8
            have s1 := str_rd (c := cb) r8 e8.out
            have s2 := str_rd (c := d) rb1 rfl
            go_wp2_with fail
            go_ret
            exact ⟨rfl, bb⟩
end Go.Proofs.YtfgknbfghfgbjaaDoor
