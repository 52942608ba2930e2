/- The walk of MediumOrder. -/
import Derived.Test.YtodfejeifbhoeaaDoorMd7
namespace Go.Proofs.YtodfejeifbhoeaaDoor
open Go.RowKit
set_option linter.unusedVariables false

def pairsO (ks : Nat → Nat) : Nat → List (List UInt8) → List (Int × List UInt8)
  | _, [] => []
  | i, x :: r => ((ks i : Int), x) :: pairsO ks (i + 1) r
theorem pairs_len (ks : Nat → Nat) : ∀ (ls : List (List UInt8)) (i : Nat), (pairsO ks i ls).length = ls.length
  | [], _ => rfl
  | x :: r, i => by rw [pairsO, List.length_cons, pairs_len ks r]; rfl
theorem pairs_get (ks : Nat → Nat) : ∀ (ls : List (List UInt8)) (i j : Nat), (pairsO ks i ls)[j]? = (ls[j]?).map fun x => ((ks (i + j) : Int), x)
  | [], _, _ => by simp [pairsO]
  | x :: r, i, 0 => by simp [pairsO]
  | x :: r, i, j + 1 => by
    rw [pairsO, List.getElem?_cons_succ, pairs_get ks r, List.getElem?_cons_succ, show i + 1 + j = i + (j + 1) by omega]
theorem rem_len (ks : Nat → Nat) (behind : List UInt8) : ∀ (ls : List (List UInt8)) (i : Nat), 12 * ls.length ≤ (remO ks i ls behind).length
  | [], _ => Nat.zero_le _
  | x :: r, i => by
    have := rem_len ks behind r (i + 1)
    rw [remO, List.length_append, frameO_len, List.length_cons]; omega
theorem rec_rem (ks : Nat → Nat) (hk : ∀ i, ks i ≤ 255) (behind : List UInt8) (hb : behind.length ≤ 7) : ∀ (ls : List (List UInt8)) (i f : Nat), ls.length < f → (∀ x ∈ ls, x.length ≤ 500) → recN f (remO ks i ls behind) = pairsO ks i ls
  | [], i, f, hf, _ => by
    obtain ⟨f, rfl⟩ : ∃ f', f = f' + 1 := ⟨f - 1, by simp at hf; omega⟩
    rw [remO, recN, if_neg (by rw [next_short behind hb]; exact (by decide : ¬ (10 : Int) = 0))]; rfl
  | x :: r, i, f, hf, hx => by
    obtain ⟨f, rfl⟩ : ∃ f', f = f' + 1 := ⟨f - 1, by simp at hf; omega⟩
    have h1 := hx x (by simp)
    have hn := next_frame (ks i) x (remO ks (i + 1) r behind) (hk i) (by omega)
    rw [remO, recN, hn, if_pos rfl, pairsO, rec_rem ks hk behind hb r (i + 1) f (by simp at hf; omega) (fun y hy => hx y (by simp [hy]))]
theorem rec_all (ks : Nat → Nat) (hk : ∀ i, ks i ≤ 255) (ls : List (List UInt8)) (behind : List UInt8) (hb : behind.length ≤ 7) (hx : ∀ x ∈ ls, x.length ≤ 500) : recO (remO ks 0 ls behind) = pairsO ks 0 ls :=
  rec_rem ks hk behind hb ls 0 _ (by have := rem_len ks behind ls 0; omega) hx
theorem OwnI.rd' {w : World} {base n c : Nat} {A : Option Addr} {zs : List Int} (h : OwnI w base (.slice A n c) zs) : RdI w (fun b => base ≤ b ∧ b < w.heap.size) A zs := by
  obtain ⟨A', c', e, _, _⟩ := h.form
  injection e with e1 e2 e3
  subst e1; subst e2; subst e3
  exact Rd.imp h.rd (fun b _ hb => ⟨hb.1, hb.2.1⟩) (by decide)
def kb (i : Nat) : Nat := i % 2
theorem kb_le (i : Nat) : kb i ≤ 255 := by unfold kb; omega
theorem and1 (n : Nat) (h : n < 9223372036854775808) : bits .and .i64 (n : Int) 1 = (kb n : Int) := by
  show IntKind.i64.wrap (((BitVec.ofInt 64 (n : Int) &&& BitVec.ofInt 64 ((1 : Nat) : Int)).toNat : Nat) : Int) = _
  rw [BitVec.toNat_and, toNat64 n h, toNat64 1 (by decide), Nat.and_two_pow_sub_one_eq_mod n 1, IntKind.wrap_i64]
  unfold kb
  omega

set_option maxHeartbeats 8000000 in
set_option maxRecDepth 100000 in
theorem order_walk (w : World) (ht : Tab w) (A : Option Addr) (L : List BV) (c : Nat) (rl : RdL w (Old w) 1 rowCB A L) (l : L.length ≤ c) (mx : c ≤ 9223372036854775807) (nn : A = none → c = 0) (rs : ∀ s ∈ L, RdB w (Old w) s.A s.l ∧ s.l.length ≤ s.c ∧ s.c ≤ 9223372036854775807) :
    Calls Tryd.prog 6 #[.slice A L.length c] w fun e w' => e = .returned (.bool true) ∧ Below w.heap.size w w' := by
  have rs : ∀ s ∈ L, RdB w (Old w) s.A s.l := fun s hs => (rs s hs).1
  go_enter Tryd.func6, Tryd.ntmps6
  go_wp2_with fail
  refine (awake_any w ht).mono ?_
  rintro e w1 ⟨rfl, b1⟩
  by_cases h30 : 30 < L.length
  · go_wp2_with fail
    go_ret
    exact ⟨rfl, b1⟩
  · obtain ⟨ls, hls⟩ : ∃ ls, ls = L.map (·.l) := ⟨_, rfl⟩
    have HLL : Hid (ls.length = L.length) := by unfold Hid; rw [hls, List.length_map]
    have HG : Hid (∀ j, (hj : j < L.length) → ls.getD j [] = L[j].l) := fun j hj => by rw [hls, List.getD_eq_getElem?_getD, List.getElem?_map, List.getElem?_eq_getElem hj]; rfl
    have HG2 : Hid (∀ j, (hj : j < L.length) → ls[j]? = some L[j].l) := fun j hj => by rw [hls, List.getElem?_map, List.getElem?_eq_getElem hj]; rfl
    clear hls
    go_wp2_with fail
    refine (New_any 1048576 w1).mono ?_
    rintro e w2 ⟨rfl, m2, b2⟩
    obtain ⟨g, hg⟩ : ∃ g, g = w1.heap.size := ⟨_, rfl⟩
    rw [← hg] at m2
    rw [← hg]
    have m2 : Med w2 w.heap.size g (.slice none 0 0) (newS 1048576) := Med.low m2 (by have := b1.size; omega)
    have bb := b1.thenB' b2
    clear hg b2
    go_wp2_with fail
    go_loopw [5, 6] (fun us i wr => ∃ (j : Nat) (s : MS) (v : Value), j ≤ L.length ∧ i = .int .i64 (j : Int) ∧ us = .int .i64 (s.b.length : Int) ∧ s.room = 1048576 ∧ s.up = true ∧ s.cut = none ∧ Hid (s.b = catO kb ls j) ∧ Hid (∀ t, t < j → (ls.getD t []).length ≤ 500) ∧ Med wr w.heap.size g v s ∧ Below w.heap.size w wr) (fun _ i _ => L.length - (intOf i).toNat)
    case atStart => exact ⟨0, newS 1048576, _, Nat.zero_le _, rfl, rfl, by decide, rfl, rfl, Lib.hid rfl, Lib.hid fun t ht => by omega, m2, bb⟩
    case round =>
      clear m2 bb
      obtain ⟨j, s, v, hj, rfl, rfl, hroom, hup, hcut, HB, H5, hm, bb⟩ := hrel
      have hsl : s.b.length ≤ 512 * j := by rw [HB.out]; exact cat_bd kb ls j H5.out
      by_cases hlt : j < L.length
      · obtain ⟨ad, rfl, hcell⟩ := (rl.belowB bb (fun _ h => h)).bv hlt
        have rj := Rd.belowB (rs L[j] (List.getElem_mem hlt)) bb (fun _ h => h)
        have HC : Hid (∀ W, Below w.heap.size w W → W.cell? (ad.add j) = some (.slice L[j].A L[j].l.length L[j].c)) := fun W hW => by
          obtain ⟨ad', e0, h⟩ := (rl.belowB hW (fun _ h => h)).bv hlt
          injection e0 with e0
          subst e0
          exact h
        have hgj := HG.out j hlt
        have hcat : Hid (catO kb ls (j + 1) = catO kb ls j ++ frameO (kb j) L[j].l) := by unfold Hid; rw [catO, hgj]
        have H5' : Hid (L[j].l.length ≤ 500 → ∀ t, t < j + 1 → (ls.getD t []).length ≤ 500) := fun h t ht => by
          rcases Nat.lt_or_ge t j with h1 | h1
          · exact H5.out t h1
          · obtain rfl : t = j := by omega
            rw [hgj]; exact h
        clear hgj
        generalize L[j].l = x at *
        generalize L[j].A = Ax at *
        generalize L[j].c = cx at *
        by_cases h300 : 300 < x.length
        · go_wp2_with fail
          go_ret
          exact ⟨rfl, bb⟩
        · have hk := and1 j (by omega)
          have a2 := (app_two s (kb j) x (kb_le j) (by omega) hup hcut).2 (by rw [hroom]; omega)
          have ha := Append_any w.heap.size g v s _ Ax cx (kb j : Int) x wr hm bb.size rj (by omega) (by omega) (ht.below bb)
          rw [a2] at ha
          have hFl := frameO_len (kb j) x
          obtain ⟨s2, hs2⟩ : ∃ s2 : MS, s2 = { s with b := s.b ++ frameO (kb j) x } := ⟨_, rfl⟩
          have hb2i : (s.b.length : Int) + ((x.length : Int) + 12) = (s2.b.length : Int) := by rw [hs2]; simp [hFl]
          have HS : Hid (s2.room = 1048576 ∧ s2.up = true ∧ s2.cut = none ∧ s2.b = catO kb ls (j + 1)) := by unfold Hid; rw [hs2]; exact ⟨hroom, hup, hcut, by rw [hcat.out, ← HB.out]⟩
          have H5'' := Lib.hid (H5'.out (by omega))
          rw [← hs2] at ha
          clear a2 hroom hup hcut hs2 hFl
          generalize kb j = k at *
          go_wp2_with fail
          refine ha.mono ?_
          clear ha
          rintro e w3 ⟨v3, rfl, m3, x3, _⟩
          have bb := bb.trans (hm.bel x3 bb.size)
          have hcell := HC.out w3 bb
          go_wp2_with fail
          go_roundw
          case rel => exact ⟨j + 1, s2, v3, by omega, by go_num, rfl, HS.out.1, HS.out.2.1, HS.out.2.2.1, Lib.hid HS.out.2.2.2, H5'', m3, bb⟩
          case measure => simp [intOf] <;> omega
      · obtain rfl : j = L.length := by omega
        have HR : Hid (recO s.b = pairsO kb 0 ls) := by
          unfold Hid
          have hc := cat_all kb ls []
          rw [HLL.out, List.append_nil, ← HB.out] at hc
          rw [hc]
          exact rec_all kb kb_le ls [] (by simp) fun x hx => by
            obtain ⟨t, ht, rfl⟩ := List.getElem_of_mem hx
            have := H5.out t (by rw [← HLL.out]; exact ht)
            rw [List.getD_eq_getElem?_getD, List.getElem?_eq_getElem ht] at this
            exact this
        have HPL : Hid ((pairsO kb 0 ls).length = L.length) := by unfold Hid; rw [pairs_len, HLL.out]
        have HPG : Hid (∀ t, (ht : t < L.length) → (pairsO kb 0 ls)[t]? = some ((kb t : Int), L[t].l)) := fun t ht => by rw [pairs_get, HG2.out t ht, Nat.zero_add]; rfl
        clear hroom hup hcut
        go_wp2_with fail
        refine (Crash_any w.heap.size g v s wr hm).mono ?_
        rintro e w3 ⟨rfl, m3, x3⟩
        have bb := bb.trans (hm.bel x3 bb.size)
        go_wp2_with fail
        refine (Records_any w.heap.size g v s.crash w3 m3 (by show s.b.length ≤ _; omega) (ht.below bb)).mono ?_
        rintro e w4 ⟨v4, v5, LB, rfl, o4, o5, hLB, hrows, b4⟩
        have hLB : LB.map (·.l) = (recO s.b).map (·.2) := hLB
        have o4 : OwnI w4 w3.heap.size v4 ((recO s.b).map (·.1)) := o4
        rw [HR.out] at o4 hLB
        have bb := bb.thenB' b4
        have m4 := m3.below b4
        have hll : LB.length = L.length := by have := congrArg List.length hLB; simpa [HPL.out] using this
        obtain ⟨A4, n4, c4, rfl, e4⟩ : ∃ A n c, v4 = .slice A n c ∧ Hid (n = L.length) := by
          obtain ⟨A, c, e, _, _⟩ := own_form o4
          exact ⟨A, _, c, e, Lib.hid (by rw [List.length_map, HPL.out])⟩
        obtain ⟨A5, n5, c5, rfl, e5⟩ := o5.form
        obtain rfl : n4 = L.length := e4.out
        obtain rfl : n5 = L.length := e5.out.trans hll
        have r4 := OwnI.rd' o4
        have HV : Hid (∀ t, (h : t < ((pairsO kb 0 ls).map (·.1)).length) → ((pairsO kb 0 ls).map (·.1))[t] = (kb t : Int)) := fun t h => by
          have hl : t < L.length := by rw [List.length_map, HPL.out] at h; exact h
          have h1 := HPG.out t hl
          have h2 : ((pairsO kb 0 ls).map (·.1))[t]? = some (kb t : Int) := by rw [List.getElem?_map, h1]; rfl
          rw [List.getElem?_eq_getElem h] at h2
          injection h2
        have HW : Hid (∀ t, (h : t < LB.length) → (h2 : t < L.length) → LB[t].l = L[t].l) := fun t h h2 => by
          have h1 := HPG.out t h2
          have h3 := congrArg (fun q => q[t]?) hLB
          simp only [List.getElem?_map, List.getElem?_eq_getElem h, h1, Option.map_some] at h3
          injection h3
        have HLL2 := Lib.hid hll
        have hln := Len_any w.heap.size g v s.crash w4 m4
        have hln : Calls Tryd.prog 19 #[.pointer (some ⟨g, 0, none⟩)] w4 fun e w' => e = .returned (.int .i64 (s.b.length : Int)) ∧ w4 = w' := hln
        clear hll hLB
        go_wp2_with fail
        refine hln.mono ?_
        clear hln
        rintro e w5 ⟨rfl, rfl⟩
        go_wp2_with fail
        go_loopw [9] (fun i wr => ∃ j : Nat, j ≤ L.length ∧ i = .int .i64 (j : Int) ∧ Below w4.heap.size w4 wr) (fun i _ => L.length - (intOf i).toNat)
        case atStart => exact ⟨0, Nat.zero_le _, rfl, Below.refl _ _⟩
        case round =>
          obtain ⟨j, hj, rfl, b5⟩ := hrel
          by_cases hlt : j < L.length
          · have bw := bb.thenB' b5
            obtain ⟨ad, rfl, hcell⟩ := (rl.belowB bw (fun _ h => h)).bv hlt
            have rj := Rd.belowB (rs L[j] (List.getElem_mem hlt)) bw (fun _ h => h)
            have hjl : j < ((pairsO kb 0 ls).map (·.1)).length := by rw [List.length_map, HPL.out]; exact hlt
            obtain ⟨ad4, rfl, _, hk4⟩ := (RdI.below r4 b5).at_ hjl
            rw [HV.out j hjl] at hk4
            have hjb : j < LB.length := by rw [HLL2.out]; exact hlt
            have o5' : OwnS _ w3.heap.size (.slice A5 L.length c5) (LB.map cS) := own_below o5 b5
            obtain ⟨ad5, rfl, hk5⟩ := o5'.at_ hjb
            have hrow := Rd.below (hrows LB[j] (List.getElem_mem hjb)) b5
            unfold cS at hk5
            rw [HW.out j hjb hlt] at hk5 hrow
            generalize LB[j].A = Ay at *
            generalize LB[j].c = cy at *
            generalize L[j].l = x at *
            generalize L[j].A = Ax at *
            generalize L[j].c = cx at *
            have hk := and1 j (by omega)
            have hjb2 : (j : Int) < (L.length : Int) := by omega
            generalize kb j = k at *
            clear hjl hjb
            go_wp2_with fail
            refine r_start (R := RB) (by rfl) (n := 20) (L := #[false, false, false, false, false, false, false, false, false, false, false, false, false, false, false, false, false, false, false, false]) rfl rfl ?_
            have bd : Below wr.heap.size wr wr.drew := (Below.refl _ _).drew
            have hcell := cell_below hcell bd
            have hk4 := cell_below hk4 bd
            have hk5 := cell_below hk5 bd
            have rj := Rd.below rj bd
            have hrow := Rd.below hrow bd
            have b5 := b5.thenB' bd
            generalize wr.drew = wd1 at *
            clear bd
            refine r_flt RB_refl 0 77 #[true, false, false, false, false, false, false, false, false, false, false, false, false, false, false, false, false, false, false, false] (by simp only [List.getElem?_toArray, List.getElem?_cons_zero]; rfl) (by rfl) (by kernel_rfl) (by kernel_rfl) (by kernel_rfl) (fun _ _ _ _ h => h) rfl (by rfl) ?_
            apply Exists.intro
            apply And.intro
            · intro W hW
              first | (go_simp; with_reducible rfl) | go_simp
            (try simp only [Act.put, List.setIfInBounds_toArray]); (try simp only [List.set_cons_succ]); (try simp only [List.set_cons_zero])
            refine r_flt RB_refl 1 78 #[true, true, false, false, false, false, false, false, false, false, false, false, false, false, false, false, false, false, false, false] (by simp only [List.getElem?_toArray, List.getElem?_cons_succ, List.getElem?_cons_zero]; rfl) (by rfl) (by kernel_rfl) (by kernel_rfl) (by kernel_rfl) (fun _ _ _ _ h => h) rfl (by rfl) ?_
            apply Exists.intro
            apply And.intro
            · intro W hW
              first | (go_simp; with_reducible rfl) | go_simp
            (try simp only [Act.put, List.setIfInBounds_toArray]); (try simp only [List.set_cons_succ]); (try simp only [List.set_cons_zero])
            refine r_flt RB_refl 2 79 #[true, true, true, false, false, false, false, false, false, false, false, false, false, false, false, false, false, false, false, false] (by simp only [List.getElem?_toArray, List.getElem?_cons_succ, List.getElem?_cons_zero]; rfl) (by rfl) (by kernel_rfl) (by kernel_rfl) (by kernel_rfl) (fun _ _ _ _ h => h) rfl (by rfl) ?_
            apply Exists.intro
            apply And.intro
            · intro W hW
              go_simp; rfl
            (try simp only [Act.put, List.setIfInBounds_toArray]); (try simp only [List.set_cons_succ]); (try simp only [List.set_cons_zero])
            refine r_flt RB_refl 3 80 #[true, true, true, true, false, false, false, false, false, false, false, false, false, false, false, false, false, false, false, false] (by simp only [List.getElem?_toArray, List.getElem?_cons_succ, List.getElem?_cons_zero]; rfl) (by rfl) (by kernel_rfl) (by kernel_rfl) (by kernel_rfl) (fun _ _ _ _ h => h) rfl (by rfl) ?_
            apply Exists.intro
            apply And.intro
            · intro W hW
              have q := cell_below hk4 hW
              go_simp; rfl
            (try simp only [Act.put, List.setIfInBounds_toArray]); (try simp only [List.set_cons_succ]); (try simp only [List.set_cons_zero])
            refine r_flt RB_refl 4 81 #[true, true, true, true, true, false, false, false, false, false, false, false, false, false, false, false, false, false, false, false] (by simp only [List.getElem?_toArray, List.getElem?_cons_succ, List.getElem?_cons_zero]; rfl) (by rfl) (by kernel_rfl) (by kernel_rfl) (by kernel_rfl) (fun _ _ _ _ h => h) rfl (by rfl) ?_
            apply Exists.intro
            apply And.intro
            · intro W hW
              first | (go_simp; with_reducible rfl) | go_simp
            (try simp only [Act.put, List.setIfInBounds_toArray]); (try simp only [List.set_cons_succ]); (try simp only [List.set_cons_zero])
            refine r_flt RB_refl 5 82 #[true, true, true, true, true, true, false, false, false, false, false, false, false, false, false, false, false, false, false, false] (by simp only [List.getElem?_toArray, List.getElem?_cons_succ, List.getElem?_cons_zero]; rfl) (by rfl) (by kernel_rfl) (by kernel_rfl) (by kernel_rfl) (fun _ _ _ _ h => h) rfl (by rfl) ?_
            apply Exists.intro
            apply And.intro
            · intro W hW
              first | (go_simp; with_reducible rfl) | go_simp
            (try simp only [Act.put, List.setIfInBounds_toArray]); (try simp only [List.set_cons_succ]); (try simp only [List.set_cons_zero])
            refine r_flt RB_refl 6 83 #[true, true, true, true, true, true, true, false, false, false, false, false, false, false, false, false, false, false, false, false] (by simp only [List.getElem?_toArray, List.getElem?_cons_succ, List.getElem?_cons_zero]; rfl) (by rfl) (by kernel_rfl) (by kernel_rfl) (by kernel_rfl) (fun _ _ _ _ h => h) rfl (by rfl) ?_
            apply Exists.intro
            apply And.intro
            · intro W hW
              first | (go_simp; with_reducible rfl) | go_simp
            (try simp only [Act.put, List.setIfInBounds_toArray]); (try simp only [List.set_cons_succ]); (try simp only [List.set_cons_zero])
            refine r_flt RB_refl 7 84 #[true, true, true, true, true, true, true, true, false, false, false, false, false, false, false, false, false, false, false, false] (by simp only [List.getElem?_toArray, List.getElem?_cons_succ, List.getElem?_cons_zero]; rfl) (by rfl) (by kernel_rfl) (by kernel_rfl) (by kernel_rfl) (fun _ _ _ _ h => h) rfl (by rfl) ?_
            apply Exists.intro
            apply And.intro
            · intro W hW
              first | (go_simp; with_reducible rfl) | go_simp
            (try simp only [Act.put, List.setIfInBounds_toArray]); (try simp only [List.set_cons_succ]); (try simp only [List.set_cons_zero])
            refine r_flt RB_refl 8 85 #[true, true, true, true, true, true, true, true, true, false, false, false, false, false, false, false, false, false, false, false] (by simp only [List.getElem?_toArray, List.getElem?_cons_succ, List.getElem?_cons_zero]; rfl) (by rfl) (by kernel_rfl) (by kernel_rfl) (by kernel_rfl) (fun _ _ _ _ h => h) rfl (by rfl) ?_
            apply Exists.intro
            apply And.intro
            · intro W hW
              first | (go_simp; with_reducible rfl) | go_simp
            (try simp only [Act.put, List.setIfInBounds_toArray]); (try simp only [List.set_cons_succ]); (try simp only [List.set_cons_zero])
            refine r_flt RB_refl 9 86 #[true, true, true, true, true, true, true, true, true, true, false, false, false, false, false, false, false, false, false, false] (by simp only [List.getElem?_toArray, List.getElem?_cons_succ, List.getElem?_cons_zero]; rfl) (by rfl) (by kernel_rfl) (by kernel_rfl) (by kernel_rfl) (fun _ _ _ _ h => h) rfl (by rfl) ?_
            apply Exists.intro
            apply And.intro
            · intro W hW
              first | (go_simp; with_reducible rfl) | go_simp
            (try simp only [Act.put, List.setIfInBounds_toArray]); (try simp only [List.set_cons_succ]); (try simp only [List.set_cons_zero])
            refine r_flt RB_refl 10 87 #[true, true, true, true, true, true, true, true, true, true, true, false, false, false, false, false, false, false, false, false] (by simp only [List.getElem?_toArray, List.getElem?_cons_succ, List.getElem?_cons_zero]; rfl) (by rfl) (by kernel_rfl) (by kernel_rfl) (by kernel_rfl) (fun _ _ _ _ h => h) rfl (by rfl) ?_
            apply Exists.intro
            apply And.intro
            · intro W hW
              go_simp; rfl
            (try simp only [Act.put, List.setIfInBounds_toArray]); (try simp only [List.set_cons_succ]); (try simp only [List.set_cons_zero])
            refine r_flt RB_refl 11 88 #[true, true, true, true, true, true, true, true, true, true, true, true, false, false, false, false, false, false, false, false] (by simp only [List.getElem?_toArray, List.getElem?_cons_succ, List.getElem?_cons_zero]; rfl) (by rfl) (by kernel_rfl) (by kernel_rfl) (by kernel_rfl) (fun _ _ _ _ h => h) rfl (by rfl) ?_
            apply Exists.intro
            apply And.intro
            · intro W hW
              have q := cell_below hk5 hW
              go_simp; rfl
            (try simp only [Act.put, List.setIfInBounds_toArray]); (try simp only [List.set_cons_succ]); (try simp only [List.set_cons_zero])
            refine r_flt RB_refl 12 89 #[true, true, true, true, true, true, true, true, true, true, true, true, true, false, false, false, false, false, false, false] (by simp only [List.getElem?_toArray, List.getElem?_cons_succ, List.getElem?_cons_zero]; rfl) (by rfl) (by kernel_rfl) (by kernel_rfl) (by kernel_rfl) (fun _ _ _ _ h => h) rfl (by rfl) ?_
            apply Exists.intro
            apply And.intro
            · intro W hW
              have q := str_rd (c := cy) (Rd.below hrow hW) rfl
              go_simp; rfl
            (try simp only [Act.put, List.setIfInBounds_toArray]); (try simp only [List.set_cons_succ]); (try simp only [List.set_cons_zero])
            refine r_flt RB_refl 13 90 #[true, true, true, true, true, true, true, true, true, true, true, true, true, true, false, false, false, false, false, false] (by simp only [List.getElem?_toArray, List.getElem?_cons_succ, List.getElem?_cons_zero]; rfl) (by rfl) (by kernel_rfl) (by kernel_rfl) (by kernel_rfl) (fun _ _ _ _ h => h) rfl (by rfl) ?_
            apply Exists.intro
            apply And.intro
            · intro W hW
              first | (go_simp; with_reducible rfl) | go_simp
            (try simp only [Act.put, List.setIfInBounds_toArray]); (try simp only [List.set_cons_succ]); (try simp only [List.set_cons_zero])
            refine r_flt RB_refl 14 91 #[true, true, true, true, true, true, true, true, true, true, true, true, true, true, true, false, false, false, false, false] (by simp only [List.getElem?_toArray, List.getElem?_cons_succ, List.getElem?_cons_zero]; rfl) (by rfl) (by kernel_rfl) (by kernel_rfl) (by kernel_rfl) (fun _ _ _ _ h => h) rfl (by rfl) ?_
            apply Exists.intro
            apply And.intro
            · intro W hW
              first | (go_simp; with_reducible rfl) | go_simp
            (try simp only [Act.put, List.setIfInBounds_toArray]); (try simp only [List.set_cons_succ]); (try simp only [List.set_cons_zero])
            refine r_flt RB_refl 15 92 #[true, true, true, true, true, true, true, true, true, true, true, true, true, true, true, true, false, false, false, false] (by simp only [List.getElem?_toArray, List.getElem?_cons_succ, List.getElem?_cons_zero]; rfl) (by rfl) (by kernel_rfl) (by kernel_rfl) (by kernel_rfl) (fun _ _ _ _ h => h) rfl (by rfl) ?_
            apply Exists.intro
            apply And.intro
            · intro W hW
              go_simp; rfl
            (try simp only [Act.put, List.setIfInBounds_toArray]); (try simp only [List.set_cons_succ]); (try simp only [List.set_cons_zero])
            refine r_flt RB_refl 16 93 #[true, true, true, true, true, true, true, true, true, true, true, true, true, true, true, true, true, false, false, false] (by simp only [List.getElem?_toArray, List.getElem?_cons_succ, List.getElem?_cons_zero]; rfl) (by rfl) (by kernel_rfl) (by kernel_rfl) (by kernel_rfl) (fun _ _ _ _ h => h) rfl (by rfl) ?_
            apply Exists.intro
            apply And.intro
            · intro W hW
              have q := cell_below hcell hW
              go_simp; rfl
            (try simp only [Act.put, List.setIfInBounds_toArray]); (try simp only [List.set_cons_succ]); (try simp only [List.set_cons_zero])
            refine r_flt RB_refl 17 94 #[true, true, true, true, true, true, true, true, true, true, true, true, true, true, true, true, true, true, false, false] (by simp only [List.getElem?_toArray, List.getElem?_cons_succ, List.getElem?_cons_zero]; rfl) (by rfl) (by kernel_rfl) (by kernel_rfl) (by kernel_rfl) (fun _ _ _ _ h => h) rfl (by rfl) ?_
            apply Exists.intro
            apply And.intro
            · intro W hW
              have q := str_rd (c := cx) (Rd.below rj hW) rfl
              go_simp; rfl
            (try simp only [Act.put, List.setIfInBounds_toArray]); (try simp only [List.set_cons_succ]); (try simp only [List.set_cons_zero])
            refine r_flt RB_refl 18 95 #[true, true, true, true, true, true, true, true, true, true, true, true, true, true, true, true, true, true, true, false] (by simp only [List.getElem?_toArray, List.getElem?_cons_succ, List.getElem?_cons_zero]; rfl) (by rfl) (by kernel_rfl) (by kernel_rfl) (by kernel_rfl) (fun _ _ _ _ h => h) rfl (by rfl) ?_
            apply Exists.intro
            apply And.intro
            · intro W hW
              first | (go_simp; with_reducible rfl) | go_simp
            (try simp only [Act.put, List.setIfInBounds_toArray]); (try simp only [List.set_cons_succ]); (try simp only [List.set_cons_zero])
            refine r_flt RB_refl 19 96 #[true, true, true, true, true, true, true, true, true, true, true, true, true, true, true, true, true, true, true, true] (by simp only [List.getElem?_toArray, List.getElem?_cons_succ, List.getElem?_cons_zero]; rfl) (by rfl) (by kernel_rfl) (by kernel_rfl) (by kernel_rfl) (fun _ _ _ _ h => h) rfl (by rfl) ?_
            apply Exists.intro
            apply And.intro
            · intro W hW
              first | (go_simp; with_reducible rfl) | go_simp
            (try simp only [Act.put, List.setIfInBounds_toArray]); (try simp only [List.set_cons_succ]); (try simp only [List.set_cons_zero])
            refine r_done (by kernel_rfl) ?_
            go_wp2_with fail
            go_roundw
            case rel => exact ⟨j + 1, by omega, by go_num, b5⟩
            case measure => simp [intOf] <;> omega
          · go_wp2_with fail
            go_ret
            exact ⟨rfl, bb.thenB' b5⟩
end Go.Proofs.YtodfejeifbhoeaaDoor
