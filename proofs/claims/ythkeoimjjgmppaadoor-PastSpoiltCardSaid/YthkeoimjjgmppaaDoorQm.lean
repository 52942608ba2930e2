/- Parts of the proof, joined: AbS PsA PsB PsC. -/
import Derived.Test.YthkeoimjjgmppaaDoorQl
import Derived.Test.YthkeoimjjgmppaaDoorQg
import Derived.Test.YthkeoimjjgmppaaDoorQi
/- Where two differ: the code. -/
namespace Go.Proofs.YthkeoimjjgmppaaDoor
open Go.RowKit
set_option linter.unusedVariables false
set_option maxRecDepth 100000

/-- Two rows of n noughts, apart. -/
def TwoZ (w : World) (n : Nat) (x y : Value) (w' : World) : Prop := OwnB w' w.heap.size x (List.replicate n 0) ∧ OwnB w' w.heap.size y (List.replicate n 0) ∧ (∀ b, x.ownBlock = some b → y.ownBlock ≠ some b) ∧ (∃ X, x = .slice X n n) ∧ (∃ Y, y = .slice Y n n) ∧ Below w.heap.size w w'
theorem sizeO_at (d : List UInt8) (n k : Nat) (h : k < n) : (sizeO d n)[k]'(by rw [sizeO_len]; exact h) = atO d k := by
  unfold sizeO atO
  rw [List.getElem_append, List.getD_eq_getElem?_getD]
  by_cases h1 : k < d.length
  · rw [dif_pos (by rw [List.length_take]; omega), List.getElem_take, List.getElem?_eq_getElem h1]; rfl
  · rw [dif_neg (by rw [List.length_take]; omega), List.getElem_replicate, List.getElem?_eq_none (by omega)]; rfl
theorem atO_out (d : List UInt8) (k : Nat) (h : d.length ≤ k) : atO d k = 0 := by
  unfold atO
  rw [List.getD_eq_getElem?_getD, List.getElem?_eq_none h]; rfl
theorem diff_step (a b : List UInt8) (k : Nat) (L : List Sp) (hk : k < 512) (h : ∀ m : Int, hasS L m = (decide (m < (k : Int)) && diffF a b m)) :
    (diffF a b (k : Int) = true → ∀ m : Int, hasS (L ++ [((k : Int), (k : Int) + 1)]) m = (decide (m < (k : Int) + 1) && diffF a b m)) ∧
    (diffF a b (k : Int) = false → ∀ m : Int, hasS L m = (decide (m < (k : Int) + 1) && diffF a b m)) := by
  constructor
  · intro hd m
    rw [has_append, has_single _ ⟨by omega, by unfold farS; show (k : Int) + 1 ≤ _; omega⟩, h]
    by_cases hm : m = (k : Int)
    · subst hm
      rw [hd]
      simp
    · have e1 : decide ((k : Int) ≤ m ∧ m < (k : Int) + 1) = false := decide_eq_false (by omega)
      rw [show (((k : Int), (k : Int) + 1) : Sp).1 = (k : Int) from rfl, show (((k : Int), (k : Int) + 1) : Sp).2 = (k : Int) + 1 from rfl, e1, Bool.or_false]
      by_cases h2 : m < (k : Int)
      · rw [decide_eq_true h2, decide_eq_true (show m < (k : Int) + 1 by omega)]
      · rw [decide_eq_false h2, decide_eq_false (show ¬ m < (k : Int) + 1 by omega)]
  · intro hd m
    rw [h]
    by_cases hm : m = (k : Int)
    · subst hm
      rw [hd, Bool.and_false, Bool.and_false]
    · by_cases h2 : m < (k : Int)
      · rw [decide_eq_true h2, decide_eq_true (show m < (k : Int) + 1 by omega)]
      · rw [decide_eq_false h2, decide_eq_false (show ¬ m < (k : Int) + 1 by omega)]
theorem diff_end (a b : List UInt8) (n : Nat) (L : List Sp) (ha : a.length ≤ n) (hb : b.length ≤ n) (h : ∀ m : Int, hasS L m = (decide (m < (n : Int)) && diffF a b m)) (m : Int) : hasS L m = diffF a b m := by
  rw [h]
  by_cases h2 : m < (n : Int)
  · rw [decide_eq_true h2, Bool.true_and]
  · rw [decide_eq_false h2, Bool.false_and]
    unfold diffF
    rw [atO_out a _ (by omega), atO_out b _ (by omega)]
    simp
theorem cB_bne (x y : UInt8) : (((x.toNat : Int)) != ((y.toNat : Int))) = (x != y) := by unfold bne; rw [cB_beq]

set_option maxHeartbeats 8000000 in
theorem Differ_any (D : Nat → Prop) (i : ImV) (fr tt : Int) (w : World) (hr : ImR w D i) :
    Calls Tryd.prog 63 #[.agg (imA i), .int .i64 fr, .int .i64 tt] w (Differs w i.p fr tt) := by
  have bb := below_new w (.cells (imA i) 35)
  have hB := Blk.new w 35 (imA i)
  have has := fun W (b : Below w.heap.size w W) snap => as_any D i snap W (hr.below b)
  have hE : diffE i.p fr tt = if asE i.p fr ≠ 0 then asE i.p fr else asE i.p tt := rfl
  have hR : diffR i.p fr tt = diffF (asD i.p fr) (asD i.p tt) := rfl
  have hla := asD_len (p := i.p) fr
  have hlb := asD_len (p := i.p) tt
  have hasa := fun W b => has W b fr
  have hasb := fun W b => has W b tt
  unfold imA at *
  generalize hw0 : w.alloc (.cells #[.slice i.DA i.d.length i.dc, .slice i.CA i.S.length i.cc, .int .i64 i.last] 35) = w0 at *
  have hasa := hasa w0 bb
  clear has
  generalize asE i.p fr = e1 at *
  generalize asE i.p tt = e2 at *
  generalize asD i.p fr = a at *
  generalize asD i.p tt = b at *
  go_enter Tryd.func63, Tryd.ntmps63
  go_wp2_with first
    | (with_reducible show wpList _ _ _ _ _ _
       refine wpList_load_row rfl 35 (.tmp 3) rfl w.heap.size rfl 35 _ (0, 0) _ hB Tryd.underlying35 rfl infoIm ?_)
  refine hasa.mono ?_
  clear hasa hw0
  rintro e w3 ⟨A1, c1, rfl, ra, la, ma, b3⟩
  replace hB := hB.below b3
  replace bb := bb.thenB' b3
  clear b3
  by_cases h1 : e1 = 0
  rotate_left
  focus
    rw [if_pos h1] at hE
    have E := Lib.hid hE
    have h1' := h1
    clear hE hR hasb
    have g1 : (e1 != 0) = true := by simp [h1]
    go_wp2_with fail
    (try simp only [Exit.inBlock, Exit.then])
    refine bodyPost_ret (results_tmp2 rfl _ _ _) rfl ?_
    exact differs_nil E.out h1' bb
  subst h1
  rw [if_neg (by decide)] at hE
  have hasb := hasb w3 bb
  go_wp2_with first
    | (with_reducible show wpList _ _ _ _ _ _
       refine wpList_load_row rfl 35 (.tmp 3) rfl w.heap.size rfl 35 _ (0, 0) _ hB Tryd.underlying35 rfl infoIm ?_)
  refine hasb.mono ?_
  clear hasb
  rintro e w4 ⟨A2, c2, rfl, rb, lb, mb, b4⟩
  replace bb := bb.thenB' b4
  have ra := ra.below b4
  clear b4 hB
  by_cases h1 : e2 = 0
  rotate_left
  focus
    have E := Lib.hid hE
    have h1' := h1
    clear hE hR
    have g1 : (e2 != 0) = true := by simp [h1]
    go_wp2_with fail
    (try simp only [Exit.inBlock, Exit.then])
    refine bodyPost_ret (results_tmp2 rfl _ _ _) rfl ?_
    exact differs_nil E.out h1' bb
  subst h1
  have E := Lib.hid hE
  have HR := Lib.hid hR
  clear hE hR
  obtain ⟨n, hn⟩ : ∃ n : Nat, (n : Int) = max (a.length : Int) (b.length : Int) := ⟨max a.length b.length, by omega⟩
  have hna : a.length ≤ n := by omega
  have hnb : b.length ≤ n := by omega
  have hn5 : n ≤ 512 := by omega
  have hn' := hn.symm
  clear hn
  go_upto_region 8 with fail
  go_cut [12, 13] from 39 to 42 (fun x y wx => TwoZ w4 n x y wx)
  case first =>
    go_wp2_with fail
    refine r_start (R := RT) (by rfl) (n := 6) (L := #[false, false, false, false, false, false]) rfl rfl ?_
    have bd : Below w4.heap.size w4 w4.drew := (Below.refl _ _).drew
    generalize w4.drew = wd at *
    obtain ⟨wa, hmka, oa, ba⟩ := run_makeB wd n (by omega)
    obtain ⟨wb, hmkb, ob, bb'⟩ := run_makeB wa n (by omega)
    have hsd := bd.size
    have hsa := (World.ownsRow.lt oa wd.heap.size rfl).2
    have hrel : ∀ x y, (x = Value.slice (some ⟨wd.heap.size, 0, none⟩) n n ∧ y = Value.slice (some ⟨wa.heap.size, 0, none⟩) n n ∨ y = Value.slice (some ⟨wd.heap.size, 0, none⟩) n n ∧ x = Value.slice (some ⟨wa.heap.size, 0, none⟩) n n) → TwoZ w4 n x y wb := by
      have o1 := (oa.below bb').low hsd
      have o2 := ob.low (Nat.le_trans hsd ba.size)
      have b3 := (bd.thenB' ba).thenB' bb'
      rintro x y (⟨rfl, rfl⟩ | ⟨rfl, rfl⟩)
      · exact ⟨o1, o2, fun b h1 h2 => by simp [Value.ownBlock] at h1 h2; omega, ⟨_, rfl⟩, ⟨_, rfl⟩, b3⟩
      · exact ⟨o2, o1, fun b h1 h2 => by simp [Value.ownBlock] at h1 h2; omega, ⟨_, rfl⟩, ⟨_, rfl⟩, b3⟩
    clear oa ob ba bb' bd
    refine r_flt RT_refl 0 39 #[true, false, false, false, false, false] (by simp only [List.getElem?_toArray, List.getElem?_cons_zero]; rfl) (by rfl) (by kernel_rfl) (by kernel_rfl) (by kernel_rfl) (fun _ _ _ _ h => h) rfl (by rfl) ?_
    apply Exists.intro
    apply And.intro
    · intro W hW
      first | (go_simp; with_reducible rfl) | go_simp
    (try simp only [Act.put, List.setIfInBounds_toArray]); (try simp only [List.set_cons_succ]); (try simp only [List.set_cons_zero])
    refine r_flt RT_refl 2 41 #[true, false, true, false, false, false] (by simp only [List.getElem?_toArray, List.getElem?_cons_succ, List.getElem?_cons_zero]; rfl) (by rfl) (by kernel_rfl) (by kernel_rfl) (by kernel_rfl) (fun _ _ _ _ h => h) rfl (by rfl) ?_
    apply Exists.intro
    apply And.intro
    · intro W hW
      first | (go_simp; with_reducible rfl) | go_simp
    (try simp only [Act.put, List.setIfInBounds_toArray]); (try simp only [List.set_cons_succ]); (try simp only [List.set_cons_zero])
    refine r_two RT_trans 1 3 (by kernel_rfl) ?_ ?_
    ·
      refine alt_val 40 #[true, true, true, false, false, false] (by simp only [List.getElem?_toArray, List.getElem?_cons_succ, List.getElem?_cons_zero]; rfl) (by rfl) rfl (by rfl) (exec_makeB rfl rfl rfl hmka) ?_ ?_
      · exact trivial
      (try simp only [Act.put, List.setIfInBounds_toArray]); (try simp only [List.set_cons_succ]); (try simp only [List.set_cons_zero])
      refine r_flt RT_refl 4 12 #[true, true, true, false, true, false] (by simp only [List.getElem?_toArray, List.getElem?_cons_succ, List.getElem?_cons_zero]; rfl) (by rfl) (by kernel_rfl) (by kernel_rfl) (by kernel_rfl) (fun _ _ _ _ h => h) rfl (by rfl) ?_
      apply Exists.intro
      apply And.intro
      · intro W hW
        first | (go_simp; with_reducible rfl) | go_simp
      (try simp only [Act.put, List.setIfInBounds_toArray]); (try simp only [List.set_cons_succ]); (try simp only [List.set_cons_zero])
      refine r_one RT_trans 3 (by kernel_rfl) ?_
      refine alt_val 42 #[true, true, true, true, true, false] (by simp only [List.getElem?_toArray, List.getElem?_cons_succ, List.getElem?_cons_zero]; rfl) (by rfl) rfl (by rfl) (exec_makeB rfl rfl rfl hmkb) ?_ ?_
      · exact trivial
      (try simp only [Act.put, List.setIfInBounds_toArray]); (try simp only [List.set_cons_succ]); (try simp only [List.set_cons_zero])
      refine r_flt RT_refl 5 13 #[true, true, true, true, true, true] (by simp only [List.getElem?_toArray, List.getElem?_cons_succ, List.getElem?_cons_zero]; rfl) (by rfl) (by kernel_rfl) (by kernel_rfl) (by kernel_rfl) (fun _ _ _ _ h => h) rfl (by rfl) ?_
      apply Exists.intro
      apply And.intro
      · intro W hW
        first | (go_simp; with_reducible rfl) | go_simp
      (try simp only [Act.put, List.setIfInBounds_toArray]); (try simp only [List.set_cons_succ]); (try simp only [List.set_cons_zero])
      refine r_done (by kernel_rfl) ?_
      clear hmka hmkb
      go_wp2_with fail
      go_meet
      case rel => exact hrel _ _ (by first | exact .inl ⟨rfl, rfl⟩ | exact .inr ⟨rfl, rfl⟩)
    ·
      refine alt_val 42 #[true, false, true, true, false, false] (by simp only [List.getElem?_toArray, List.getElem?_cons_succ, List.getElem?_cons_zero]; rfl) (by rfl) rfl (by rfl) (exec_makeB rfl rfl rfl hmka) ?_ ?_
      · exact trivial
      (try simp only [Act.put, List.setIfInBounds_toArray]); (try simp only [List.set_cons_succ]); (try simp only [List.set_cons_zero])
      refine r_one RT_trans 1 (by kernel_rfl) ?_
      refine alt_val 40 #[true, true, true, true, false, false] (by simp only [List.getElem?_toArray, List.getElem?_cons_succ, List.getElem?_cons_zero]; rfl) (by rfl) rfl (by rfl) (exec_makeB rfl rfl rfl hmkb) ?_ ?_
      · exact trivial
      (try simp only [Act.put, List.setIfInBounds_toArray]); (try simp only [List.set_cons_succ]); (try simp only [List.set_cons_zero])
      refine r_flt RT_refl 4 12 #[true, true, true, true, true, false] (by simp only [List.getElem?_toArray, List.getElem?_cons_succ, List.getElem?_cons_zero]; rfl) (by rfl) (by kernel_rfl) (by kernel_rfl) (by kernel_rfl) (fun _ _ _ _ h => h) rfl (by rfl) ?_
      apply Exists.intro
      apply And.intro
      · intro W hW
        first | (go_simp; with_reducible rfl) | go_simp
      (try simp only [Act.put, List.setIfInBounds_toArray]); (try simp only [List.set_cons_succ]); (try simp only [List.set_cons_zero])
      refine r_flt RT_refl 5 13 #[true, true, true, true, true, true] (by simp only [List.getElem?_toArray, List.getElem?_cons_succ, List.getElem?_cons_zero]; rfl) (by rfl) (by kernel_rfl) (by kernel_rfl) (by kernel_rfl) (fun _ _ _ _ h => h) rfl (by rfl) ?_
      apply Exists.intro
      apply And.intro
      · intro W hW
        first | (go_simp; with_reducible rfl) | go_simp
      (try simp only [Act.put, List.setIfInBounds_toArray]); (try simp only [List.set_cons_succ]); (try simp only [List.set_cons_zero])
      refine r_done (by kernel_rfl) ?_
      clear hmka hmkb
      go_wp2_with fail
      go_meet
      case rel => exact hrel _ _ (by first | exact .inl ⟨rfl, rfl⟩ | exact .inr ⟨rfl, rfl⟩)
  case rest =>
    obtain ⟨ox, oy, hxy, ⟨X, rfl⟩, ⟨Y, rfl⟩, b5⟩ := hcut
    have ra5 := ra.below b5
    have rb5 := rb.below b5
    clear hn'
    go_upto_region 10 with first
      | (with_reducible show wpList _ _ _ _ _ _
         refine wpList_copyB rfl (.tmp 43) (.tmp 44) rfl w4.heap.size (.slice X n n) _ rfl ox _ A1 a.length c1 a rfl rfl ra5 ?_
         intro w6 ox6 x6)
    rw [size_eq] at ox6
    have m6 : Mod (fun b => (Value.slice X n n).ownBlock = some b) wc w6 := Mod.of_grown x6 fun k hk => .inl hk
    have oy6 := OwnB.mod oy m6 (fun j hj hx => hxy j hx hj)
    have b6 : Below w4.heap.size w4 w6 := b5.trans (below_app (Below.refl _ _) ox x6 (Nat.le_refl _) b5.size)
    have rb6 := rb.below b6
    generalize goInt ((min a.length (List.replicate n (0 : UInt8)).length : Nat) : Int) = u45
    (try simp only [Act.put, List.setIfInBounds_toArray]); (try simp only [List.set_cons_succ]); (try simp only [List.set_cons_zero])
    clear x6 ox oy m6
    go_upto_region 11 with first
      | (with_reducible show wpList _ _ _ _ _ _
         refine wpList_copyB rfl (.tmp 46) (.tmp 47) rfl w4.heap.size (.slice Y n n) _ rfl oy6 _ A2 b.length c2 b rfl rfl rb6 ?_
         intro w7 oy7 x7)
    rw [size_eq] at oy7
    have m7 : Mod (fun b => (Value.slice Y n n).ownBlock = some b) w6 w7 := Mod.of_grown x7 fun k hk => .inl hk
    have ox7 := OwnB.mod ox6 m7 (fun j hj hx => hxy j hj hx)
    have b7 : Below w4.heap.size w4 w7 := b6.trans (below_app (Below.refl _ _) oy6 x7 (Nat.le_refl _) b6.size)
    generalize goInt ((min b.length (List.replicate n (0 : UInt8)).length : Nat) : Int) = u48
    (try simp only [Act.put, List.setIfInBounds_toArray]); (try simp only [List.set_cons_succ]); (try simp only [List.set_cons_zero])
    clear x7 ox6 oy6 m7 b6 rb6 b5 ra5 rb5 hxy
    have rx : RdB w7 (w4.heap.size ≤ ·) X (sizeO a n) := (show OwnB w7 w4.heap.size (.slice X (sizeO a n).length n) (sizeO a n) from by rw [sizeO_len]; exact ox7).rdG
    have ry : RdB w7 (w4.heap.size ≤ ·) Y (sizeO b n) := (show OwnB w7 w4.heap.size (.slice Y (sizeO b n).length n) (sizeO b n) from by rw [sizeO_len]; exact oy7).rdG
    have bb7 := bb.thenB' b7
    clear ox7 oy7
    go_wp2_with fail
    go_loopw [14, 50] (fun v s wr => ∃ (k : Nat) (L : List Sp), k ≤ n ∧ s = .int .i64 (k : Int) ∧ OwnSp wr w7.heap.size v L ∧ Hid (∀ m : Int, hasS L m = (decide (m < (k : Int)) && diffF a b m)) ∧ L.length ≤ k ∧ Below w7.heap.size w7 wr) (fun _ s _ => n - (intOf s).toNat)
    case atStart => exact ⟨0, [], Nat.zero_le _, rfl, OwnC.nil, Lib.hid (fun m => by
      rw [has_nil]
      by_cases h : m < ((0 : Nat) : Int)
      · rw [diff_out a b m (.inl h), Bool.and_false]
      · rw [decide_eq_false h, Bool.false_and]), Nat.le_refl _, Below.refl _ _⟩
    case round =>
      obtain ⟨k, L, hk, rfl, oL, HU, hLk, bq⟩ := hrel
      by_cases hlt : k < n
      · have hN := diff_nat a b k (by omega)
        have HS := diff_step a b k L (by omega) HU.out
        have hnI : (n : Int) ≤ 512 := by omega
        obtain ⟨ax, rfl, -, cx⟩ := (rx.below bq).at_ (k := k) (by rw [sizeO_len]; exact hlt)
        obtain ⟨ay, rfl, -, cy⟩ := (ry.below bq).at_ (k := k) (by rw [sizeO_len]; exact hlt)
        rw [sizeO_at a n k hlt] at cx
        rw [sizeO_at b n k hlt] at cy
        have hx := cB_bne (atO a k) (atO b k)
        have hx2 : (((atO a k).toNat : Int) != ((atO b k).toNat : Int)) = (diffF a b (k : Int)) := by rw [hx, hN]
        clear hx hN
        generalize ((atO a k).toNat : Int) = x at *
        generalize ((atO b k).toNat : Int) = y at *
        have hkI : (k : Int) < (n : Int) := by omega
        go_upto_region 15 with fail
        go_quiet (fail)
        have bd := below_drewN (Below.refl wr.heap.size wr) nq
        replace oL := OwnC.below oL bd
        replace bq := bq.thenB' bd
        clear bd cx cy
        generalize wr.drewN nq = wq at *
        have HX2 := Lib.hid hx2
        cases hz : diffF a b (k : Int)
        · rw [hz] at hx2
          have HS2 := Lib.hid (HS.2 hz)
          clear hz HS
          have g5 : (x != y) = false := hx2
          go_wp2_with fail
          go_roundw
          case rel => exact ⟨k + 1, L, by omega, by go_num, oL, HS2, by omega, bq⟩
          case measure => simp [intOf] <;> omega
        · rw [hz] at hx2
          have HS2 := Lib.hid (HS.1 hz)
          clear hz HS
          have bn := below_new wq (.cells #[.int .i64 (k : Int), .int .i64 ((k : Int) + 1)] 84)
          have hwB := bq.size
          go_wp2_with first
            | (with_reducible show wpList _ _ _ _ _ _
               refine wpList_appSp rfl (.tmp 62) (.tmp 67) rfl w7.heap.size _ L [((k : Int), (k : Int) + 1)] rfl (OwnC.below oL bn) (· = wq.heap.size) (some ⟨wq.heap.size, 0, none⟩) 1 1 rfl rfl (rd_newSp wq ((k : Int), (k : Int) + 1)) (by simp; omega) (Nat.le_trans hwB bn.size) ?_
               intro v4 w8 o4 x4)
          go_roundw
          case rel => exact ⟨k + 1, L ++ [((k : Int), (k : Int) + 1)], by omega, by go_num, o4, HS2, by simp; omega, (bq.thenB' bn).trans (x4.below (OwnC.below oL bn) (Nat.le_refl _) (Nat.le_trans hwB bn.size))⟩
          case measure => simp [intOf] <;> omega
      · obtain rfl : k = n := by omega
        have HZ := Lib.hid (diff_end a b k L hna hnb HU.out)
        obtain ⟨ao, n9, c9, rfl, hn9, l9, m9⟩ := OwnC.form' oL
        have hcl := Clean_any _ ao c9 L wr (OwnSp.rd oL) (by omega)
        rw [← hn9.out] at hcl
        go_wp2_with fail
        refine hcl.mono ?_
        clear hcl
        rintro e w9 ⟨v9, M, rfl, o9, hM, b9, -⟩
        have HM := Lib.hid hM
        clear hM
        go_wp2_with fail
        (try simp only [Exit.inBlock, Exit.then])
        refine bodyPost_ret (results_tmp2 rfl _ _ _) rfl ?_
        refine ⟨v9, M, by rw [E.out]; rfl, OwnC.low o9 (Nat.le_trans bb7.size bq.size), fun _ => ⟨HM.out.clean, fun m => by rw [HM.out.is m, HR.out]; exact HZ.out m⟩, fun h => absurd E.out h, (bb7.thenB' bq).thenB' b9⟩
end Go.Proofs.YthkeoimjjgmppaaDoor

/- The past: commits and records, plain and in memory. -/
namespace Go.Proofs.YthkeoimjjgmppaaDoor
open Go.RowKit
set_option linter.unusedVariables false
set_option maxRecDepth 100000

/-! ### plain -/
structure PC where
  ix : Int
  im : Int
  e : E7
structure PL where
  image : Int
  kind : Int
  off : Int
  len : Int
  snap : Int
  data : List UInt8
structure PR where
  cl : Int
  call : PL
  fr : Int
  tt : Int
  done : Bool
  E : Int
  rd : List UInt8
  N : Int
  rx : Int
def mutP (x : PL) : Bool := decide (1 ≤ x.kind ∧ x.kind ≤ 6)
/-- The entry of a call. -/
def entP (seq cl : Int) (x : PL) : E7 := ⟨seq, cl, x.kind, x.off, x.len, x.snap, x.data⟩
def matchP (r : PR) (c : PC) : Bool := mutP r.call && decide (r.call.image = c.im) && decide (r.fr < c.ix) && (!r.done || (decide (r.E = 0) && decide (r.rx = c.ix) && decide (c.ix ≤ r.tt))) && sameO (cleanO (entP c.e.seq r.cl r.call)) (cleanO c.e)
def risO : Int → List PC → Bool
  | _, [] => true
  | a, c :: r => decide (a < c.ix) && risO c.ix r
def atF (image index : Int) : List PC → PI → Option PI
  | [], m => some m
  | c :: r, m => if c.im = image ∧ c.ix ≤ index then (if (doP m c.e).2.2 = 0 then atF image index r (doP m c.e).1 else none) else atF image index r m
def imO (size : Int) (cs : List PC) (image index : Int) : Option PI := if risO 0 cs = true then atF image index cs (newP size) else none
def changedP (size : Int) (cs : List PC) (r : PR) : Bool := match cs.find? (matchP r) with
  | none => false
  | some c => match imO size cs c.im (wrap64 (c.ix - 1)) with
    | none => false
    | some m => decide ((doP m c.e).2.2 = 0) && decide (r.N = (doP m c.e).2.1) && decide (r.rd.length = 0)
/-- Each byte that differs lies in an object that is told. -/
def placeO (k : Nat) : Nat := k / 8 / 4 * 2 + k / 4 % 2
def diffTold (p : PI) (r : PR) : Bool := decide (diffE p r.call.snap r.call.len = 0) && (List.range 512).all fun k => !(diffR p r.call.snap r.call.len (k : Int)) || r.rd.any fun b => b.toNat == placeO k
def toldP (p : PI) (r : PR) : Bool := if r.call.kind = 0 then decide (readE p r.call.off r.call.len r.call.snap = 0) && decide (readD p r.call.off r.call.len r.call.snap = r.rd) else diffTold p r
def answeredP (size : Int) (cs : List PC) (r : PR) : Bool :=
  if r.done = false ∨ r.E ≠ 0 then true
  else if mutP r.call = true then changedP size cs r
  else if (r.call.kind ≠ 0 ∧ r.call.kind ≠ 7) ∨ r.rx < r.fr ∨ r.tt < r.rx then false
  else match imO size cs r.call.image r.rx with
    | none => false
    | some m => toldP m r
/-- The first record that matches and isn't taken. -/
def freeO (c : PC) : List PR → List Bool → Option Nat
  | r :: rs, t :: ts => if t = false ∧ matchP r c = true then some 0 else (freeO c rs ts).map (· + 1)
  | _, _ => none
def ownO (rs : List PR) : List PC → List Bool → Bool
  | [], _ => true
  | c :: cs, t => match freeO c rs t with
    | none => false
    | some k => ownO rs cs (t.set k true)
def ownedP (cs : List PC) (rs : List PR) : Bool := ownO rs cs (List.replicate rs.length false)
def lastO : Int → List PC → Int
  | a, [] => a
  | a, c :: r => lastO (max a c.ix) r
def rightP (size : Int) (cs : List PC) (rs : List PR) : Bool :=
  (imO size cs 0 (lastO 0 cs)).isSome && (imO size cs 1 (lastO 0 cs)).isSome && (imO size cs 2 (lastO 0 cs)).isSome && (imO size cs 3 (lastO 0 cs)).isSome && ownedP cs rs && rs.all (answeredP size cs)

/-! ### in memory -/
structure CmV where
  ix : Int
  im : Int
  e : E7
  A : Option Addr
  c : Nat
def cmC (s : CmV) : List Value := [.int .i64 s.ix, .int .i64 s.im, .int .i64 s.e.seq, .int .i64 s.e.owner, .int .i64 s.e.kind, .int .i64 s.e.off, .int .i64 s.e.len, .int .i64 s.e.snap, .slice s.A s.e.data.length s.c]
def CmV.p (s : CmV) : PC := ⟨s.ix, s.im, s.e⟩
structure RcV where
  cl : Int
  call : PL
  A : Option Addr
  c : Nat
  fr : Int
  tt : Int
  done : Bool
  E : Int
  rA : Option Addr
  rd : List UInt8
  rc : Nat
  N : Int
  rx : Int
def caC (x : PL) (A : Option Addr) (c : Nat) : List Value := [.int .i64 x.image, .int .i64 x.kind, .int .i64 x.off, .int .i64 x.len, .int .i64 x.snap, .slice A x.data.length c]
def rcC (s : RcV) : List Value := [.int .i64 s.cl, .int .i64 s.call.image, .int .i64 s.call.kind, .int .i64 s.call.off, .int .i64 s.call.len, .int .i64 s.call.snap, .slice s.A s.call.data.length s.c, .int .i64 s.fr, .int .i64 s.tt, .bool s.done, .int .i64 s.E, .slice s.rA s.rd.length s.rc, .int .i64 s.N, .int .i64 s.rx]
def RcV.p (s : RcV) : PR := ⟨s.cl, s.call, s.fr, s.tt, s.done, s.E, s.rd, s.N, s.rx⟩
def RdC (w : World) (D : Nat → Prop) (A : Option Addr) (d : List UInt8) (c : Nat) : Prop := RdB w D A d ∧ d.length ≤ c ∧ c ≤ 9223372036854775807
def CmR (w : World) (D : Nat → Prop) (s : CmV) : Prop := RdC w D s.A s.e.data s.c
def RcR (w : World) (D : Nat → Prop) (s : RcV) : Prop := RdC w D s.A s.call.data s.c ∧ RdC w D s.rA s.rd s.rc
theorem cmC_len (s : CmV) : (cmC s).length = 9 := rfl
theorem rcC_len (s : RcV) : (rcC s).length = 14 := rfl
theorem cmC_pos (s : CmV) : 0 < (cmC s).length := by rw [cmC_len]; decide
theorem rcC_pos (s : RcV) : 0 < (rcC s).length := by rw [rcC_len]; decide
theorem cmC_one (s : CmV) : ∀ v ∈ cmC s, v.oneCell' = true := by
  intro v hv
  simp only [cmC, List.mem_cons, List.not_mem_nil, or_false] at hv
  rcases hv with rfl | rfl | rfl | rfl | rfl | rfl | rfl | rfl | rfl <;> rfl
theorem rcC_one (s : RcV) : ∀ v ∈ rcC s, v.oneCell' = true := by
  intro v hv
  simp only [rcC, List.mem_cons, List.not_mem_nil, or_false] at hv
  rcases hv with rfl | rfl | rfl | rfl | rfl | rfl | rfl | rfl | rfl | rfl | rfl | rfl | rfl | rfl <;> rfl
/-- Commits that read. -/
structure CmsR (w : World) (D : Nat → Prop) (A : Option Addr) (c : Nat) (L : List CmV) : Prop where
  rd : RdL w D 9 cmC A L
  cap : L.length ≤ c
  max : c ≤ 9223372036854775807
  all : ∀ s ∈ L, CmR w D s
structure RcsR (w : World) (D : Nat → Prop) (A : Option Addr) (c : Nat) (L : List RcV) : Prop where
  rd : RdL w D 14 rcC A L
  cap : L.length ≤ c
  max : c ≤ 9223372036854775807
  all : ∀ s ∈ L, RcR w D s
def pcs (L : List CmV) : List PC := L.map CmV.p
def prs (L : List RcV) : List PR := L.map RcV.p
section
variable {w w' : World} {D D' : Nat → Prop} {A : Option Addr} {c : Nat}
theorem RdC.below {d : List UInt8} (h : RdC w D A d c) (hb : Below w.heap.size w w') : RdC w' D A d c := ⟨RdB.below h.1 hb, h.2⟩
theorem RdC.imp {d : List UInt8} (h : RdC w D A d c) (hd : ∀ b, b < w.heap.size → D b → D' b) : RdC w D' A d c := ⟨Rd.imp h.1 hd (by decide), h.2⟩
theorem RdC.mod {X : Nat → Prop} {d : List UInt8} (h : RdC w D A d c) (hb : Mod X w w') (hd : ∀ b, D b → ¬ X b) : RdC w' D A d c := ⟨Rd.mod h.1 hb hd, h.2⟩
theorem RdC.nil : RdC w D none [] 0 := ⟨RdB.nil, Nat.le_refl _, by decide⟩
theorem CmsR.below {L : List CmV} (h : CmsR w D A c L) (hb : Below w.heap.size w w') : CmsR w' D A c L := ⟨h.rd.below hb, h.cap, h.max, fun s hs => (h.all s hs).below hb⟩
theorem CmsR.imp {L : List CmV} (h : CmsR w D A c L) (hd : ∀ b, b < w.heap.size → D b → D' b) : CmsR w D' A c L := ⟨h.rd.imp cmC_pos hd, h.cap, h.max, fun s hs => RdC.imp (h.all s hs) hd⟩
theorem CmsR.mod {X : Nat → Prop} {L : List CmV} (h : CmsR w D A c L) (hb : Mod X w w') (hd : ∀ b, D b → ¬ X b) : CmsR w' D A c L := ⟨h.rd.mod hb hd, h.cap, h.max, fun s hs => RdC.mod (h.all s hs) hb hd⟩
theorem RcsR.below {L : List RcV} (h : RcsR w D A c L) (hb : Below w.heap.size w w') : RcsR w' D A c L := ⟨h.rd.below hb, h.cap, h.max, fun s hs => ⟨(h.all s hs).1.below hb, (h.all s hs).2.below hb⟩⟩
theorem RcsR.imp {L : List RcV} (h : RcsR w D A c L) (hd : ∀ b, b < w.heap.size → D b → D' b) : RcsR w D' A c L := ⟨h.rd.imp rcC_pos hd, h.cap, h.max, fun s hs => ⟨RdC.imp (h.all s hs).1 hd, RdC.imp (h.all s hs).2 hd⟩⟩
theorem RcsR.mod {X : Nat → Prop} {L : List RcV} (h : RcsR w D A c L) (hb : Mod X w w') (hd : ∀ b, D b → ¬ X b) : RcsR w' D A c L := ⟨h.rd.mod hb hd, h.cap, h.max, fun s hs => ⟨RdC.mod (h.all s hs).1 hb hd, RdC.mod (h.all s hs).2 hb hd⟩⟩
end
theorem pcs_len (L : List CmV) : (pcs L).length = L.length := by unfold pcs; rw [List.length_map]
theorem prs_len (L : List RcV) : (prs L).length = L.length := by unfold prs; rw [List.length_map]
/-- The cells of an element of a row. -/
theorem RdL.cells {α : Type} {C : α → List Value} {w : World} {D : Nat → Prop} {k : Nat} {A : Option Addr} {L : List α} (h : RdL w D k C A L) {i : Nat} (hi : i < L.length) :
    ∃ ad, A = some ad ∧ D ad.block ∧ (∀ v, (C L[i])[0]? = some v → w.cell? (ad.add (i * k)) = some v) ∧ ∀ j v, (C L[i])[j + 1]? = some v → w.cell? ⟨(ad.add (i * k)).block, (ad.add (i * k)).off + (j + 1), none⟩ = some v := by
  obtain ⟨ad, e, hd, hc⟩ := h (by omega)
  have hL := List.getElem?_eq_getElem hi
  exact ⟨ad, e, hd, fun v hv => hc i _ hL 0 v hv, fun j v hv => by rw [← add_at _ _ j]; exact hc i _ hL (j + 1) v hv⟩
theorem CmsR.at_ {w : World} {D : Nat → Prop} {A : Option Addr} {c : Nat} {L : List CmV} (h : CmsR w D A c L) {i : Nat} (hi : i < L.length) :
    ∃ ad, A = some ad ∧ w.cell? (ad.add (i * 9)) = some (.int .i64 L[i].ix) ∧ w.cell? ⟨(ad.add (i * 9)).block, (ad.add (i * 9)).off + 1, none⟩ = some (.int .i64 L[i].im) ∧ w.cell? ⟨(ad.add (i * 9)).block, (ad.add (i * 9)).off + 2, none⟩ = some (.int .i64 L[i].e.seq) ∧ w.cell? ⟨(ad.add (i * 9)).block, (ad.add (i * 9)).off + 3, none⟩ = some (.int .i64 L[i].e.owner) ∧ w.cell? ⟨(ad.add (i * 9)).block, (ad.add (i * 9)).off + 4, none⟩ = some (.int .i64 L[i].e.kind) ∧ w.cell? ⟨(ad.add (i * 9)).block, (ad.add (i * 9)).off + 5, none⟩ = some (.int .i64 L[i].e.off) ∧ w.cell? ⟨(ad.add (i * 9)).block, (ad.add (i * 9)).off + 6, none⟩ = some (.int .i64 L[i].e.len) ∧ w.cell? ⟨(ad.add (i * 9)).block, (ad.add (i * 9)).off + 7, none⟩ = some (.int .i64 L[i].e.snap) ∧ w.cell? ⟨(ad.add (i * 9)).block, (ad.add (i * 9)).off + 8, none⟩ = some (.slice L[i].A L[i].e.data.length L[i].c) := by
  obtain ⟨ad, e, _, h0, h1⟩ := h.rd.cells hi
  exact ⟨ad, e, h0 _ rfl, h1 0 _ rfl, h1 1 _ rfl, h1 2 _ rfl, h1 3 _ rfl, h1 4 _ rfl, h1 5 _ rfl, h1 6 _ rfl, h1 7 _ rfl⟩
theorem RcsR.at_ {w : World} {D : Nat → Prop} {A : Option Addr} {c : Nat} {L : List RcV} (h : RcsR w D A c L) {i : Nat} (hi : i < L.length) :
    ∃ ad, A = some ad ∧ w.cell? (ad.add (i * 14)) = some (.int .i64 L[i].cl) ∧ w.cell? ⟨(ad.add (i * 14)).block, (ad.add (i * 14)).off + 1, none⟩ = some (.int .i64 L[i].call.image) ∧ w.cell? ⟨(ad.add (i * 14)).block, (ad.add (i * 14)).off + 2, none⟩ = some (.int .i64 L[i].call.kind) ∧ w.cell? ⟨(ad.add (i * 14)).block, (ad.add (i * 14)).off + 3, none⟩ = some (.int .i64 L[i].call.off) ∧ w.cell? ⟨(ad.add (i * 14)).block, (ad.add (i * 14)).off + 4, none⟩ = some (.int .i64 L[i].call.len) ∧ w.cell? ⟨(ad.add (i * 14)).block, (ad.add (i * 14)).off + 5, none⟩ = some (.int .i64 L[i].call.snap) ∧ w.cell? ⟨(ad.add (i * 14)).block, (ad.add (i * 14)).off + 6, none⟩ = some (.slice L[i].A L[i].call.data.length L[i].c) ∧ w.cell? ⟨(ad.add (i * 14)).block, (ad.add (i * 14)).off + 7, none⟩ = some (.int .i64 L[i].fr) ∧ w.cell? ⟨(ad.add (i * 14)).block, (ad.add (i * 14)).off + 8, none⟩ = some (.int .i64 L[i].tt) ∧ w.cell? ⟨(ad.add (i * 14)).block, (ad.add (i * 14)).off + 9, none⟩ = some (.bool L[i].done) ∧ w.cell? ⟨(ad.add (i * 14)).block, (ad.add (i * 14)).off + 10, none⟩ = some (.int .i64 L[i].E) ∧ w.cell? ⟨(ad.add (i * 14)).block, (ad.add (i * 14)).off + 11, none⟩ = some (.slice L[i].rA L[i].rd.length L[i].rc) ∧ w.cell? ⟨(ad.add (i * 14)).block, (ad.add (i * 14)).off + 12, none⟩ = some (.int .i64 L[i].N) ∧ w.cell? ⟨(ad.add (i * 14)).block, (ad.add (i * 14)).off + 13, none⟩ = some (.int .i64 L[i].rx) := by
  obtain ⟨ad, e, _, h0, h1⟩ := h.rd.cells hi
  exact ⟨ad, e, h0 _ rfl, h1 0 _ rfl, h1 1 _ rfl, h1 2 _ rfl, h1 3 _ rfl, h1 4 _ rfl, h1 5 _ rfl, h1 6 _ rfl, h1 7 _ rfl, h1 8 _ rfl, h1 9 _ rfl, h1 10 _ rfl, h1 11 _ rfl, h1 12 _ rfl⟩
end Go.Proofs.YthkeoimjjgmppaaDoor

/- The past: whether the indices rise; what a mutation is. -/
namespace Go.Proofs.YthkeoimjjgmppaaDoor
open Go.RowKit
set_option linter.unusedVariables false
set_option maxRecDepth 100000

theorem ris_step (L : List CmV) (j : Nat) (hj : j < L.length) (a : Int) : risO a (pcs (L.drop j)) = (decide (a < L[j].ix) && risO L[j].ix (pcs (L.drop (j + 1)))) := by
  rw [List.drop_eq_getElem_cons hj]
  rfl
set_option maxHeartbeats 4000000 in
theorem rising_any (D : Nat → Prop) (A : Option Addr) (c : Nat) (L : List CmV) (w : World) (h : CmsR w D A c L) :
    Calls Tryd.prog 28 #[.slice A L.length c] w fun e w' => e = .returned (.bool (risO 0 (pcs L))) ∧ Below w.heap.size w w' := by
  have hc := h.cap
  have hm := h.max
  go_enter Tryd.func28, Tryd.ntmps28
  go_wp2_with fail
  go_loopw [3, 5, 8] (fun s3 s5 s8 wr => ∃ (j : Nat) (a : Int), s8 = .int .i64 (j : Int) ∧ s3 = .int .i64 a ∧ j ≤ L.length ∧ Hid (risO a (pcs (L.drop j)) = risO 0 (pcs L)) ∧ Below w.heap.size w wr) (fun _ _ s8 _ => L.length - (intOf s8).toNat)
  case atStart => exact ⟨0, 0, rfl, rfl, Nat.zero_le _, Lib.hid rfl, Below.refl _ _⟩
  case round =>
    obtain ⟨j, a, rfl, rfl, hj, HR, bb⟩ := hrel
    by_cases hlt : j < L.length
    · obtain ⟨ad, rfl, d0, d1, d2, d3, d4, d5, d6, d7, d8⟩ := (h.below bb).at_ hlt
      have HS := Lib.hid (ris_step L j hlt a)
      generalize L[j] = s at *
      obtain ⟨ix, im, ⟨e1, e2, e3, e4, e5, e6, e7⟩, eA, ec⟩ := s
      simp only at d0 d1 d2 d3 d4 d5 d6 d7 d8
      have bn := below_new wr (.cells #[.int .i64 ix, .int .i64 im, .int .i64 e1, .int .i64 e2, .int .i64 e3, .int .i64 e4, .int .i64 e5, .int .i64 e6, .slice eA e7.length ec] 50)
      have b2 := bb.thenB bn bb.size
      by_cases ha : a < ix
      · have ha' : ¬ ix ≤ a := by omega
        have H2 : Hid (risO ix (pcs (L.drop (j + 1))) = risO 0 (pcs L)) := Lib.hid (by rw [← HR.out, HS.out]; simp [ha])
        clear HR HS
        go_wp2_with fail
        go_roundw
        case rel => exact ⟨j + 1, ix, by go_num, rfl, hlt, H2, b2⟩
        case measure => simp only [intOf]; omega
      · have ha' : ix ≤ a := by omega
        have H2 : Hid (risO 0 (pcs L) = false) := Lib.hid (by rw [← HR.out, HS.out]; simp; intro h; exact absurd h ha)
        clear HR HS
        go_wp2_with fail
        go_ret
        exact ⟨by rw [H2.out] <;> rfl, b2⟩
    · obtain rfl : j = L.length := by omega
      have H2 : Hid (risO 0 (pcs L) = true) := Lib.hid (by rw [← HR.out, List.drop_length]; rfl)
      clear HR
      go_wp2_with fail
      go_ret
      exact ⟨by rw [H2.out] <;> rfl, bb⟩

theorem mutation_any (x : PL) (A : Option Addr) (c : Nat) (w : World) : Calls Tryd.prog 40 #[.agg (caC x A c).toArray] w fun e w' => e = .returned (.bool (mutP x)) ∧ Below w.heap.size w w' := by
  obtain ⟨x1, x2, x3, x4, x5, x6⟩ := x
  unfold caC
  by_cases h1 : 1 ≤ x2
  · have HM : Hid (mutP ⟨x1, x2, x3, x4, x5, x6⟩ = decide (x2 ≤ 6)) := by unfold Hid mutP; simp [h1]
    go_enter Tryd.func40, Tryd.ntmps40
    go_wp2_with fail
    go_ret
    exact ⟨by rw [HM.out] <;> rfl, below_new _ _⟩
  · have HM : Hid (mutP ⟨x1, x2, x3, x4, x5, x6⟩ = false) := by unfold Hid mutP; simp [h1]
    go_enter Tryd.func40, Tryd.ntmps40
    go_wp2_with fail
    go_ret
    exact ⟨by rw [HM.out] <;> rfl, below_new _ _⟩
theorem rmutation_any (x : PL) (A : Option Addr) (c : Nat) (w : World) : Calls Tryd.prog 43 #[.agg (caC x A c).toArray] w fun e w' => e = .returned (.bool (mutP x)) ∧ Below w.heap.size w w' := by
  obtain ⟨x1, x2, x3, x4, x5, x6⟩ := x
  unfold caC
  by_cases h1 : 1 ≤ x2
  · have HM : Hid (mutP ⟨x1, x2, x3, x4, x5, x6⟩ = decide (x2 ≤ 6)) := by unfold Hid mutP; simp [h1]
    go_enter Tryd.func43, Tryd.ntmps43
    go_wp2_with fail
    go_ret
    exact ⟨by rw [HM.out] <;> rfl, below_new _ _⟩
  · have HM : Hid (mutP ⟨x1, x2, x3, x4, x5, x6⟩ = false) := by unfold Hid mutP; simp [h1]
    go_enter Tryd.func43, Tryd.ntmps43
    go_wp2_with fail
    go_ret
    exact ⟨by rw [HM.out] <;> rfl, below_new _ _⟩
end Go.Proofs.YthkeoimjjgmppaaDoor

/- The past: an image behind the commits up to an index: the code. -/
namespace Go.Proofs.YthkeoimjjgmppaaDoor
open Go.RowKit
set_option linter.unusedVariables false
set_option maxRecDepth 100000

/-! ### an image that lies beside a block -/
theorem im_new {w w' : World} {o : Obj} (m : Mod (· = w.heap.size) (w.alloc o) w') : Below w.heap.size w w' := (below_new w o).thenM m (below_new w o).size fun i hi e => by omega
theorem cell_in {w : World} {g : Nat} {T : TypeId} {cs : Array Value} (hB : Blk w g T cs) {p : Addr} {v : Value} (h : w.cell? p = some v) (hp : p.block = g) : cs[p.off]? = some v := by
  unfold World.cell? at h
  unfold Blk at hB
  rw [hp, hB] at h
  simp only at h
  split at h
  · cases h
  · exact h
theorem RdB.off {w : World} {D : Nat → Prop} {A : Option Addr} {bs : List UInt8} {g : Nat} {T : TypeId} {cs : Array Value} (h : RdB w D A bs) (hB : Blk w g T cs) (hn : ∀ (i : Nat) (b : UInt8), cs[i]? ≠ some (cB b)) : RdB w (fun b => D b ∧ b ≠ g) A bs :=
  ⟨h.1, fun h0 => by
    obtain ⟨ad, e, hd, hc⟩ := h.2 h0
    refine ⟨ad, e, ⟨hd, fun hg => ?_⟩, hc⟩
    have h1 := hc 0 (cB bs[0]) (by rw [List.getElem?_map, List.getElem?_eq_getElem h0]; rfl)
    exact hn _ _ (cell_in hB h1 (by rw [block_of_add]; exact hg))⟩
theorem im_cells (j : ImV) (i : Nat) (b : UInt8) : (imA j)[i]? ≠ some (cB b) := by
  unfold imA cB
  match i with
  | 0 => simp
  | 1 => simp
  | 2 => simp
  | i + 3 => simp
theorem ImR.off {w : World} {D : Nat → Prop} {i j : ImV} {g : Nat} (h : ImR w D i) (hB : Blk w g 35 (imA j)) : ImR w (fun b => D b ∧ b ≠ g) i where
  rd := RdB.off h.rd hB (im_cells j)
  dl := h.dl
  dm := h.dm
  rS := fun h0 => by
    obtain ⟨ad, e, hd, hc⟩ := h.rS h0
    refine ⟨ad, e, ⟨hd, fun hg => ?_⟩, hc⟩
    have hL := List.getElem?_eq_getElem h0
    have h1 := hc 0 _ hL 0 _ rfl
    have h2 := hc 0 _ hL 1 _ rfl
    have g1 := cell_in hB h1 (by rw [block_of_add]; exact hg)
    have g2 := cell_in hB h2 (by rw [block_of_add]; exact hg)
    have e2 : (ad.add (0 * 2 + 1)).off = (ad.add (0 * 2 + 0)).off + 1 := by unfold Addr.add; simp
    rw [e2] at g2
    generalize (ad.add (0 * 2 + 0)).off = o at *
    unfold imA cI at *
    match o, g1, g2 with
    | 0, g1, _ => simp at g1
    | 1, g1, _ => simp at g1
    | 2, _, g2 => simp at g2
    | o + 3, g1, _ => simp at g1
  sl := h.sl
  sm := h.sm
  cp := fun s hs => ⟨RdB.off (h.cp s hs).1 hB (im_cells j), (h.cp s hs).2⟩

/-! ### the code -/
def AtR (size : Int) (cs : List PC) (image index : Int) (w : World) (e : Ending) (w' : World) : Prop :=
  ∃ i : ImV, e = .returned (.tuple #[.agg (imA i), .bool (imO size cs image index).isSome]) ∧ i.p = (imO size cs image index).getD zeroI ∧ ImR w' (fun _ => True) i ∧ Below w.heap.size w w'
def zIm : ImV := ⟨none, [], 0, none, [], 0, 0⟩
theorem AtR.no {size : Int} {cs : List PC} {image index : Int} {w w' : World} (h : imO size cs image index = none) (bb : Below w.heap.size w w') : AtR size cs image index w (.returned (.tuple #[.agg #[.slice none 0 0, .slice none 0 0, .int .i64 0], .bool false])) w' :=
  ⟨zIm, by rw [h]; rfl, by rw [h]; rfl, zeroIm _ _, bb⟩
theorem AtR.yes {size : Int} {cs : List PC} {image index : Int} {w w' : World} {i : ImV} (h : imO size cs image index = some i.p) {D : Nat → Prop} (hr : ImR w' D i) (bb : Below w.heap.size w w') : AtR size cs image index w (.returned (.tuple #[.agg (imA i), .bool true])) w' :=
  ⟨i, by rw [h]; rfl, by rw [h]; rfl, hr.imp fun _ _ _ => trivial, bb⟩
theorem atF_step (image index : Int) (L : List CmV) (j : Nat) (hj : j < L.length) (m : PI) : atF image index (pcs (L.drop j)) m = if L[j].im = image ∧ L[j].ix ≤ index then (if (doP m L[j].e).2.2 = 0 then atF image index (pcs (L.drop (j + 1))) (doP m L[j].e).1 else none) else atF image index (pcs (L.drop (j + 1))) m := by
  rw [List.drop_eq_getElem_cons hj]
  rfl
set_option maxHeartbeats 8000000 in
theorem At_any (D : Nat → Prop) (A : Option Addr) (c : Nat) (L : List CmV) (size image index : Int) (w : World) (h : CmsR w D A c L) :
    Calls Tryd.prog 11 #[.int .i64 size, .slice A L.length c, .int .i64 image, .int .i64 index] w (AtR size (pcs L) image index w) := by
  have hc := h.cap
  have hm := h.max
  have hB8 := Blk.new w 35 (imA zIm)
  have b0 := below_new w (.cells (imA zIm) 35)
  have hs0 : (w.alloc (.cells (imA zIm) 35)).heap.size = w.heap.size + 1 := Array.size_push ..
  have hri := rising_any D A c L _ (h.below b0)
  have hnew := fun u => New18_any size u
  unfold zIm imA at hB8 b0 hri hs0
  simp only [List.length_nil] at hB8 b0 hri hs0
  generalize hw0 : w.alloc (.cells #[.slice none 0 0, .slice none 0 0, .int .i64 0] 35) = w0 at *
  go_enter Tryd.func11, Tryd.ntmps11
  go_wp2_with fail
  refine hri.mono ?_
  clear hri hw0
  rintro e w1 ⟨rfl, b1⟩
  have hB8 := hB8.below b1
  have b1 := b0.thenB' b1
  obtain ⟨t, ht⟩ : ∃ t, risO 0 (pcs L) = t := ⟨_, rfl⟩
  rw [ht]
  have HT := Lib.hid ht
  clear ht b0
  cases t
  · have HN : Hid (imO size (pcs L) image index = none) := Lib.hid (by unfold imO; rw [HT.out]; rfl)
    go_wp2_with first
      | (with_reducible show wpList _ _ _ _ _ _
         refine wpList_rowB rfl 35 (.tmp 8) (.tmp 19) rfl w.heap.size 35 _ #[.slice none 0 0, .slice none 0 0, .int .i64 0] rfl rfl hB8 infoIm rfl (imA_ok zIm) ?_
         intro w3 hq m3)
    (try simp only [Exit.inBlock, Exit.then])
    refine bodyPost_ret (results_cell_tmp rfl _ _ w.heap.size _ _ (0, 0) _ rfl hq Tryd.underlying35 rfl infoIm) rfl ?_
    exact AtR.no HN.out (b1.thenM m3 b1.size fun i hi e => by omega)
  · have HY : Hid (∀ o, atF image index (pcs L) (newP size) = o → imO size (pcs L) image index = o) := Lib.hid (by intro o ho; unfold imO; rw [HT.out, if_pos rfl]; exact ho)
    clear HT
    go_wp2_with fail
    refine (hnew _).mono ?_
    clear hnew
    rintro e w2 ⟨i0, rfl, hi0, o0, b2⟩
    have hB8 := hB8.below b2
    have b2 := b1.thenB' b2
    have hg : w.heap.size < w2.heap.size := hB8.lt
    have r0 := o0.rd
    have hI0 := Lib.hid hi0
    clear o0 hi0 b1
    go_wp2_with first
      | (with_reducible show wpList _ _ _ _ _ _
         refine wpList_rowB rfl 35 (.tmp 10) (.tmp 21) rfl w2.heap.size 35 _ (imA i0) rfl rfl (Blk.new w2 35 #[.slice none 0 0, .slice none 0 0, .int .i64 0]) infoIm rfl (imA_ok _) ?_
         intro w3 hB10 mm
         have nn := im_new mm)
    have hB8 := hB8.below nn
    have b3 := b2.thenB' nn
    have r0 := (((r0.below nn).off hB10).off (j := zIm) hB8).imp (D' := fun b => b ≠ w.heap.size ∧ b ≠ w2.heap.size) fun b _ h => ⟨h.2, h.1.2⟩
    clear mm nn b2
    generalize w2.heap.size = g10 at *
    go_wp2_with fail
    go_loopw [12, 13, 14, 15, 24] (fun s12 s13 s14 s15 s24 wr => ∃ (j : Nat) (i : ImV), s24 = .int .i64 (j : Int) ∧ j ≤ L.length ∧ Blk wr g10 35 (imA i) ∧ ImR wr (fun b => b ≠ w.heap.size ∧ b ≠ g10) i ∧ Blk wr w.heap.size 35 #[.slice none 0 0, .slice none 0 0, .int .i64 0] ∧ Hid (atF image index (pcs (L.drop j)) i.p = atF image index (pcs L) (newP size)) ∧ Below w.heap.size w wr) (fun _ _ _ _ s24 _ => L.length - (intOf s24).toNat)
    case atStart => exact ⟨0, i0, rfl, Nat.zero_le _, hB10, r0, hB8, Lib.hid (by rw [hI0.out]; rfl), b3⟩
    case round =>
      clear hB10 r0 hB8 b3 hI0
      obtain ⟨j, i, rfl, hj, hB10, rI, hB8, HF, bb⟩ := hrel
      by_cases hlt : j < L.length
      · have hS := (h.below bb).all _ (List.getElem_mem hlt)
        obtain ⟨ad, rfl, d0, d1, d2, d3, d4, d5, d6, d7, d8⟩ := (h.below bb).at_ hlt
        have HS := Lib.hid (atF_step image index L j hlt i.p)
        generalize L[j] = s at *
        obtain ⟨ix, im, ⟨e1, e2, e3, e4, e5, e6, e7⟩, eA, ec⟩ := s
        obtain ⟨rx, hxc, hxm⟩ := hS
        simp only at d0 d1 d2 d3 d4 d5 d6 d7 d8 rx hxc hxm
        have bn := below_new wr (.cells #[.int .i64 ix, .int .i64 im, .int .i64 e1, .int .i64 e2, .int .i64 e3, .int .i64 e4, .int .i64 e5, .int .i64 e6, .slice eA e7.length ec] 50)
        have b2 := bb.thenB bn bb.size
        have hN := Blk.new wr 50 #[.int .i64 ix, .int .i64 im, .int .i64 e1, .int .i64 e2, .int .i64 e3, .int .i64 e4, .int .i64 e5, .int .i64 e6, .slice eA e7.length ec]
        have hB10' := hB10.below bn
        have hB8' := hB8.below bn
        have rI' := rI.below bn
        have rx' := RdB.below rx bn
        go_upto_region 7 with fail
        clear d0 d1 d2 d3 d4 d5 d6 d7 d8 bn hB10 hB8 rI bb rx
        generalize wr.alloc (.cells #[.int .i64 ix, .int .i64 im, .int .i64 e1, .int .i64 e2, .int .i64 e3, .int .i64 e4, .int .i64 e5, .int .i64 e6, .slice eA e7.length ec] 50) = wb at *
        generalize wr.heap.size = bx at *
        have d0 := hN.cell 0
        have d1 := hN.cell 1
        have d2 := hN.cell 2
        have d3 := hN.cell 3
        have d4 := hN.cell 4
        have d5 := hN.cell 5
        have d6 := hN.cell 6
        have d7 := hN.cell 7
        have d8 := hN.cell 8
        simp at d0 d1 d2 d3 d4 d5 d6 d7 d8
        by_cases h12 : im = image ∧ ix ≤ index
        · obtain ⟨rfl, h2⟩ := h12
          have h2' : ¬ index < ix := by omega
          have hdo := Do_any _ _ i ⟨e1, e2, e3, e4, e5, e6, e7⟩ eA ec wb rI' rx' hxc hxm
          have HD : Hid (atF im index (pcs L) (newP size) = if (doP i.p ⟨e1, e2, e3, e4, e5, e6, e7⟩).2.2 = 0 then atF im index (pcs (L.drop (j + 1))) (doP i.p ⟨e1, e2, e3, e4, e5, e6, e7⟩).1 else none) := Lib.hid (by rw [← HF.out, HS.out]; exact if_pos ⟨rfl, h2⟩)
          clear HF HS
          generalize doP i.p ⟨e1, e2, e3, e4, e5, e6, e7⟩ = dp at *
          obtain ⟨q1, q2, q3⟩ := dp
          unfold enV enA at hdo
          simp only at hdo HD
          go_wp2_with first
            | (with_reducible show wpList _ _ _ _ _ _
               refine wpList_load_row rfl 35 (.tmp 10) rfl g10 rfl 35 _ (0, 0) _ hB10' Tryd.underlying35 rfl infoIm ?_)
          refine hdo.mono ?_
          clear hdo
          rintro e w5 ⟨jm, rfl, hjp, oj, b5⟩
          have hB10 := hB10'.below b5
          have hB8 := hB8'.below b5
          have b5' := b2.thenB b5 b2.size
          have rj := oj.rd
          have HJ := Lib.hid hjp
          have hgb : g10 < w5.heap.size := hB10.lt
          have hgb8 : w.heap.size < w5.heap.size := hB8.lt
          clear hB10' hB8' rI' rx' d0 d1 d2 d3 d4 d5 d6 d7 d8 hN oj hjp
          by_cases hq : q3 = 0
          · subst hq
            have HE : Hid (atF im index (pcs (L.drop (j + 1))) jm.p = atF im index (pcs L) (newP size)) := Lib.hid (by rw [HD.out, HJ.out, if_pos rfl])
            clear HD HJ
            go_wp2_with first
              | (with_reducible show wpList _ _ _ _ _ _
                 refine wpList_rowB rfl 35 (.tmp 13) (.tmp 43) rfl w5.heap.size 35 _ (imA jm) rfl rfl (Blk.new w5 35 #[.slice none 0 0, .slice none 0 0, .int .i64 0]) infoIm rfl (imA_ok _) ?_
                 intro w6 hB13 mm
                 have nn := im_new mm
                 have hB10 := hB10.below nn
                 have hB8 := hB8.below nn
                 have b6 := b5'.thenB nn b5'.size
                 have rj := ((rj.below nn).off hB10).off (j := zIm) hB8
                 clear nn mm)
              | (with_reducible show wpList _ _ _ _ _ _
                 refine wpList_load_row rfl 35 (.tmp 13) rfl w5.heap.size rfl 35 _ (0, 0) _ hB13 Tryd.underlying35 rfl infoIm ?_)
              | (with_reducible show wpList _ _ _ _ _ _
                 refine wpList_rowB rfl 35 (.tmp 10) (.tmp 49) rfl g10 35 _ (imA jm) rfl rfl hB10 infoIm rfl (imA_ok _) ?_
                 intro w7 hB10n m7)
            go_roundw
            case rel => exact ⟨j + 1, jm, by go_num, hlt, hB10n, (rj.mod m7 fun b hb e => hb.1.2 e).imp fun b _ hb => ⟨hb.2, hb.1.2⟩, hB8.mod m7 (by omega), HE, b6.thenM m7 b6.size fun b hb e => by omega⟩
            case measure => simp only [intOf]; omega
          · have HE : Hid (imO size (pcs L) im index = none) := Lib.hid (HY.out _ (by rw [HD.out, if_neg hq]))
            have hq' : (q3 != 0) = true := by simpa using hq
            clear HD HJ hq
            go_wp2_with first
              | (with_reducible show wpList _ _ _ _ _ _
                 refine wpList_rowB rfl 35 (.tmp 13) (.tmp 43) rfl w5.heap.size 35 _ (imA jm) rfl rfl (Blk.new w5 35 #[.slice none 0 0, .slice none 0 0, .int .i64 0]) infoIm rfl (imA_ok _) ?_
                 intro w6 hB13 mm
                 have nn := im_new mm
                 have hB8 := hB8.below nn
                 have b6 := b5'.thenB nn b5'.size
                 clear nn mm)
              | (with_reducible show wpList _ _ _ _ _ _
                 refine wpList_rowB rfl 35 (.tmp 8) (.tmp 48) rfl w.heap.size 35 _ #[.slice none 0 0, .slice none 0 0, .int .i64 0] rfl rfl hB8 infoIm rfl (imA_ok zIm) ?_
                 intro w7 hq8 m7)
            (try simp only [Exit.inBlock, Exit.then])
            refine bodyPost_ret (results_cell_tmp rfl _ _ w.heap.size _ _ (0, 0) _ rfl hq8 Tryd.underlying35 rfl infoIm) rfl ?_
            exact AtR.no HE.out (b6.thenM m7 b6.size fun i hi e => by omega)
        · have HD : Hid (atF image index (pcs (L.drop (j + 1))) i.p = atF image index (pcs L) (newP size)) := Lib.hid (by rw [← HF.out, HS.out]; exact (if_neg h12).symm)
          clear HF HS
          by_cases h1 : im = image
          · have h2 : index < ix := by
              by_cases h2 : ix ≤ index
              · exact absurd ⟨h1, h2⟩ h12
              · omega
            subst h1
            clear h12
            go_wp2_with fail
            go_roundw
            case rel => exact ⟨j + 1, i, by go_num, hlt, hB10', rI', hB8', HD, b2⟩
            case measure => simp only [intOf]; omega
          · have h1' : (im != image) = true := by simpa using h1
            clear h12 h1
            go_wp2_with fail
            go_roundw
            case rel => exact ⟨j + 1, i, by go_num, hlt, hB10', rI', hB8', HD, b2⟩
            case measure => simp only [intOf]; omega
      · obtain rfl : j = L.length := by omega
        have HE : Hid (imO size (pcs L) image index = some i.p) := Lib.hid (HY.out _ (by rw [← HF.out, List.drop_length]; rfl))
        clear HF HY
        go_wp2_with first
          | (with_reducible show wpList _ _ _ _ _ _
             refine wpList_load_row rfl 35 (.tmp 10) rfl g10 rfl 35 _ (0, 0) _ hB10 Tryd.underlying35 rfl infoIm ?_)
          | (with_reducible show wpList _ _ _ _ _ _
             refine wpList_rowB rfl 35 (.tmp 8) (.tmp 51) rfl w.heap.size 35 _ (imA i) rfl rfl hB8 infoIm rfl (imA_ok _) ?_
             intro w7 hq8 m7)
        (try simp only [Exit.inBlock, Exit.then])
        refine bodyPost_ret (results_cell_tmp rfl _ _ w.heap.size _ _ (0, 0) _ rfl hq8 Tryd.underlying35 rfl infoIm) rfl ?_
        exact AtR.yes HE.out (rI.mod m7 fun b hb e => hb.1 e) (bb.thenM m7 bb.size fun i hi e => by omega)
end Go.Proofs.YthkeoimjjgmppaaDoor
