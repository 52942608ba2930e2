/- Where two differ: the code. -/
import Derived.Test.YtcdodchjgadcoaaAbR
namespace Go.Proofs.Ytcdodchjgadcoaa
open Go.RowKit
set_option linter.unusedVariables false
set_option maxRecDepth 100000

/-- Two rows of n noughts, apart. -/
def TwoZ (w : World) (n : Nat) (x y : Value) (w' : World) : Prop := OwnB w' w.heap.size x (List.replicate n 0) ∧ OwnB w' w.heap.size y (List.replicate n 0) ∧ (∀ b, x.ownBlock = some b → y.ownBlock ≠ some b) ∧ (∃ X, x = .slice X n n) ∧ (∃ Y, y = .slice Y n n) ∧ Below w.heap.size w w'
theorem sizeO_at (d : List UInt8) (n k : Nat) (h : k < n) : (sizeO d n)[k]'(by rw [sizeO_len]; exact h) = atO d k := by
  unfold sizeO atO
  rw [List.getElem_append, List.getD_eq_getElem?_getD]
  by_cases h1 : k < d.length
  · rw [dif_pos (by rw [List.length_take]; omega), List.getElem_take, List.getElem?_eq_getElem h1]; rfl
  · rw [dif_neg (by rw [List.length_take]; omega), List.getElem_replicate, List.getElem?_eq_none (by omega)]; rfl
theorem atO_out (d : List UInt8) (k : Nat) (h : d.length ≤ k) : atO d k = 0 := by
  unfold atO
  rw [List.getD_eq_getElem?_getD, List.getElem?_eq_none h]; rfl
theorem diff_step (a b : List UInt8) (k : Nat) (L : List Sp) (hk : k < 512) (h : ∀ m : Int, hasS L m = (decide (m < (k : Int)) && diffF a b m)) :
    (diffF a b (k : Int) = true → ∀ m : Int, hasS (L ++ [((k : Int), (k : Int) + 1)]) m = (decide (m < (k : Int) + 1) && diffF a b m)) ∧
    (diffF a b (k : Int) = false → ∀ m : Int, hasS L m = (decide (m < (k : Int) + 1) && diffF a b m)) := by
  constructor
  · intro hd m
    rw [has_append, has_single _ ⟨by omega, by unfold farS; show (k : Int) + 1 ≤ _; omega⟩, h]
    by_cases hm : m = (k : Int)
    · subst hm
      rw [hd]
      simp
    · have e1 : decide ((k : Int) ≤ m ∧ m < (k : Int) + 1) = false := decide_eq_false (by omega)
      rw [show (((k : Int), (k : Int) + 1) : Sp).1 = (k : Int) from rfl, show (((k : Int), (k : Int) + 1) : Sp).2 = (k : Int) + 1 from rfl, e1, Bool.or_false]
      by_cases h2 : m < (k : Int)
      · rw [decide_eq_true h2, decide_eq_true (show m < (k : Int) + 1 by omega)]
      · rw [decide_eq_false h2, decide_eq_false (show ¬ m < (k : Int) + 1 by omega)]
  · intro hd m
    rw [h]
    by_cases hm : m = (k : Int)
    · subst hm
      rw [hd, Bool.and_false, Bool.and_false]
    · by_cases h2 : m < (k : Int)
      · rw [decide_eq_true h2, decide_eq_true (show m < (k : Int) + 1 by omega)]
      · rw [decide_eq_false h2, decide_eq_false (show ¬ m < (k : Int) + 1 by omega)]
theorem diff_end (a b : List UInt8) (n : Nat) (L : List Sp) (ha : a.length ≤ n) (hb : b.length ≤ n) (h : ∀ m : Int, hasS L m = (decide (m < (n : Int)) && diffF a b m)) (m : Int) : hasS L m = diffF a b m := by
  rw [h]
  by_cases h2 : m < (n : Int)
  · rw [decide_eq_true h2, Bool.true_and]
  · rw [decide_eq_false h2, Bool.false_and]
    unfold diffF
    rw [atO_out a _ (by omega), atO_out b _ (by omega)]
    simp
theorem cB_bne (x y : UInt8) : (((x.toNat : Int)) != ((y.toNat : Int))) = (x != y) := by unfold bne; rw [cB_beq]

set_option maxHeartbeats 8000000 in
theorem Differ_any (D : Nat → Prop) (i : ImV) (fr tt : Int) (w : World) (hr : ImR w D i) :
    Calls Try.prog 14 #[.agg (imA i), .int .i64 fr, .int .i64 tt] w (Differs w i.p fr tt) := by
  have bb := below_new w (.cells (imA i) 25)
  have hB := Blk.new w 25 (imA i)
  have has := fun W (b : Below w.heap.size w W) snap => as_any D i snap W (hr.below b)
  have hE : diffE i.p fr tt = if asE i.p fr ≠ 0 then asE i.p fr else asE i.p tt := rfl
  have hR : diffR i.p fr tt = diffF (asD i.p fr) (asD i.p tt) := rfl
  have hla := asD_len (p := i.p) fr
  have hlb := asD_len (p := i.p) tt
  have hasa := fun W b => has W b fr
  have hasb := fun W b => has W b tt
  unfold imA at *
  generalize hw0 : w.alloc (.cells #[.slice i.DA i.d.length i.dc, .slice i.CA i.S.length i.cc, .int .i64 i.last] 25) = w0 at *
  have hasa := hasa w0 bb
  clear has
  generalize asE i.p fr = e1 at *
  generalize asE i.p tt = e2 at *
  generalize asD i.p fr = a at *
  generalize asD i.p tt = b at *
  go_enter Try.func14, Try.ntmps14
  go_wp2_with first
    | (with_reducible show wpList _ _ _ _ _ _
       refine wpList_load_row rfl 25 (.tmp 3) rfl w.heap.size rfl 25 _ (0, 0) _ hB Try.underlying25 rfl infoIm ?_)
  refine hasa.mono ?_
  clear hasa hw0
  rintro e w3 ⟨A1, c1, rfl, ra, la, ma, b3⟩
  replace hB := hB.below b3
  replace bb := bb.thenB' b3
  clear b3
  by_cases h1 : e1 = 0
  rotate_left
  focus
    rw [if_pos h1] at hE
    have E := Lib.hid hE
    have h1' := h1
    clear hE hR hasb
    have g1 : (e1 != 0) = true := by simp [h1]
    go_wp2_with fail
    (try simp only [Exit.inBlock, Exit.then])
    refine bodyPost_ret (results_tmp2 rfl _ _ _) rfl ?_
    exact differs_nil E.out h1' bb
  subst h1
  rw [if_neg (by decide)] at hE
  have hasb := hasb w3 bb
  go_wp2_with first
    | (with_reducible show wpList _ _ _ _ _ _
       refine wpList_load_row rfl 25 (.tmp 3) rfl w.heap.size rfl 25 _ (0, 0) _ hB Try.underlying25 rfl infoIm ?_)
  refine hasb.mono ?_
  clear hasb
  rintro e w4 ⟨A2, c2, rfl, rb, lb, mb, b4⟩
  replace bb := bb.thenB' b4
  have ra := ra.below b4
  clear b4 hB
  by_cases h1 : e2 = 0
  rotate_left
  focus
    have E := Lib.hid hE
    have h1' := h1
    clear hE hR
    have g1 : (e2 != 0) = true := by simp [h1]
    go_wp2_with fail
    (try simp only [Exit.inBlock, Exit.then])
    refine bodyPost_ret (results_tmp2 rfl _ _ _) rfl ?_
    exact differs_nil E.out h1' bb
  subst h1
  have E := Lib.hid hE
  have HR := Lib.hid hR
  clear hE hR
  obtain ⟨n, hn⟩ : ∃ n : Nat, (n : Int) = max (a.length : Int) (b.length : Int) := ⟨max a.length b.length, by omega⟩
  have hna : a.length ≤ n := by omega
  have hnb : b.length ≤ n := by omega
  have hn5 : n ≤ 512 := by omega
  have hn' := hn.symm
  clear hn
  go_upto_region 8 with fail
  go_cut [12, 13] from 39 to 42 (fun x y wx => TwoZ w4 n x y wx)
  case first =>
    go_wp2_with fail
    refine r_start (R := RT) (by rfl) (n := 6) (L := #[false, false, false, false, false, false]) rfl rfl ?_
    have bd : Below w4.heap.size w4 w4.drew := (Below.refl _ _).drew
    generalize w4.drew = wd at *
    obtain ⟨wa, hmka, oa, ba⟩ := run_makeB wd n (by omega)
    obtain ⟨wb, hmkb, ob, bb'⟩ := run_makeB wa n (by omega)
    have hsd := bd.size
    have hsa := (World.ownsRow.lt oa wd.heap.size rfl).2
    have hrel : ∀ x y, (x = Value.slice (some ⟨wd.heap.size, 0, none⟩) n n ∧ y = Value.slice (some ⟨wa.heap.size, 0, none⟩) n n ∨ y = Value.slice (some ⟨wd.heap.size, 0, none⟩) n n ∧ x = Value.slice (some ⟨wa.heap.size, 0, none⟩) n n) → TwoZ w4 n x y wb := by
      have o1 := (oa.below bb').low hsd
      have o2 := ob.low (Nat.le_trans hsd ba.size)
      have b3 := (bd.thenB' ba).thenB' bb'
      rintro x y (⟨rfl, rfl⟩ | ⟨rfl, rfl⟩)
      · exact ⟨o1, o2, fun b h1 h2 => by simp [Value.ownBlock] at h1 h2; omega, ⟨_, rfl⟩, ⟨_, rfl⟩, b3⟩
      · exact ⟨o2, o1, fun b h1 h2 => by simp [Value.ownBlock] at h1 h2; omega, ⟨_, rfl⟩, ⟨_, rfl⟩, b3⟩
    clear oa ob ba bb' bd
    refine r_flt RT_refl 0 39 #[true, false, false, false, false, false] (by simp only [List.getElem?_toArray, List.getElem?_cons_zero]; rfl) (by rfl) (by kernel_rfl) (by kernel_rfl) (by kernel_rfl) (fun _ _ _ _ h => h) rfl (by rfl) ?_
    apply Exists.intro
    apply And.intro
    · intro W hW
      first | (go_simp; with_reducible rfl) | go_simp
    (try simp only [Act.put, List.setIfInBounds_toArray]); (try simp only [List.set_cons_succ]); (try simp only [List.set_cons_zero])
    refine r_flt RT_refl 2 41 #[true, false, true, false, false, false] (by simp only [List.getElem?_toArray, List.getElem?_cons_succ, List.getElem?_cons_zero]; rfl) (by rfl) (by kernel_rfl) (by kernel_rfl) (by kernel_rfl) (fun _ _ _ _ h => h) rfl (by rfl) ?_
    apply Exists.intro
    apply And.intro
    · intro W hW
      first | (go_simp; with_reducible rfl) | go_simp
    (try simp only [Act.put, List.setIfInBounds_toArray]); (try simp only [List.set_cons_succ]); (try simp only [List.set_cons_zero])
    refine r_two RT_trans 1 3 (by kernel_rfl) ?_ ?_
    ·
      refine alt_val 40 #[true, true, true, false, false, false] (by simp only [List.getElem?_toArray, List.getElem?_cons_succ, List.getElem?_cons_zero]; rfl) (by rfl) rfl (by rfl) (exec_makeB rfl rfl rfl hmka) ?_ ?_
      · exact trivial
      (try simp only [Act.put, List.setIfInBounds_toArray]); (try simp only [List.set_cons_succ]); (try simp only [List.set_cons_zero])
      refine r_flt RT_refl 4 12 #[true, true, true, false, true, false] (by simp only [List.getElem?_toArray, List.getElem?_cons_succ, List.getElem?_cons_zero]; rfl) (by rfl) (by kernel_rfl) (by kernel_rfl) (by kernel_rfl) (fun _ _ _ _ h => h) rfl (by rfl) ?_
      apply Exists.intro
      apply And.intro
      · intro W hW
        first | (go_simp; with_reducible rfl) | go_simp
      (try simp only [Act.put, List.setIfInBounds_toArray]); (try simp only [List.set_cons_succ]); (try simp only [List.set_cons_zero])
      refine r_one RT_trans 3 (by kernel_rfl) ?_
      refine alt_val 42 #[true, true, true, true, true, false] (by simp only [List.getElem?_toArray, List.getElem?_cons_succ, List.getElem?_cons_zero]; rfl) (by rfl) rfl (by rfl) (exec_makeB rfl rfl rfl hmkb) ?_ ?_
      · exact trivial
      (try simp only [Act.put, List.setIfInBounds_toArray]); (try simp only [List.set_cons_succ]); (try simp only [List.set_cons_zero])
      refine r_flt RT_refl 5 13 #[true, true, true, true, true, true] (by simp only [List.getElem?_toArray, List.getElem?_cons_succ, List.getElem?_cons_zero]; rfl) (by rfl) (by kernel_rfl) (by kernel_rfl) (by kernel_rfl) (fun _ _ _ _ h => h) rfl (by rfl) ?_
      apply Exists.intro
      apply And.intro
      · intro W hW
        first | (go_simp; with_reducible rfl) | go_simp
      (try simp only [Act.put, List.setIfInBounds_toArray]); (try simp only [List.set_cons_succ]); (try simp only [List.set_cons_zero])
      refine r_done (by kernel_rfl) ?_
      clear hmka hmkb
      go_wp2_with fail
      go_meet
      case rel => exact hrel _ _ (by first | exact .inl ⟨rfl, rfl⟩ | exact .inr ⟨rfl, rfl⟩)
    ·
      refine alt_val 42 #[true, false, true, true, false, false] (by simp only [List.getElem?_toArray, List.getElem?_cons_succ, List.getElem?_cons_zero]; rfl) (by rfl) rfl (by rfl) (exec_makeB rfl rfl rfl hmka) ?_ ?_
      · exact trivial
      (try simp only [Act.put, List.setIfInBounds_toArray]); (try simp only [List.set_cons_succ]); (try simp only [List.set_cons_zero])
      refine r_one RT_trans 1 (by kernel_rfl) ?_
      refine alt_val 40 #[true, true, true, true, false, false] (by simp only [List.getElem?_toArray, List.getElem?_cons_succ, List.getElem?_cons_zero]; rfl) (by rfl) rfl (by rfl) (exec_makeB rfl rfl rfl hmkb) ?_ ?_
      · exact trivial
      (try simp only [Act.put, List.setIfInBounds_toArray]); (try simp only [List.set_cons_succ]); (try simp only [List.set_cons_zero])
      refine r_flt RT_refl 4 12 #[true, true, true, true, true, false] (by simp only [List.getElem?_toArray, List.getElem?_cons_succ, List.getElem?_cons_zero]; rfl) (by rfl) (by kernel_rfl) (by kernel_rfl) (by kernel_rfl) (fun _ _ _ _ h => h) rfl (by rfl) ?_
      apply Exists.intro
      apply And.intro
      · intro W hW
        first | (go_simp; with_reducible rfl) | go_simp
      (try simp only [Act.put, List.setIfInBounds_toArray]); (try simp only [List.set_cons_succ]); (try simp only [List.set_cons_zero])
      refine r_flt RT_refl 5 13 #[true, true, true, true, true, true] (by simp only [List.getElem?_toArray, List.getElem?_cons_succ, List.getElem?_cons_zero]; rfl) (by rfl) (by kernel_rfl) (by kernel_rfl) (by kernel_rfl) (fun _ _ _ _ h => h) rfl (by rfl) ?_
      apply Exists.intro
      apply And.intro
      · intro W hW
        first | (go_simp; with_reducible rfl) | go_simp
      (try simp only [Act.put, List.setIfInBounds_toArray]); (try simp only [List.set_cons_succ]); (try simp only [List.set_cons_zero])
      refine r_done (by kernel_rfl) ?_
      clear hmka hmkb
      go_wp2_with fail
      go_meet
      case rel => exact hrel _ _ (by first | exact .inl ⟨rfl, rfl⟩ | exact .inr ⟨rfl, rfl⟩)
  case rest =>
    obtain ⟨ox, oy, hxy, ⟨X, rfl⟩, ⟨Y, rfl⟩, b5⟩ := hcut
    have ra5 := ra.below b5
    have rb5 := rb.below b5
    clear hn'
    go_upto_region 10 with first
      | (with_reducible show wpList _ _ _ _ _ _
         refine wpList_copyB rfl (.tmp 43) (.tmp 44) rfl w4.heap.size (.slice X n n) _ rfl ox _ A1 a.length c1 a rfl rfl ra5 ?_
         intro w6 ox6 x6)
    rw [size_eq] at ox6
    have m6 : Mod (fun b => (Value.slice X n n).ownBlock = some b) wc w6 := Mod.of_grown x6 fun k hk => .inl hk
    have oy6 := OwnB.mod oy m6 (fun j hj hx => hxy j hx hj)
    have b6 : Below w4.heap.size w4 w6 := b5.trans (below_app (Below.refl _ _) ox x6 (Nat.le_refl _) b5.size)
    have rb6 := rb.below b6
    generalize goInt ((min a.length (List.replicate n (0 : UInt8)).length : Nat) : Int) = u45
    (try simp only [Act.put, List.setIfInBounds_toArray]); (try simp only [List.set_cons_succ]); (try simp only [List.set_cons_zero])
    clear x6 ox oy m6
    go_upto_region 11 with first
      | (with_reducible show wpList _ _ _ _ _ _
         refine wpList_copyB rfl (.tmp 46) (.tmp 47) rfl w4.heap.size (.slice Y n n) _ rfl oy6 _ A2 b.length c2 b rfl rfl rb6 ?_
         intro w7 oy7 x7)
    rw [size_eq] at oy7
    have m7 : Mod (fun b => (Value.slice Y n n).ownBlock = some b) w6 w7 := Mod.of_grown x7 fun k hk => .inl hk
    have ox7 := OwnB.mod ox6 m7 (fun j hj hx => hxy j hj hx)
    have b7 : Below w4.heap.size w4 w7 := b6.trans (below_app (Below.refl _ _) oy6 x7 (Nat.le_refl _) b6.size)
    generalize goInt ((min b.length (List.replicate n (0 : UInt8)).length : Nat) : Int) = u48
    (try simp only [Act.put, List.setIfInBounds_toArray]); (try simp only [List.set_cons_succ]); (try simp only [List.set_cons_zero])
    clear x7 ox6 oy6 m7 b6 rb6 b5 ra5 rb5 hxy
    have rx : RdB w7 (w4.heap.size ≤ ·) X (sizeO a n) := (show OwnB w7 w4.heap.size (.slice X (sizeO a n).length n) (sizeO a n) from by rw [sizeO_len]; exact ox7).rdG
    have ry : RdB w7 (w4.heap.size ≤ ·) Y (sizeO b n) := (show OwnB w7 w4.heap.size (.slice Y (sizeO b n).length n) (sizeO b n) from by rw [sizeO_len]; exact oy7).rdG
    have bb7 := bb.thenB' b7
    clear ox7 oy7
    go_wp2_with fail
    go_loopw [14, 50] (fun v s wr => ∃ (k : Nat) (L : List Sp), k ≤ n ∧ s = .int .i64 (k : Int) ∧ OwnSp wr w7.heap.size v L ∧ Hid (∀ m : Int, hasS L m = (decide (m < (k : Int)) && diffF a b m)) ∧ L.length ≤ k ∧ Below w7.heap.size w7 wr) (fun _ s _ => n - (intOf s).toNat)
    case atStart => exact ⟨0, [], Nat.zero_le _, rfl, OwnC.nil, Lib.hid (fun m => by
      rw [has_nil]
      by_cases h : m < ((0 : Nat) : Int)
      · rw [diff_out a b m (.inl h), Bool.and_false]
      · rw [decide_eq_false h, Bool.false_and]), Nat.le_refl _, Below.refl _ _⟩
    case round =>
      obtain ⟨k, L, hk, rfl, oL, HU, hLk, bq⟩ := hrel
      by_cases hlt : k < n
      · have hN := diff_nat a b k (by omega)
        have HS := diff_step a b k L (by omega) HU.out
        have hnI : (n : Int) ≤ 512 := by omega
        obtain ⟨ax, rfl, -, cx⟩ := (rx.below bq).at_ (k := k) (by rw [sizeO_len]; exact hlt)
        obtain ⟨ay, rfl, -, cy⟩ := (ry.below bq).at_ (k := k) (by rw [sizeO_len]; exact hlt)
        rw [sizeO_at a n k hlt] at cx
        rw [sizeO_at b n k hlt] at cy
        have hx := cB_bne (atO a k) (atO b k)
        have hx2 : (((atO a k).toNat : Int) != ((atO b k).toNat : Int)) = (diffF a b (k : Int)) := by rw [hx, hN]
        clear hx hN
        generalize ((atO a k).toNat : Int) = x at *
        generalize ((atO b k).toNat : Int) = y at *
        have hkI : (k : Int) < (n : Int) := by omega
        go_upto_region 15 with fail
        go_quiet (fail)
        have bd := below_drewN (Below.refl wr.heap.size wr) nq
        replace oL := OwnC.below oL bd
        replace bq := bq.thenB' bd
        clear bd cx cy
        generalize wr.drewN nq = wq at *
        have HX2 := Lib.hid hx2
        cases hz : diffF a b (k : Int)
        · rw [hz] at hx2
          have HS2 := Lib.hid (HS.2 hz)
          clear hz HS
          have g5 : (x != y) = false := hx2
          go_wp2_with fail
          go_roundw
          case rel => exact ⟨k + 1, L, by omega, by go_num, oL, HS2, by omega, bq⟩
          case measure => simp [intOf] <;> omega
        · rw [hz] at hx2
          have HS2 := Lib.hid (HS.1 hz)
          clear hz HS
          have bn := below_new wq (.cells #[.int .i64 (k : Int), .int .i64 ((k : Int) + 1)] 53)
          have hwB := bq.size
          go_wp2_with first
            | (with_reducible show wpList _ _ _ _ _ _
               refine wpList_appSp rfl (.tmp 62) (.tmp 67) rfl w7.heap.size _ L [((k : Int), (k : Int) + 1)] rfl (OwnC.below oL bn) (· = wq.heap.size) (some ⟨wq.heap.size, 0, none⟩) 1 1 rfl rfl (rd_newSp wq ((k : Int), (k : Int) + 1)) (by simp; omega) (Nat.le_trans hwB bn.size) ?_
               intro v4 w8 o4 x4)
          go_roundw
          case rel => exact ⟨k + 1, L ++ [((k : Int), (k : Int) + 1)], by omega, by go_num, o4, HS2, by simp; omega, (bq.thenB' bn).trans (x4.below (OwnC.below oL bn) (Nat.le_refl _) (Nat.le_trans hwB bn.size))⟩
          case measure => simp [intOf] <;> omega
      · obtain rfl : k = n := by omega
        have HZ := Lib.hid (diff_end a b k L hna hnb HU.out)
        obtain ⟨ao, n9, c9, rfl, hn9, l9, m9⟩ := OwnC.form' oL
        have hcl := Clean_any _ ao c9 L wr (OwnSp.rd oL) (by omega)
        rw [← hn9.out] at hcl
        go_wp2_with fail
        refine hcl.mono ?_
        clear hcl
        rintro e w9 ⟨v9, M, rfl, o9, hM, b9, -⟩
        have HM := Lib.hid hM
        clear hM
        go_wp2_with fail
        (try simp only [Exit.inBlock, Exit.then])
        refine bodyPost_ret (results_tmp2 rfl _ _ _) rfl ?_
        refine ⟨v9, M, by rw [E.out]; rfl, OwnC.low o9 (Nat.le_trans bb7.size bq.size), fun _ => ⟨HM.out.clean, fun m => by rw [HM.out.is m, HR.out]; exact HZ.out m⟩, fun h => absurd E.out h, (bb7.thenB' bq).thenB' b9⟩
end Go.Proofs.Ytcdodchjgadcoaa
