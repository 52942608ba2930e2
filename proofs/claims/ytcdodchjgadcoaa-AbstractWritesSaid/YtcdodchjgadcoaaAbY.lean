/- An image behind operations: what may be may be behind any; behind. -/
import Derived.Test.YtcdodchjgadcoaaAbX
namespace Go.Proofs.Ytcdodchjgadcoaa
open Go.RowKit
set_option linter.unusedVariables false
set_option maxRecDepth 100000

/-! ### what may be may be behind any operation -/
theorem copies_mono {l l' : Int} (h : l ≤ l') : ∀ (a : Int) (S : List (Int × List UInt8)), copiesO l a S = true → copiesO l' a S = true
  | _, [], _ => rfl
  | a, s :: r, hc => by
    rw [copiesO] at hc ⊢
    simp only [Bool.and_eq_true, decide_eq_true_eq] at hc ⊢
    exact ⟨hc.1, by omega, hc.2.2.1, copies_mono h _ _ hc.2.2.2⟩
theorem copies_low {l : Int} {a a' : Int} (h : a' ≤ a) : ∀ (S : List (Int × List UInt8)), copiesO l a S = true → copiesO l a' S = true
  | [], _ => rfl
  | s :: r, hc => by
    rw [copiesO] at hc ⊢
    simp only [Bool.and_eq_true, decide_eq_true_eq] at hc ⊢
    exact ⟨by omega, hc.2⟩
theorem copies_snoc {l : Int} {d : List UInt8} (hd : d.length ≤ 512) : ∀ (a : Int) (S : List (Int × List UInt8)), a ≤ l → copiesO l a S = true → copiesO (l + 1) a (S ++ [(l + 1, d)]) = true
  | a, [], ha, _ => by
    rw [List.nil_append, copiesO]
    simp only [Bool.and_eq_true, decide_eq_true_eq]
    exact ⟨by show a < l + 1; omega, Int.le_refl _, hd, rfl⟩
  | a, s :: r, ha, hc => by
    rw [List.cons_append, copiesO]
    rw [copiesO] at hc
    simp only [Bool.and_eq_true, decide_eq_true_eq] at hc ⊢
    exact ⟨hc.1, by omega, hc.2.2.1, copies_snoc hd _ _ hc.2.1 hc.2.2.2⟩
theorem copies_erase {l : Int} : ∀ (a : Int) (S : List (Int × List UInt8)) (k : Nat), copiesO l a S = true → copiesO l a (S.eraseIdx k) = true
  | _, [], _, _ => rfl
  | a, s :: r, 0, hc => by
    rw [copiesO] at hc
    simp only [Bool.and_eq_true, decide_eq_true_eq] at hc
    exact copies_low (by omega) _ hc.2.2.2
  | a, s :: r, k + 1, hc => by
    rw [List.eraseIdx_cons_succ, copiesO]
    rw [copiesO] at hc
    simp only [Bool.and_eq_true, decide_eq_true_eq] at hc ⊢
    exact ⟨hc.1, hc.2.1, hc.2.2.1, copies_erase _ _ _ hc.2.2.2⟩
theorem mayI_of {p : PI} (h1 : p.d.length ≤ 512) (h2 : p.S.length ≤ 4) (h3 : 0 ≤ p.last) (h4 : p.last ≤ 100) (h5 : copiesO p.last 0 p.S = true) : mayI p = true := by
  unfold mayI
  rw [decide_eq_true h1, decide_eq_true h2, decide_eq_true h3, decide_eq_true h4, h5]; rfl
theorem newP_may (z : Int) : mayI (newP z) = true := mayI_of (by unfold newP; rw [List.length_replicate]; exact (newN_eq z).2) (Nat.zero_le _) (Int.le_refl _) (by show (0 : Int) ≤ 100; decide) rfl
theorem doP_ok {p : PI} {e : E7} (hm : mayI p = true) (h0 : (doP p e).2.2 = 0) : mayE e = true := by
  cases h : mayE e
  · rw [doP_b hm h] at h0; cases h0
  · rfl
theorem doP_may {p : PI} {e : E7} (hm : mayI p = true) (h0 : (doP p e).2.2 = 0) : mayI (doP p e).1 = true := by
  have he := doP_ok hm h0
  have hp := of_decide_eq_true (show decide (mayP e) = true from he)
  obtain ⟨b1, b2, b3, b4, b5⟩ := mayI_bd hm
  rw [doP_c hm he] at h0 ⊢
  unfold mayP at hp
  split at h0
  · rename_i hk
    rw [if_pos hk]
    split at h0
    · cases h0
    · rename_i h1
      rw [if_neg h1]
      refine mayI_of ?_ b2 b3 b4 b5
      show (laidO _ _ _).length ≤ 512
      rw [laidO_len _ _ _ (by omega)]; exact b1
  · rename_i hk
    rw [if_neg hk]
    split at h0
    · rename_i hk2
      rw [if_pos hk2]
      split at h0
      · cases h0
      · rename_i h1
        rw [if_neg h1]
        refine mayI_of ?_ b2 b3 b4 b5
        show (laidO _ _ _).length ≤ 512
        rw [laidO_len _ _ _ (by rw [List.length_replicate]; omega)]; exact b1
    · rename_i hk2
      rw [if_neg hk2]
      split at h0
      · rename_i hk3
        rw [if_pos hk3]
        exact mayI_of (by show (sizeO _ _).length ≤ 512; rw [sizeO_len]; omega) b2 b3 b4 b5
      · rename_i hk3
        rw [if_neg hk3]
        split at h0
        · rename_i hk4
          rw [if_pos hk4]
          split at h0
          · cases h0
          · rename_i h1
            rw [if_neg h1]
            exact mayI_of b1 (by show (p.S ++ [_]).length ≤ 4; rw [List.length_append, List.length_singleton]; omega) (by show 0 ≤ p.last + 1; omega) (by show p.last + 1 ≤ 100; omega) (copies_snoc b1 0 p.S b3 b5)
        · rename_i hk4
          rw [if_neg hk4]
          split at h0
          · cases h0
          · rename_i h1
            rw [if_neg h1]
            split at h0
            · rename_i hk5
              rw [if_pos hk5]
              exact mayI_of b1 (by show (p.S.eraseIdx _).length ≤ 4; have := List.length_eraseIdx_le p.S (findO (idsP p.S) e.snap).toNat; omega) b3 b4 (copies_erase 0 p.S _ b5)
            · rename_i hk5
              rw [if_neg hk5]
              refine mayI_of ?_ b2 b3 b4 b5
              show ((p.S.getD _ (0, [])).2).length ≤ 512
              rw [List.getD_eq_getElem?_getD]
              cases hq : p.S[(findO (idsP p.S) e.snap).toNat]? with
              | none => decide
              | some s => exact (copiesO_bd _ _ _ b5 s (List.mem_of_getElem? hq)).1

/-! ### a row of entries, read -/
theorem below_mod {B : Nat} {a b : World} (h : Below B a b) : Mod (fun i => B ≤ i) a b := ⟨h.os, h.tape, h.output, h.size, fun i hi hx => h.block i (by omega)⟩
theorem RdL.ev {w : World} {D : Nat → Prop} {ad : Addr} {L : List EV} (h : RdL w D 7 evC (some ad) L) {k : Nat} (hi : k < L.length) :
    w.cell? (ad.add (k * 7)) = some (.int .i64 L[k].e.seq) ∧ w.cell? ⟨(ad.add (k * 7)).block, (ad.add (k * 7)).off + 1, none⟩ = some (.int .i64 L[k].e.owner) ∧ w.cell? ⟨(ad.add (k * 7)).block, (ad.add (k * 7)).off + 2, none⟩ = some (.int .i64 L[k].e.kind) ∧
    w.cell? ⟨(ad.add (k * 7)).block, (ad.add (k * 7)).off + 3, none⟩ = some (.int .i64 L[k].e.off) ∧ w.cell? ⟨(ad.add (k * 7)).block, (ad.add (k * 7)).off + 4, none⟩ = some (.int .i64 L[k].e.len) ∧ w.cell? ⟨(ad.add (k * 7)).block, (ad.add (k * 7)).off + 5, none⟩ = some (.int .i64 L[k].e.snap) ∧
    w.cell? ⟨(ad.add (k * 7)).block, (ad.add (k * 7)).off + 6, none⟩ = some (.slice L[k].A L[k].e.data.length L[k].c) := by
  obtain ⟨ad', e, _, hc⟩ := h (by omega)
  injection e with e
  subst e
  have hL := List.getElem?_eq_getElem hi
  exact ⟨hc k _ hL 0 _ rfl, by rw [← add_at _ _ 0]; exact hc k _ hL 1 _ rfl, by rw [← add_at _ _ 1]; exact hc k _ hL 2 _ rfl, by rw [← add_at _ _ 2]; exact hc k _ hL 3 _ rfl,
    by rw [← add_at _ _ 3]; exact hc k _ hL 4 _ rfl, by rw [← add_at _ _ 4]; exact hc k _ hL 5 _ rfl, by rw [← add_at _ _ 5]; exact hc k _ hL 6 _ rfl⟩
theorem RdL.some_ad {w : World} {D : Nat → Prop} {A : Option Addr} {L : List EV} (h : RdL w D 7 evC A L) {k : Nat} (hi : k < L.length) : ∃ ad, A = some ad := by
  obtain ⟨ad, e, _⟩ := h (by omega)
  exact ⟨ad, e⟩

set_option maxHeartbeats 8000000 in
theorem behind_any (z : Int) (A : Option Addr) (L : List EV) (c : Nat) (w : World) (hL : RdL w (Old w) 7 evC A L) (hlc : L.length ≤ c) (hcm : c ≤ 9223372036854775807) (hS : ∀ s ∈ L, EvR w (Old w) s) :
    Calls Try.prog 17 #[.int .i64 z, .slice A L.length c] w fun e w' => ∃ i : ImV, e = .returned (.agg (imA i)) ∧ mayI i.p = true ∧ ImR w' (fun _ => True) i ∧ Below w.heap.size w w' := by
  have b0 := below_new w (.cells #[.slice none 0 0, .slice none 0 0, .int .i64 0] 25)
  have hQ := Blk.new w 25 #[.slice none 0 0, .slice none 0 0, .int .i64 0]
  have hn := New18_any z (w.alloc (.cells #[.slice none 0 0, .slice none 0 0, .int .i64 0] 25))
  have hgw := hQ.lt
  generalize hw0 : w.alloc (.cells #[.slice none 0 0, .slice none 0 0, .int .i64 0] 25) = w0 at *
  go_enter Try.func17, Try.ntmps17
  go_wp2_with fail
  refine hn.mono ?_
  clear hn hw0
  rintro e w1 ⟨i0, rfl, hp0, oI, b1⟩
  have rI := (oI.rd).imp (D' := fun b => w0.heap.size ≤ b ∧ b < w1.heap.size) fun b hb h => ⟨h, hb⟩
  have HI0 : Hid (mayI i0.p = true) := by unfold Hid; rw [hp0]; exact newP_may z
  clear hp0 oI
  have bn := below_new w1 (.cells #[.slice none 0 0, .slice none 0 0, .int .i64 0] 25)
  have hM := Blk.new w1 25 #[.slice none 0 0, .slice none 0 0, .int .i64 0]
  replace hQ := (hQ.below b1).below bn
  have bb := (b0.thenB' b1).thenB' bn
  have hs1 := b1.size
  replace rI := rI.below bn
  have hszn := hM.lt
  go_wp2_with first
    | (with_reducible show wpList _ _ _ _ _ _
       refine wpList_rowB rfl 25 (.tmp 5) (.tmp 11) rfl w1.heap.size 25 _ (imA i0) rfl rfl hM infoIm rfl (imA_ok _) ?_
       intro w2 hM2 m2)
  replace hQ := hQ.mod m2 (by omega)
  have rI2 : ImR w2 (fun b => b ≠ w1.heap.size ∧ b ≠ w.heap.size) i0 := (rI.mod m2 fun b hb e => by omega).imp fun b hb h => ⟨by omega, by omega⟩
  have bb2 := bb.thenM m2 bb.size (fun i hi e => by omega)
  have hQ2 : Mod (fun b => b ≠ w.heap.size) w2 w2 := Mod.refl _ _
  clear b0 b1 bn hM bb rI m2
  go_loopw [6] (fun s wr => ∃ (k : Nat) (i : ImV), k ≤ 40 ∧ k ≤ L.length ∧ s = .int .i64 (k : Int) ∧ Blk wr w1.heap.size 25 (imA i) ∧ Hid (mayI i.p = true) ∧ ImR wr (fun b => b ≠ w1.heap.size ∧ b ≠ w.heap.size) i ∧ Blk wr w.heap.size 25 #[.slice none 0 0, .slice none 0 0, .int .i64 0] ∧ Below w.heap.size w wr) (fun s _ => 40 - (intOf s).toNat)
  case atStart => exact ⟨0, i0, by decide, Nat.zero_le _, rfl, hM2, HI0, rI2, hQ, bb2⟩
  case round =>
    clear hM2 HI0 rI2 bb2 hQ2 hQ
    obtain ⟨k, i, hk, hkl, rfl, hM, HI, rI, hQ, bb⟩ := hrel
    have hgM : w1.heap.size < wr.heap.size := hM.lt
    have hgB : w.heap.size < wr.heap.size := hQ.lt
    by_cases hk40 : (k : Int) < 40
    rotate_left
    focus
      by_cases hlt : (k : Int) < (L.length : Int)
      all_goals
        go_wp2_with first
          | (with_reducible show wpList _ _ _ _ _ _
             refine wpList_load_row rfl 25 (.tmp 5) rfl w1.heap.size rfl 25 _ (0, 0) _ hM Try.underlying25 rfl infoIm ?_)
          | (with_reducible show wpList _ _ _ _ _ _
             refine wpList_rowB rfl 25 (.tmp 4) (.tmp 42) rfl w.heap.size 25 _ (imA i) rfl rfl hQ infoIm rfl (imA_ok _) ?_
             intro wz hq4 m4)
        (try simp only [Exit.inBlock, Exit.then])
        refine bodyPost_ret (results_cell1 rfl _ _ w.heap.size _ _ (0, 0) _ rfl hq4 Try.underlying25 rfl infoIm) rfl ?_
        exact ⟨i, rfl, HI.out, (rI.mod m4 fun b hb e => hb.2 e).imp fun _ _ _ => trivial, bb.thenM m4 bb.size (fun i hi e => by omega)⟩
    by_cases hltI : (k : Int) < (L.length : Int)
    rotate_left
    focus
      go_wp2_with first
        | (with_reducible show wpList _ _ _ _ _ _
           refine wpList_load_row rfl 25 (.tmp 5) rfl w1.heap.size rfl 25 _ (0, 0) _ hM Try.underlying25 rfl infoIm ?_)
        | (with_reducible show wpList _ _ _ _ _ _
           refine wpList_rowB rfl 25 (.tmp 4) (.tmp 42) rfl w.heap.size 25 _ (imA i) rfl rfl hQ infoIm rfl (imA_ok _) ?_
           intro wz hq4 m4)
      (try simp only [Exit.inBlock, Exit.then])
      refine bodyPost_ret (results_cell1 rfl _ _ w.heap.size _ _ (0, 0) _ rfl hq4 Try.underlying25 rfl infoIm) rfl ?_
      exact ⟨i, rfl, HI.out, (rI.mod m4 fun b hb e => hb.2 e).imp fun _ _ _ => trivial, bb.thenM m4 bb.size (fun i hi e => by omega)⟩
    have hlt : k < L.length := by omega
    have hLr := RdL.below hL bb
    obtain ⟨ad, rfl⟩ := hLr.some_ad hlt
    obtain ⟨j0, j1, j2, j3, j4, j5, j6⟩ := hLr.ev hlt
    obtain ⟨rdd, ls, ms⟩ := (hS L[k] (List.getElem_mem hlt)).below bb
    obtain ⟨s, hs⟩ : ∃ s, s = L[k] := ⟨_, rfl⟩
    simp only [← hs] at j0 j1 j2 j3 j4 j5 j6 rdd ls ms
    have HS := Lib.hid hs
    clear hs
    have hLI : (L.length : Int) ≤ 9223372036854775807 := by omega
    by_cases h2 : (200 : Int) < (s.e.data.length : Int)
    focus
      go_wp2_with fail
      go_roundw
      case rel => exact ⟨k + 1, i, by omega, by omega, by go_num, hM, HI, rI, hQ, bb⟩
      case measure => simp [intOf] <;> omega
    clear j0 j1 j2 j3 j4 j5
    go_upto_region 6 with fail
    clear j6
    refine r_start (R := RW wr.heap.size) (by rfl) (n := 14) (L := #[false, false, false, false, false, false, false, false, false, false, false, false, false, false]) rfl rfl ?_
    have bd : Below wr.heap.size wr wr.drew := (Below.refl _ _).drew
    have hM := hM.below bd
    have rI : ImR wr.drew (fun b => (b ≠ w1.heap.size ∧ b ≠ w.heap.size) ∧ b < wr.heap.size) i := (rI.imp fun b hb h => ⟨h, hb⟩).below bd
    have rdd := rdd.below bd
    have hLd := hLr.below bd
    have bb := bb.thenB' bd
    have hQ := hQ.below bd
    have hgB : w.heap.size < wr.heap.size := hgB
    have hgM : w1.heap.size < wr.heap.size := hgM
    have hsz : wr.heap.size ≤ wr.drew.heap.size := bd.size
    clear bd
    generalize wr.drew = wd at *
    have hM0 := hM
    have hdo := fun V q q2 => Do_any (fun b => (b ≠ w1.heap.size ∧ b ≠ w.heap.size) ∧ b < wr.heap.size) (Old w) i s.e s.A s.c V q q2 ls ms
    unfold enV enA at hdo
    (try dsimp only at hdo)
    refine r_flt (RW_refl _) 0 30 #[true, false, false, false, false, false, false, false, false, false, false, false, false, false] (by simp only [List.getElem?_toArray, List.getElem?_cons_zero]; rfl) (by rfl) (by kernel_rfl) (by kernel_rfl) (by kernel_rfl) (fun _ _ _ _ h => h) rfl (by rfl) ?_
    apply Exists.intro
    apply And.intro
    · intro W hW
      exact exec_load_row rfl rfl (hM0.mod (below_mod hW) (by omega)) Try.underlying25 infoIm
    (try simp only [Act.put, List.setIfInBounds_toArray]); (try simp only [List.set_cons_succ]); (try simp only [List.set_cons_zero])
    refine r_flt (RW_refl _) 1 31 #[true, true, false, false, false, false, false, false, false, false, false, false, false, false] (by simp only [List.getElem?_toArray, List.getElem?_cons_succ, List.getElem?_cons_zero]; rfl) (by rfl) (by kernel_rfl) (by kernel_rfl) (by kernel_rfl) (fun _ _ _ _ h => h) rfl (by rfl) ?_
    apply Exists.intro
    apply And.intro
    · intro W hW
      first | (go_simp; with_reducible rfl) | go_simp
    (try simp only [Act.put, List.setIfInBounds_toArray]); (try simp only [List.set_cons_succ]); (try simp only [List.set_cons_zero])
    refine r_flt (RW_refl _) 2 32 #[true, true, true, false, false, false, false, false, false, false, false, false, false, false] (by simp only [List.getElem?_toArray, List.getElem?_cons_succ, List.getElem?_cons_zero]; rfl) (by rfl) (by kernel_rfl) (by kernel_rfl) (by kernel_rfl) (fun _ _ _ _ h => h) rfl (by rfl) ?_
    apply Exists.intro
    apply And.intro
    · intro W hW
      first | (go_simp; with_reducible rfl) | go_simp
    (try simp only [Act.put, List.setIfInBounds_toArray]); (try simp only [List.set_cons_succ]); (try simp only [List.set_cons_zero])
    refine r_flt (RW_refl _) 3 33 #[true, true, true, true, false, false, false, false, false, false, false, false, false, false] (by simp only [List.getElem?_toArray, List.getElem?_cons_succ, List.getElem?_cons_zero]; rfl) (by rfl) (by kernel_rfl) (by kernel_rfl) (by kernel_rfl) (fun _ _ _ _ h => h) rfl (by rfl) ?_
    apply Exists.intro
    apply And.intro
    · intro W hW
      first | (go_simp; with_reducible rfl) | go_simp
    (try simp only [Act.put, List.setIfInBounds_toArray]); (try simp only [List.set_cons_succ]); (try simp only [List.set_cons_zero])
    refine r_flt (RW_refl _) 4 34 #[true, true, true, true, true, false, false, false, false, false, false, false, false, false] (by simp only [List.getElem?_toArray, List.getElem?_cons_succ, List.getElem?_cons_zero]; rfl) (by rfl) (by kernel_rfl) (by kernel_rfl) (by kernel_rfl) (fun _ _ _ _ h => h) rfl (by rfl) ?_
    apply Exists.intro
    apply And.intro
    · intro W hW
      obtain ⟨j0, j1, j2, j3, j4, j5, j6⟩ := (hLd.mod (below_mod hW) fun b hb hx => by have : b < w.heap.size := hb; omega).ev hlt
      simp only [← HS.out] at j0 j1 j2 j3 j4 j5 j6
      go_simp; rfl
    (try simp only [Act.put, List.setIfInBounds_toArray]); (try simp only [List.set_cons_succ]); (try simp only [List.set_cons_zero])
    refine r_two (RW_trans _) 5 10 (by kernel_rfl) ?_ ?_
    ·
      refine alt_call 35 #[true, true, true, true, true, true, false, false, false, false, false, false, false, false] (by simp only [List.getElem?_toArray, List.getElem?_cons_succ, List.getElem?_cons_zero]; rfl) (by rfl) rfl (by rfl) (by go_simp; first | exact ⟨rfl, rfl⟩ | rfl) ?_
      with_reducible refine (hdo _ rI rdd).mono ?_
      clear hdo
      rintro e' w9 ⟨j, rfl, hj, oJ, b9⟩
      refine ⟨_, rfl, ⟨b9.os, b9.tape, b9.output, b9.size, fun k hk => b9.block k (by omega)⟩, ?_⟩
      have hM := hM.below b9
      have rI := rI.below b9
      have bb := bb.thenB' b9
      replace hQ := hQ.below b9
      have hs9 : wr.heap.size ≤ w9.heap.size := Nat.le_trans hsz b9.size
      have rJ := (oJ.rd).imp (D' := fun b => wr.heap.size ≤ b ∧ b < w9.heap.size) fun b hb h => ⟨Nat.le_trans hsz h, hb⟩
      clear b9 oJ rdd hLd hM0
      (try simp only [Act.put, List.setIfInBounds_toArray]); (try simp only [List.set_cons_succ]); (try simp only [List.set_cons_zero])
      refine r_flt (RW_refl _) 6 29 #[true, true, true, true, true, true, true, false, false, false, false, false, false, false] (by simp only [List.getElem?_toArray, List.getElem?_cons_succ, List.getElem?_cons_zero]; rfl) (by rfl) (by kernel_rfl) (by kernel_rfl) (by kernel_rfl) (fun _ _ _ _ h => h) rfl (by rfl) ?_
      apply Exists.intro
      apply And.intro
      · intro W hW
        first | (go_simp; with_reducible rfl) | go_simp
      (try simp only [Act.put, List.setIfInBounds_toArray]); (try simp only [List.set_cons_succ]); (try simp only [List.set_cons_zero])
      refine r_flt (RW_refl _) 7 36 #[true, true, true, true, true, true, true, true, false, false, false, false, false, false] (by simp only [List.getElem?_toArray, List.getElem?_cons_succ, List.getElem?_cons_zero]; rfl) (by rfl) (by kernel_rfl) (by kernel_rfl) (by kernel_rfl) (fun _ _ _ _ h => h) rfl (by rfl) ?_
      apply Exists.intro
      apply And.intro
      · intro W hW
        first | (go_simp; with_reducible rfl) | go_simp
      (try simp only [Act.put, List.setIfInBounds_toArray]); (try simp only [List.set_cons_succ]); (try simp only [List.set_cons_zero])
      refine r_flt (RW_refl _) 8 37 #[true, true, true, true, true, true, true, true, true, false, false, false, false, false] (by simp only [List.getElem?_toArray, List.getElem?_cons_succ, List.getElem?_cons_zero]; rfl) (by rfl) (by kernel_rfl) (by kernel_rfl) (by kernel_rfl) (fun _ _ _ _ h => h) rfl (by rfl) ?_
      apply Exists.intro
      apply And.intro
      · intro W hW
        first | (go_simp; with_reducible rfl) | go_simp
      (try simp only [Act.put, List.setIfInBounds_toArray]); (try simp only [List.set_cons_succ]); (try simp only [List.set_cons_zero])
      refine r_flt (RW_refl _) 9 38 #[true, true, true, true, true, true, true, true, true, true, false, false, false, false] (by simp only [List.getElem?_toArray, List.getElem?_cons_succ, List.getElem?_cons_zero]; rfl) (by rfl) (by kernel_rfl) (by kernel_rfl) (by kernel_rfl) (fun _ _ _ _ h => h) rfl (by rfl) ?_
      apply Exists.intro
      apply And.intro
      · intro W hW
        first | (go_simp; with_reducible rfl) | go_simp
      (try simp only [Act.put, List.setIfInBounds_toArray]); (try simp only [List.set_cons_succ]); (try simp only [List.set_cons_zero])
      refine r_one (RW_trans _) 10 (by kernel_rfl) ?_
      refine alt_val 7 #[true, true, true, true, true, true, true, true, true, true, true, false, false, false] (by simp only [List.getElem?_toArray, List.getElem?_cons_succ, List.getElem?_cons_zero]; rfl) (by rfl) rfl (by rfl) (by go_simp; first | exact ⟨rfl, rfl⟩ | rfl) ?_ ?_
      · exact RW_new _ _ _ hs9
      have bn := below_new w9 (.cells #[.slice none 0 0, .slice none 0 0, .int .i64 0] 25)
      have hN := Blk.new w9 25 #[.slice none 0 0, .slice none 0 0, .int .i64 0]
      have hM := hM.below bn
      have rI := rI.below bn
      have bb := bb.thenB' bn
      replace hQ := hQ.below bn
      have rJ : ImR _ (fun b => wr.heap.size ≤ b ∧ b ≠ w9.heap.size) j := (rJ.imp fun b hb h => ⟨h.1, by omega⟩).below bn
      have hNl := hN.lt
      generalize w9.alloc (.cells #[.slice none 0 0, .slice none 0 0, .int .i64 0] 25) = WN at *
      clear bn
      generalize w9.heap.size = gN at *
      have hgN := hs9
      (try simp only [Act.put, List.setIfInBounds_toArray]); (try simp only [List.set_cons_succ]); (try simp only [List.set_cons_zero])
      refine r_one (RW_trans _) 11 (by kernel_rfl) ?_
      refine alt_none #[true, true, true, true, true, true, true, true, true, true, true, true, false, false] (by simp only [List.getElem?_toArray, List.getElem?_cons_succ, List.getElem?_cons_zero]; rfl) (by rfl) rfl (by rfl) (exec_store_row (cells := imA j) rfl rfl rfl hN infoIm rfl (imA_ok _)) ?_ ?_
      · exact (Below.refl _ _).thenM (mod_setRow _) (by omega) (fun i hi e => by omega)
      (try simp only [Act.put, List.setIfInBounds_toArray]); (try simp only [List.set_cons_succ]); (try simp only [List.set_cons_zero])
      refine r_flt (RW_refl _) 12 8 #[true, true, true, true, true, true, true, true, true, true, true, true, true, false] (by simp only [List.getElem?_toArray, List.getElem?_cons_succ, List.getElem?_cons_zero]; rfl) (by rfl) (by kernel_rfl) (by kernel_rfl) (by kernel_rfl) (fun _ _ _ _ h => h) rfl (by rfl) ?_
      apply Exists.intro
      apply And.intro
      · intro W hW
        first | (go_simp; with_reducible rfl) | go_simp
      (try simp only [Act.put, List.setIfInBounds_toArray]); (try simp only [List.set_cons_succ]); (try simp only [List.set_cons_zero])
      refine r_flt (RW_refl _) 13 9 #[true, true, true, true, true, true, true, true, true, true, true, true, true, true] (by simp only [List.getElem?_toArray, List.getElem?_cons_succ, List.getElem?_cons_zero]; rfl) (by rfl) (by kernel_rfl) (by kernel_rfl) (by kernel_rfl) (fun _ _ _ _ h => h) rfl (by rfl) ?_
      apply Exists.intro
      apply And.intro
      · intro W hW
        first | (go_simp; with_reducible rfl) | go_simp
      (try simp only [Act.put, List.setIfInBounds_toArray]); (try simp only [List.set_cons_succ]); (try simp only [List.set_cons_zero])
      refine r_done (by kernel_rfl) ?_
      have m11 : Mod (· = gN) WN (WN.setRow gN (imA j)) := mod_setRow _
      replace hN : Blk (WN.setRow gN (imA j)) gN 25 (imA j) := setRow_heap _ _ _ (imA j) _ _ hN
      replace hM := hM.mod m11 (by omega)
      replace hQ := hQ.mod m11 (by omega)
      replace rJ := (rJ.mod m11 fun b hb e => hb.2 e)
      replace rI := rI.mod m11 fun b hb e => by have := hb.2; omega
      replace bb := bb.thenM m11 (by omega) (fun i hi e => by omega)
      have hszx : wr.heap.size < (WN.setRow gN (imA j)).heap.size := by have := m11.size; omega
      clear m11
      generalize WN.setRow gN (imA j) = wx at *
      by_cases hz : (doP i.p s.e).2.2 = 0
      · rw [hz]
        have HJ : Hid (mayI j.p = true) := by unfold Hid; rw [hj]; exact doP_may HI.out hz
        clear hj hz
        go_wp2_with first
          | (with_reducible show wpList _ _ _ _ _ _
             refine wpList_load_row rfl 25 (.tmp 7) rfl gN rfl 25 _ (0, 0) _ hN Try.underlying25 rfl infoIm ?_)
          | (with_reducible show wpList _ _ _ _ _ _
             refine wpList_rowB rfl 25 (.tmp 5) (.tmp 41) rfl w1.heap.size 25 _ (imA j) rfl rfl hM infoIm rfl (imA_ok _) ?_
             intro wy hM2 m2)
        go_roundw
        case rel => exact ⟨k + 1, j, by omega, by omega, by go_num, hM2, HJ, (rJ.mod m2 fun b hb e => by omega).imp (fun b _ hb => ⟨by omega, by omega⟩), hQ.mod m2 (by omega), bb.thenM m2 bb.size (fun i hi e => by omega)⟩
        case measure => simp [intOf] <;> omega
      · have hz' : ((doP i.p s.e).2.2 == 0) = false := by simp [hz]
        clear hj hz
        generalize (doP i.p s.e).2.2 = ee at *
        go_wp2_with fail
        go_roundw
        case rel => exact ⟨k + 1, i, by omega, by omega, by go_num, hM, HI, rI.imp (fun b _ hb => hb.1), hQ, bb⟩
        case measure => simp [intOf] <;> omega
    ·
      refine alt_val 7 #[true, true, true, true, true, false, false, false, false, false, true, false, false, false] (by simp only [List.getElem?_toArray, List.getElem?_cons_succ, List.getElem?_cons_zero]; rfl) (by rfl) rfl (by rfl) (by go_simp; first | exact ⟨rfl, rfl⟩ | rfl) ?_ ?_
      · exact RW_new _ _ _ hsz
      have bn := below_new wd (.cells #[.slice none 0 0, .slice none 0 0, .int .i64 0] 25)
      have hN := Blk.new wd 25 #[.slice none 0 0, .slice none 0 0, .int .i64 0]
      have hM := hM.below bn
      have rI := rI.below bn
      have rdd := rdd.below bn
      have bb := bb.thenB' bn
      replace hQ := hQ.below bn
      have hNl := hN.lt
      generalize wd.alloc (.cells #[.slice none 0 0, .slice none 0 0, .int .i64 0] 25) = wm at *
      clear bn
      generalize wd.heap.size = gN at *
      have hgN := hsz
      (try simp only [Act.put, List.setIfInBounds_toArray]); (try simp only [List.set_cons_succ]); (try simp only [List.set_cons_zero])
      refine r_one (RW_trans _) 5 (by kernel_rfl) ?_
      refine alt_call 35 #[true, true, true, true, true, true, false, false, false, false, true, false, false, false] (by simp only [List.getElem?_toArray, List.getElem?_cons_succ, List.getElem?_cons_zero]; rfl) (by rfl) rfl (by rfl) (by go_simp; first | exact ⟨rfl, rfl⟩ | rfl) ?_
      with_reducible refine (hdo _ rI rdd).mono ?_
      clear hdo
      rintro e' WN ⟨j, rfl, hj, oJ, b9⟩
      refine ⟨_, rfl, ⟨b9.os, b9.tape, b9.output, b9.size, fun k hk => b9.block k (by omega)⟩, ?_⟩
      have hM := hM.below b9
      have rI := rI.below b9
      have bb := bb.thenB' b9
      replace hQ := hQ.below b9
      have hN := hN.below b9
      have rJ := (oJ.rd).imp (D' := fun b => wr.heap.size ≤ b ∧ b ≠ gN) fun b hb h => ⟨by omega, by omega⟩
      have hNl := Nat.lt_of_lt_of_le hNl b9.size
      clear b9 oJ rdd hLd hM0
      (try simp only [Act.put, List.setIfInBounds_toArray]); (try simp only [List.set_cons_succ]); (try simp only [List.set_cons_zero])
      refine r_flt (RW_refl _) 6 29 #[true, true, true, true, true, true, true, false, false, false, true, false, false, false] (by simp only [List.getElem?_toArray, List.getElem?_cons_succ, List.getElem?_cons_zero]; rfl) (by rfl) (by kernel_rfl) (by kernel_rfl) (by kernel_rfl) (fun _ _ _ _ h => h) rfl (by rfl) ?_
      apply Exists.intro
      apply And.intro
      · intro W hW
        first | (go_simp; with_reducible rfl) | go_simp
      (try simp only [Act.put, List.setIfInBounds_toArray]); (try simp only [List.set_cons_succ]); (try simp only [List.set_cons_zero])
      refine r_flt (RW_refl _) 7 36 #[true, true, true, true, true, true, true, true, false, false, true, false, false, false] (by simp only [List.getElem?_toArray, List.getElem?_cons_succ, List.getElem?_cons_zero]; rfl) (by rfl) (by kernel_rfl) (by kernel_rfl) (by kernel_rfl) (fun _ _ _ _ h => h) rfl (by rfl) ?_
      apply Exists.intro
      apply And.intro
      · intro W hW
        first | (go_simp; with_reducible rfl) | go_simp
      (try simp only [Act.put, List.setIfInBounds_toArray]); (try simp only [List.set_cons_succ]); (try simp only [List.set_cons_zero])
      refine r_flt (RW_refl _) 8 37 #[true, true, true, true, true, true, true, true, true, false, true, false, false, false] (by simp only [List.getElem?_toArray, List.getElem?_cons_succ, List.getElem?_cons_zero]; rfl) (by rfl) (by kernel_rfl) (by kernel_rfl) (by kernel_rfl) (fun _ _ _ _ h => h) rfl (by rfl) ?_
      apply Exists.intro
      apply And.intro
      · intro W hW
        first | (go_simp; with_reducible rfl) | go_simp
      (try simp only [Act.put, List.setIfInBounds_toArray]); (try simp only [List.set_cons_succ]); (try simp only [List.set_cons_zero])
      refine r_flt (RW_refl _) 9 38 #[true, true, true, true, true, true, true, true, true, true, true, false, false, false] (by simp only [List.getElem?_toArray, List.getElem?_cons_succ, List.getElem?_cons_zero]; rfl) (by rfl) (by kernel_rfl) (by kernel_rfl) (by kernel_rfl) (fun _ _ _ _ h => h) rfl (by rfl) ?_
      apply Exists.intro
      apply And.intro
      · intro W hW
        first | (go_simp; with_reducible rfl) | go_simp
      (try simp only [Act.put, List.setIfInBounds_toArray]); (try simp only [List.set_cons_succ]); (try simp only [List.set_cons_zero])
      refine r_one (RW_trans _) 11 (by kernel_rfl) ?_
      refine alt_none #[true, true, true, true, true, true, true, true, true, true, true, true, false, false] (by simp only [List.getElem?_toArray, List.getElem?_cons_succ, List.getElem?_cons_zero]; rfl) (by rfl) rfl (by rfl) (exec_store_row (cells := imA j) rfl rfl rfl hN infoIm rfl (imA_ok _)) ?_ ?_
      · exact (Below.refl _ _).thenM (mod_setRow _) (by omega) (fun i hi e => by omega)
      (try simp only [Act.put, List.setIfInBounds_toArray]); (try simp only [List.set_cons_succ]); (try simp only [List.set_cons_zero])
      refine r_flt (RW_refl _) 12 8 #[true, true, true, true, true, true, true, true, true, true, true, true, true, false] (by simp only [List.getElem?_toArray, List.getElem?_cons_succ, List.getElem?_cons_zero]; rfl) (by rfl) (by kernel_rfl) (by kernel_rfl) (by kernel_rfl) (fun _ _ _ _ h => h) rfl (by rfl) ?_
      apply Exists.intro
      apply And.intro
      · intro W hW
        first | (go_simp; with_reducible rfl) | go_simp
      (try simp only [Act.put, List.setIfInBounds_toArray]); (try simp only [List.set_cons_succ]); (try simp only [List.set_cons_zero])
      refine r_flt (RW_refl _) 13 9 #[true, true, true, true, true, true, true, true, true, true, true, true, true, true] (by simp only [List.getElem?_toArray, List.getElem?_cons_succ, List.getElem?_cons_zero]; rfl) (by rfl) (by kernel_rfl) (by kernel_rfl) (by kernel_rfl) (fun _ _ _ _ h => h) rfl (by rfl) ?_
      apply Exists.intro
      apply And.intro
      · intro W hW
        first | (go_simp; with_reducible rfl) | go_simp
      (try simp only [Act.put, List.setIfInBounds_toArray]); (try simp only [List.set_cons_succ]); (try simp only [List.set_cons_zero])
      refine r_done (by kernel_rfl) ?_
      have m11 : Mod (· = gN) WN (WN.setRow gN (imA j)) := mod_setRow _
      replace hN : Blk (WN.setRow gN (imA j)) gN 25 (imA j) := setRow_heap _ _ _ (imA j) _ _ hN
      replace hM := hM.mod m11 (by omega)
      replace hQ := hQ.mod m11 (by omega)
      replace rJ := (rJ.mod m11 fun b hb e => hb.2 e)
      replace rI := rI.mod m11 fun b hb e => by have := hb.2; omega
      replace bb := bb.thenM m11 (by omega) (fun i hi e => by omega)
      have hszx : wr.heap.size < (WN.setRow gN (imA j)).heap.size := by have := m11.size; omega
      clear m11
      generalize WN.setRow gN (imA j) = wx at *
      by_cases hz : (doP i.p s.e).2.2 = 0
      · rw [hz]
        have HJ : Hid (mayI j.p = true) := by unfold Hid; rw [hj]; exact doP_may HI.out hz
        clear hj hz
        go_wp2_with first
          | (with_reducible show wpList _ _ _ _ _ _
             refine wpList_load_row rfl 25 (.tmp 7) rfl gN rfl 25 _ (0, 0) _ hN Try.underlying25 rfl infoIm ?_)
          | (with_reducible show wpList _ _ _ _ _ _
             refine wpList_rowB rfl 25 (.tmp 5) (.tmp 41) rfl w1.heap.size 25 _ (imA j) rfl rfl hM infoIm rfl (imA_ok _) ?_
             intro wy hM2 m2)
        go_roundw
        case rel => exact ⟨k + 1, j, by omega, by omega, by go_num, hM2, HJ, (rJ.mod m2 fun b hb e => by omega).imp (fun b _ hb => ⟨by omega, by omega⟩), hQ.mod m2 (by omega), bb.thenM m2 bb.size (fun i hi e => by omega)⟩
        case measure => simp [intOf] <;> omega
      · have hz' : ((doP i.p s.e).2.2 == 0) = false := by simp [hz]
        clear hj hz
        generalize (doP i.p s.e).2.2 = ee at *
        go_wp2_with fail
        go_roundw
        case rel => exact ⟨k + 1, i, by omega, by omega, by go_num, hM, HI, rI.imp (fun b _ hb => hb.1), hQ, bb⟩
        case measure => simp [intOf] <;> omega
end Go.Proofs.Ytcdodchjgadcoaa
