/- A medium: Spoil. -/
import Derived.Test.YtodfejeifbhoeaaDoorMdA
namespace Go.Proofs.YtodfejeifbhoeaaDoor
open Go.RowKit
set_option linter.unusedVariables false

/-- A bit is turned. -/
def maskO (bt : UInt8) : UInt8 := UInt8.ofNat (2 ^ (bt.toNat % 8))
def MS.spoil (s : MS) (k : Nat) (m : UInt8) : MS := { s with b := s.b.set k (s.b.getD k 0 ^^^ m) }

set_option maxHeartbeats 4000000 in
set_option maxRecDepth 100000 in
theorem Spoil_any (base g : Nat) (v : Value) (s : MS) (at_ : Nat) (bt : UInt8) (w : World) (h : Med w base g v s) (hn : 0 < s.b.length) (hl : s.b.length ≤ 1000000) (hat : at_ ≤ 9223372036854775807) :
    Calls Tryd.prog 25 #[.pointer (some ⟨g, 0, none⟩), .int .i64 (at_ : Int), .int .u8 (bt.toNat : Int)] w fun e w' => ∃ m, m ≠ 0 ∧ m = maskO bt ∧ e = .returned (.tuple #[]) ∧ Med w' base g v (s.spoil (at_ % s.b.length) m) ∧ Mod (Own2 g v) w w' := by
  obtain ⟨sv, h1, h2, h3, h4, h5⟩ := h
  obtain ⟨A, n, c, rfl, en, hnc, hcm⟩ := OwnB.form' h2
  have hn0 : 0 < n := by rw [en.out]; exact hn
  obtain ⟨k, hk⟩ : ∃ k, k = at_ % n := ⟨_, rfl⟩
  have hkn : k < n := by rw [hk]; exact Nat.mod_lt _ hn0
  have HK : Hid (at_ % s.b.length = k) := by unfold Hid; rw [← en.out, hk]
  have hk1 : (at_ : Int).tmod (n : Int) = (k : Int) := by rw [hk]; rfl
  have hk2 : (at_ : Int) % (n : Int) = (k : Int) := by rw [hk]; rfl
  have hkb : k < s.b.length := by rw [← en.out]; exact hkn
  have hnz : (n : Int) ≠ 0 := by omega
  have hnzb : ((n : Int) == 0) = false := by simp; omega
  have hki : (k : Int) < (n : Int) := by omega
  have hnn : ¬ n = 0 := by omega
  have hgd : s.b.getD k 0 = s.b[k] := gd s.b k hkb
  obtain ⟨q, hq, hq1, hq2, hcell, hfr, hst⟩ := (RowB.of_own h2).store hkb
  subst hq
  have hqg : q ≠ g := fun e => h4 (by rw [e]; rfl)
  obtain ⟨tt, htt⟩ : ∃ tt, tt = bt.toNat % 8 := ⟨_, rfl⟩
  have ht1 : (bt.toNat : Int).tmod 8 = (tt : Int) := by rw [htt]; rfl
  have ht2 : (bt.toNat : Int) % 8 = (tt : Int) := by rw [htt]; rfl
  have ht8 : tt < 8 := by omega
  have hx8 := fun m => xor8 s.b[k] m
  have HGD := Lib.hid hgd
  have c0 := h1.cell 0
  simp at c0
  have HTT := Lib.hid htt
  clear hk htt hgd
  have ht9 : tt = 0 ∨ tt = 1 ∨ tt = 2 ∨ tt = 3 ∨ tt = 4 ∨ tt = 5 ∨ tt = 6 ∨ tt = 7 := by omega
  clear ht8
  obtain ⟨x, hx⟩ : ∃ x, x = s.b[k] := ⟨_, rfl⟩
  rw [← hx] at hx8 hcell HGD
  clear hx hst
  rcases ht9 with rfl | rfl | rfl | rfl | rfl | rfl | rfl | rfl
  focus
    have ew : IntKind.u8.wrap 1 = 1 := by decide
    obtain ⟨m, hm, hmk, e8⟩ : ∃ m : UInt8, m ≠ 0 ∧ Hid (m = maskO bt) ∧ bits .xor .u8 (x.toNat : Int) 1 = ((x ^^^ m).toNat : Int) := ⟨1, by decide, by unfold Hid maskO; rw [← HTT.out]; rfl, hx8 1⟩
  rotate_left
  focus
    have ew : IntKind.u8.wrap 2 = 2 := by decide
    obtain ⟨m, hm, hmk, e8⟩ : ∃ m : UInt8, m ≠ 0 ∧ Hid (m = maskO bt) ∧ bits .xor .u8 (x.toNat : Int) 2 = ((x ^^^ m).toNat : Int) := ⟨2, by decide, by unfold Hid maskO; rw [← HTT.out]; rfl, hx8 2⟩
  rotate_left
  focus
    have ew : IntKind.u8.wrap 4 = 4 := by decide
    obtain ⟨m, hm, hmk, e8⟩ : ∃ m : UInt8, m ≠ 0 ∧ Hid (m = maskO bt) ∧ bits .xor .u8 (x.toNat : Int) 4 = ((x ^^^ m).toNat : Int) := ⟨4, by decide, by unfold Hid maskO; rw [← HTT.out]; rfl, hx8 4⟩
  rotate_left
  focus
    have ew : IntKind.u8.wrap 8 = 8 := by decide
    obtain ⟨m, hm, hmk, e8⟩ : ∃ m : UInt8, m ≠ 0 ∧ Hid (m = maskO bt) ∧ bits .xor .u8 (x.toNat : Int) 8 = ((x ^^^ m).toNat : Int) := ⟨8, by decide, by unfold Hid maskO; rw [← HTT.out]; rfl, hx8 8⟩
  rotate_left
  focus
    have ew : IntKind.u8.wrap 16 = 16 := by decide
    obtain ⟨m, hm, hmk, e8⟩ : ∃ m : UInt8, m ≠ 0 ∧ Hid (m = maskO bt) ∧ bits .xor .u8 (x.toNat : Int) 16 = ((x ^^^ m).toNat : Int) := ⟨16, by decide, by unfold Hid maskO; rw [← HTT.out]; rfl, hx8 16⟩
  rotate_left
  focus
    have ew : IntKind.u8.wrap 32 = 32 := by decide
    obtain ⟨m, hm, hmk, e8⟩ : ∃ m : UInt8, m ≠ 0 ∧ Hid (m = maskO bt) ∧ bits .xor .u8 (x.toNat : Int) 32 = ((x ^^^ m).toNat : Int) := ⟨32, by decide, by unfold Hid maskO; rw [← HTT.out]; rfl, hx8 32⟩
  rotate_left
  focus
    have ew : IntKind.u8.wrap 64 = 64 := by decide
    obtain ⟨m, hm, hmk, e8⟩ : ∃ m : UInt8, m ≠ 0 ∧ Hid (m = maskO bt) ∧ bits .xor .u8 (x.toNat : Int) 64 = ((x ^^^ m).toNat : Int) := ⟨64, by decide, by unfold Hid maskO; rw [← HTT.out]; rfl, hx8 64⟩
  rotate_left
  focus
    have ew : IntKind.u8.wrap 128 = 128 := by decide
    obtain ⟨m, hm, hmk, e8⟩ : ∃ m : UInt8, m ≠ 0 ∧ Hid (m = maskO bt) ∧ bits .xor .u8 (x.toNat : Int) 128 = ((x ^^^ m).toNat : Int) := ⟨128, by decide, by unfold Hid maskO; rw [← HTT.out]; rfl, hx8 128⟩
  rotate_left
  all_goals
    clear hx8
    go_enter Tryd.func25, Tryd.ntmps25
    go_wp2_with fail
    refine r_start (R := RT) (by rfl) (n := 19) (L := #[false, false, false, false, false, false, false, false, false, false, false, false, false, false, false, false, false, false, false]) rfl rfl ?_
    have bd : Below w.heap.size w w.drew := (Below.refl _ _).drew
    have h1 := h1.below bd
    have h2 := OwnB.below h2 bd
    have c0 := cell_below c0 bd
    have hcell := cell_below hcell bd
    have hfr : w.drew.frozen? ⟨q, k, none⟩ = false := hfr
    have h5 : StopV w.drew g (.slice (some ⟨q, 0, none⟩) n c) sv s.cut := by
      rcases h5 with h5 | ⟨nb, z, e1, e2, e3, e4⟩
      · exact .inl h5
      · exact .inr ⟨nb, z, e1, e2, e3.below bd, e4⟩
    generalize w.drew = wd1 at *
    refine r_flt RT_refl 0 20 #[true, false, false, false, false, false, false, false, false, false, false, false, false, false, false, false, false, false, false] (by simp only [List.getElem?_toArray, List.getElem?_cons_zero]; rfl) (by rfl) (by kernel_rfl) (by kernel_rfl) (by kernel_rfl) (fun _ _ _ _ h => h) rfl (by rfl) ?_
    apply Exists.intro
    apply And.intro
    · intro W hW
      first | (go_simp; with_reducible rfl) | go_simp
    (try simp only [Act.put, List.setIfInBounds_toArray]); (try simp only [List.set_cons_succ]); (try simp only [List.set_cons_zero])
    refine r_flt RT_refl 1 21 #[true, true, false, false, false, false, false, false, false, false, false, false, false, false, false, false, false, false, false] (by simp only [List.getElem?_toArray, List.getElem?_cons_succ, List.getElem?_cons_zero]; rfl) (by rfl) (by kernel_rfl) (by kernel_rfl) (by kernel_rfl) (fun _ _ _ _ h => h) rfl (by rfl) ?_
    apply Exists.intro
    apply And.intro
    · intro W hW
      first | (go_simp; with_reducible rfl) | go_simp
    (try simp only [Act.put, List.setIfInBounds_toArray]); (try simp only [List.set_cons_succ]); (try simp only [List.set_cons_zero])
    refine r_flt RT_refl 2 22 #[true, true, true, false, false, false, false, false, false, false, false, false, false, false, false, false, false, false, false] (by simp only [List.getElem?_toArray, List.getElem?_cons_succ, List.getElem?_cons_zero]; rfl) (by rfl) (by kernel_rfl) (by kernel_rfl) (by kernel_rfl) (fun _ _ _ _ h => h) rfl (by rfl) ?_
    apply Exists.intro
    apply And.intro
    · intro W hW
      first | (go_simp; with_reducible rfl) | go_simp
    (try simp only [Act.put, List.setIfInBounds_toArray]); (try simp only [List.set_cons_succ]); (try simp only [List.set_cons_zero])
    refine r_flt RT_refl 4 24 #[true, true, true, false, true, false, false, false, false, false, false, false, false, false, false, false, false, false, false] (by simp only [List.getElem?_toArray, List.getElem?_cons_succ, List.getElem?_cons_zero]; rfl) (by rfl) (by kernel_rfl) (by kernel_rfl) (by kernel_rfl) (fun _ _ _ _ h => h) rfl (by rfl) ?_
    apply Exists.intro
    apply And.intro
    · intro W hW
      first | (go_simp; with_reducible rfl) | go_simp
    (try simp only [Act.put, List.setIfInBounds_toArray]); (try simp only [List.set_cons_succ]); (try simp only [List.set_cons_zero])
    refine r_flt RT_refl 5 25 #[true, true, true, false, true, true, false, false, false, false, false, false, false, false, false, false, false, false, false] (by simp only [List.getElem?_toArray, List.getElem?_cons_succ, List.getElem?_cons_zero]; rfl) (by rfl) (by kernel_rfl) (by kernel_rfl) (by kernel_rfl) (fun _ _ _ _ h => h) rfl (by rfl) ?_
    apply Exists.intro
    apply And.intro
    · intro W hW
      first | (go_simp; with_reducible rfl) | go_simp
    (try simp only [Act.put, List.setIfInBounds_toArray]); (try simp only [List.set_cons_succ]); (try simp only [List.set_cons_zero])
    refine r_flt RT_refl 6 26 #[true, true, true, false, true, true, true, false, false, false, false, false, false, false, false, false, false, false, false] (by simp only [List.getElem?_toArray, List.getElem?_cons_succ, List.getElem?_cons_zero]; rfl) (by rfl) (by kernel_rfl) (by kernel_rfl) (by kernel_rfl) (fun _ _ _ _ h => h) rfl (by rfl) ?_
    apply Exists.intro
    apply And.intro
    · intro W hW
      first | (go_simp; with_reducible rfl) | go_simp
    (try simp only [Act.put, List.setIfInBounds_toArray]); (try simp only [List.set_cons_succ]); (try simp only [List.set_cons_zero])
    refine r_flt RT_refl 7 27 #[true, true, true, false, true, true, true, true, false, false, false, false, false, false, false, false, false, false, false] (by simp only [List.getElem?_toArray, List.getElem?_cons_succ, List.getElem?_cons_zero]; rfl) (by rfl) (by kernel_rfl) (by kernel_rfl) (by kernel_rfl) (fun _ _ _ _ h => h) rfl (by rfl) ?_
    apply Exists.intro
    apply And.intro
    · intro W hW
      first | (go_simp; with_reducible rfl) | go_simp
    (try simp only [Act.put, List.setIfInBounds_toArray]); (try simp only [List.set_cons_succ]); (try simp only [List.set_cons_zero])
    refine r_flt RT_refl 13 33 #[true, true, true, false, true, true, true, true, false, false, false, false, false, true, false, false, false, false, false] (by simp only [List.getElem?_toArray, List.getElem?_cons_succ, List.getElem?_cons_zero]; rfl) (by rfl) (by kernel_rfl) (by kernel_rfl) (by kernel_rfl) (fun _ _ _ _ h => h) rfl (by rfl) ?_
    apply Exists.intro
    apply And.intro
    · intro W hW
      first | (go_simp; with_reducible rfl) | go_simp
    (try simp only [Act.put, List.setIfInBounds_toArray]); (try simp only [List.set_cons_succ]); (try simp only [List.set_cons_zero])
    refine r_flt RT_refl 14 34 #[true, true, true, false, true, true, true, true, false, false, false, false, false, true, true, false, false, false, false] (by simp only [List.getElem?_toArray, List.getElem?_cons_succ, List.getElem?_cons_zero]; rfl) (by rfl) (by kernel_rfl) (by kernel_rfl) (by kernel_rfl) (fun _ _ _ _ h => h) rfl (by rfl) ?_
    apply Exists.intro
    apply And.intro
    · intro W hW
      first | (go_simp; with_reducible rfl) | go_simp
    (try simp only [Act.put, List.setIfInBounds_toArray]); (try simp only [List.set_cons_succ]); (try simp only [List.set_cons_zero])
    refine r_flt RT_refl 15 35 #[true, true, true, false, true, true, true, true, false, false, false, false, false, true, true, true, false, false, false] (by simp only [List.getElem?_toArray, List.getElem?_cons_succ, List.getElem?_cons_zero]; rfl) (by rfl) (by kernel_rfl) (by kernel_rfl) (by kernel_rfl) (fun _ _ _ _ h => h) rfl (by rfl) ?_
    apply Exists.intro
    apply And.intro
    · intro W hW
      first | (go_simp; with_reducible rfl) | go_simp
    (try simp only [Act.put, List.setIfInBounds_toArray]); (try simp only [List.set_cons_succ]); (try simp only [List.set_cons_zero])
    refine r_two RT_trans 3 8 (by kernel_rfl) ?_ ?_
    ·
      refine alt_val 23 #[true, true, true, true, true, true, true, true, false, false, false, false, false, true, true, true, false, false, false] (by simp only [List.getElem?_toArray, List.getElem?_cons_succ, List.getElem?_cons_zero]; rfl) (by rfl) rfl (by rfl) (by go_simp; first | exact ⟨rfl, rfl⟩ | rfl) ?_ ?_
      · trivial
      (try simp only [Act.put, List.setIfInBounds_toArray]); (try simp only [List.set_cons_succ]); (try simp only [List.set_cons_zero])
      refine r_one RT_trans 8 (by kernel_rfl) ?_
      refine alt_val 28 #[true, true, true, true, true, true, true, true, true, false, false, false, false, true, true, true, false, false, false] (by simp only [List.getElem?_toArray, List.getElem?_cons_succ, List.getElem?_cons_zero]; rfl) (by rfl) rfl (by rfl) (by go_simp; first | exact ⟨rfl, rfl⟩ | rfl) ?_ ?_
      · trivial
      (try simp only [Act.put, List.setIfInBounds_toArray]); (try simp only [List.set_cons_succ]); (try simp only [List.set_cons_zero])
      refine r_flt RT_refl 9 29 #[true, true, true, true, true, true, true, true, true, true, false, false, false, true, true, true, false, false, false] (by simp only [List.getElem?_toArray, List.getElem?_cons_succ, List.getElem?_cons_zero]; rfl) (by rfl) (by kernel_rfl) (by kernel_rfl) (by kernel_rfl) (fun _ _ _ _ h => h) rfl (by rfl) ?_
      apply Exists.intro
      apply And.intro
      · intro W hW
        first | (go_simp; with_reducible rfl) | go_simp
      (try simp only [Act.put, List.setIfInBounds_toArray]); (try simp only [List.set_cons_succ]); (try simp only [List.set_cons_zero])
      refine r_flt RT_refl 10 30 #[true, true, true, true, true, true, true, true, true, true, true, false, false, true, true, true, false, false, false] (by simp only [List.getElem?_toArray, List.getElem?_cons_succ, List.getElem?_cons_zero]; rfl) (by rfl) (by kernel_rfl) (by kernel_rfl) (by kernel_rfl) (fun _ _ _ _ h => h) rfl (by rfl) ?_
      apply Exists.intro
      apply And.intro
      · intro W hW
        first | (go_simp; with_reducible rfl) | go_simp
      (try simp only [Act.put, List.setIfInBounds_toArray]); (try simp only [List.set_cons_succ]); (try simp only [List.set_cons_zero])
      refine r_flt RT_refl 11 31 #[true, true, true, true, true, true, true, true, true, true, true, true, false, true, true, true, false, false, false] (by simp only [List.getElem?_toArray, List.getElem?_cons_succ, List.getElem?_cons_zero]; rfl) (by rfl) (by kernel_rfl) (by kernel_rfl) (by kernel_rfl) (fun _ _ _ _ h => h) rfl (by rfl) ?_
      apply Exists.intro
      apply And.intro
      · intro W hW
        first | (go_simp; with_reducible rfl) | go_simp
      (try simp only [Act.put, List.setIfInBounds_toArray]); (try simp only [List.set_cons_succ]); (try simp only [List.set_cons_zero])
      refine r_one RT_trans 12 (by kernel_rfl) ?_
      refine alt_val 32 #[true, true, true, true, true, true, true, true, true, true, true, true, true, true, true, true, false, false, false] (by simp only [List.getElem?_toArray, List.getElem?_cons_succ, List.getElem?_cons_zero]; rfl) (by rfl) rfl (by rfl) (by go_simp; first | exact ⟨rfl, rfl⟩ | rfl) ?_ ?_
      · trivial
      (try simp only [Act.put, List.setIfInBounds_toArray]); (try simp only [List.set_cons_succ]); (try simp only [List.set_cons_zero])
      refine r_flt RT_refl 16 36 #[true, true, true, true, true, true, true, true, true, true, true, true, true, true, true, true, true, false, false] (by simp only [List.getElem?_toArray, List.getElem?_cons_succ, List.getElem?_cons_zero]; rfl) (by rfl) (by kernel_rfl) (by kernel_rfl) (by kernel_rfl) (fun _ _ _ _ h => h) rfl (by rfl) ?_
      apply Exists.intro
      apply And.intro
      · intro W hW
        first | (go_simp; with_reducible rfl) | go_simp
      (try simp only [Act.put, List.setIfInBounds_toArray]); (try simp only [List.set_cons_succ]); (try simp only [List.set_cons_zero])
      refine r_flt RT_refl 17 37 #[true, true, true, true, true, true, true, true, true, true, true, true, true, true, true, true, true, true, false] (by simp only [List.getElem?_toArray, List.getElem?_cons_succ, List.getElem?_cons_zero]; rfl) (by rfl) (by kernel_rfl) (by kernel_rfl) (by kernel_rfl) (fun _ _ _ _ h => h) rfl (by rfl) ?_
      apply Exists.intro
      apply And.intro
      · intro W hW
        first | (go_simp; with_reducible rfl) | go_simp
      (try simp only [Act.put, List.setIfInBounds_toArray]); (try simp only [List.set_cons_succ]); (try simp only [List.set_cons_zero])
      refine r_one RT_trans 18 (by kernel_rfl) ?_
      refine alt_none #[true, true, true, true, true, true, true, true, true, true, true, true, true, true, true, true, true, true, true] (by simp only [List.getElem?_toArray, List.getElem?_cons_succ, List.getElem?_cons_zero]; rfl) (by rfl) rfl (by rfl) (by go_simp; first | exact ⟨rfl, rfl⟩ | rfl) ?_ ?_
      · trivial
      (try simp only [Act.put, List.setIfInBounds_toArray]); (try simp only [List.set_cons_succ]); (try simp only [List.set_cons_zero])
      refine r_done (by kernel_rfl) ?_
      go_wp2_with fail
      go_end0
      have hq5 : Blk (wd1.setCell ⟨q, k, none⟩ (.int .u8 ((x ^^^ m).toNat : Int))) g _ _ := h1.mod ((Mod.refl (· = q) wd1).setG k _) (fun e => hqg e.symm)
      have ho5 : OwnB (wd1.setCell ⟨q, k, none⟩ (.int .u8 ((x ^^^ m).toNat : Int))) base (.slice (some ⟨q, 0, none⟩) n c) (s.b.set k (x ^^^ m)) := by
        obtain rfl := en.out
        exact OwnB.store h2 k _
      have hs5 : StopV (wd1.setCell ⟨q, k, none⟩ (.int .u8 ((x ^^^ m).toNat : Int))) g (.slice (some ⟨q, 0, none⟩) n c) sv s.cut := by
        rcases h5 with h5 | ⟨nb, z, e1, e2, e3, e4, e5⟩
        · exact .inl h5
        · exact .inr ⟨nb, z, e1, e2, e3.mod ((Mod.refl (· = q) wd1).setG k _) (fun e => e5 (by rw [e]; rfl)), e4, e5⟩
      rw [HK.out]
      have hsp : s.spoil k m = { s with b := s.b.set k (x ^^^ m) } := by unfold MS.spoil; rw [HGD.out]
      refine ⟨m, hm, hmk.out, rfl, ?_, ?_⟩
      · rw [hsp]
        exact ⟨sv, hq5, ho5, h3, h4, hs5⟩
      · exact (Mod.of_below bd _).trans (((Mod.refl (· = q) wd1).setG k _).mono fun i _ hi => .inr (by rw [hi]; rfl))
    ·
      refine alt_val 28 #[true, true, true, false, true, true, true, true, true, false, false, false, false, true, true, true, false, false, false] (by simp only [List.getElem?_toArray, List.getElem?_cons_succ, List.getElem?_cons_zero]; rfl) (by rfl) rfl (by rfl) (by go_simp; first | exact ⟨rfl, rfl⟩ | rfl) ?_ ?_
      · trivial
      (try simp only [Act.put, List.setIfInBounds_toArray]); (try simp only [List.set_cons_succ]); (try simp only [List.set_cons_zero])
      refine r_flt RT_refl 9 29 #[true, true, true, false, true, true, true, true, true, true, false, false, false, true, true, true, false, false, false] (by simp only [List.getElem?_toArray, List.getElem?_cons_succ, List.getElem?_cons_zero]; rfl) (by rfl) (by kernel_rfl) (by kernel_rfl) (by kernel_rfl) (fun _ _ _ _ h => h) rfl (by rfl) ?_
      apply Exists.intro
      apply And.intro
      · intro W hW
        first | (go_simp; with_reducible rfl) | go_simp
      (try simp only [Act.put, List.setIfInBounds_toArray]); (try simp only [List.set_cons_succ]); (try simp only [List.set_cons_zero])
      refine r_flt RT_refl 10 30 #[true, true, true, false, true, true, true, true, true, true, true, false, false, true, true, true, false, false, false] (by simp only [List.getElem?_toArray, List.getElem?_cons_succ, List.getElem?_cons_zero]; rfl) (by rfl) (by kernel_rfl) (by kernel_rfl) (by kernel_rfl) (fun _ _ _ _ h => h) rfl (by rfl) ?_
      apply Exists.intro
      apply And.intro
      · intro W hW
        first | (go_simp; with_reducible rfl) | go_simp
      (try simp only [Act.put, List.setIfInBounds_toArray]); (try simp only [List.set_cons_succ]); (try simp only [List.set_cons_zero])
      refine r_one RT_trans 3 (by kernel_rfl) ?_
      refine alt_val 23 #[true, true, true, true, true, true, true, true, true, true, true, false, false, true, true, true, false, false, false] (by simp only [List.getElem?_toArray, List.getElem?_cons_succ, List.getElem?_cons_zero]; rfl) (by rfl) rfl (by rfl) (by go_simp; first | exact ⟨rfl, rfl⟩ | rfl) ?_ ?_
      · trivial
      (try simp only [Act.put, List.setIfInBounds_toArray]); (try simp only [List.set_cons_succ]); (try simp only [List.set_cons_zero])
      refine r_flt RT_refl 11 31 #[true, true, true, true, true, true, true, true, true, true, true, true, false, true, true, true, false, false, false] (by simp only [List.getElem?_toArray, List.getElem?_cons_succ, List.getElem?_cons_zero]; rfl) (by rfl) (by kernel_rfl) (by kernel_rfl) (by kernel_rfl) (fun _ _ _ _ h => h) rfl (by rfl) ?_
      apply Exists.intro
      apply And.intro
      · intro W hW
        first | (go_simp; with_reducible rfl) | go_simp
      (try simp only [Act.put, List.setIfInBounds_toArray]); (try simp only [List.set_cons_succ]); (try simp only [List.set_cons_zero])
      refine r_one RT_trans 12 (by kernel_rfl) ?_
      refine alt_val 32 #[true, true, true, true, true, true, true, true, true, true, true, true, true, true, true, true, false, false, false] (by simp only [List.getElem?_toArray, List.getElem?_cons_succ, List.getElem?_cons_zero]; rfl) (by rfl) rfl (by rfl) (by go_simp; first | exact ⟨rfl, rfl⟩ | rfl) ?_ ?_
      · trivial
      (try simp only [Act.put, List.setIfInBounds_toArray]); (try simp only [List.set_cons_succ]); (try simp only [List.set_cons_zero])
      refine r_flt RT_refl 16 36 #[true, true, true, true, true, true, true, true, true, true, true, true, true, true, true, true, true, false, false] (by simp only [List.getElem?_toArray, List.getElem?_cons_succ, List.getElem?_cons_zero]; rfl) (by rfl) (by kernel_rfl) (by kernel_rfl) (by kernel_rfl) (fun _ _ _ _ h => h) rfl (by rfl) ?_
      apply Exists.intro
      apply And.intro
      · intro W hW
        first | (go_simp; with_reducible rfl) | go_simp
      (try simp only [Act.put, List.setIfInBounds_toArray]); (try simp only [List.set_cons_succ]); (try simp only [List.set_cons_zero])
      refine r_flt RT_refl 17 37 #[true, true, true, true, true, true, true, true, true, true, true, true, true, true, true, true, true, true, false] (by simp only [List.getElem?_toArray, List.getElem?_cons_succ, List.getElem?_cons_zero]; rfl) (by rfl) (by kernel_rfl) (by kernel_rfl) (by kernel_rfl) (fun _ _ _ _ h => h) rfl (by rfl) ?_
      apply Exists.intro
      apply And.intro
      · intro W hW
        first | (go_simp; with_reducible rfl) | go_simp
      (try simp only [Act.put, List.setIfInBounds_toArray]); (try simp only [List.set_cons_succ]); (try simp only [List.set_cons_zero])
      refine r_one RT_trans 18 (by kernel_rfl) ?_
      refine alt_none #[true, true, true, true, true, true, true, true, true, true, true, true, true, true, true, true, true, true, true] (by simp only [List.getElem?_toArray, List.getElem?_cons_succ, List.getElem?_cons_zero]; rfl) (by rfl) rfl (by rfl) (by go_simp; first | exact ⟨rfl, rfl⟩ | rfl) ?_ ?_
      · trivial
      (try simp only [Act.put, List.setIfInBounds_toArray]); (try simp only [List.set_cons_succ]); (try simp only [List.set_cons_zero])
      refine r_done (by kernel_rfl) ?_
      go_wp2_with fail
      go_end0
      have hq5 : Blk (wd1.setCell ⟨q, k, none⟩ (.int .u8 ((x ^^^ m).toNat : Int))) g _ _ := h1.mod ((Mod.refl (· = q) wd1).setG k _) (fun e => hqg e.symm)
      have ho5 : OwnB (wd1.setCell ⟨q, k, none⟩ (.int .u8 ((x ^^^ m).toNat : Int))) base (.slice (some ⟨q, 0, none⟩) n c) (s.b.set k (x ^^^ m)) := by
        obtain rfl := en.out
        exact OwnB.store h2 k _
      have hs5 : StopV (wd1.setCell ⟨q, k, none⟩ (.int .u8 ((x ^^^ m).toNat : Int))) g (.slice (some ⟨q, 0, none⟩) n c) sv s.cut := by
        rcases h5 with h5 | ⟨nb, z, e1, e2, e3, e4, e5⟩
        · exact .inl h5
        · exact .inr ⟨nb, z, e1, e2, e3.mod ((Mod.refl (· = q) wd1).setG k _) (fun e => e5 (by rw [e]; rfl)), e4, e5⟩
      rw [HK.out]
      have hsp : s.spoil k m = { s with b := s.b.set k (x ^^^ m) } := by unfold MS.spoil; rw [HGD.out]
      refine ⟨m, hm, hmk.out, rfl, ?_, ?_⟩
      · rw [hsp]
        exact ⟨sv, hq5, ho5, h3, h4, hs5⟩
      · exact (Mod.of_below bd _).trans (((Mod.refl (· = q) wd1).setG k _).mono fun i _ hi => .inr (by rw [hi]; rfl))
end Go.Proofs.YtodfejeifbhoeaaDoor
