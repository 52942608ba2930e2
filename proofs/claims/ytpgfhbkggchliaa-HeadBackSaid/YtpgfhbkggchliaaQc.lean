/- Parts of the proof, joined: Hd5 Hd6 Hd7 Ints OSpec Obj1. -/
import Derived.Test.YtpgfhbkggchliaaQb
import Derived.Shelf.Abstract
import Derived.Test.YtpgfhbkggchliaaQa
/- How many objects an image has: the document's walk. -/
namespace Go.Proofs.Ytpgfhbkggchliaa
open Go.RowKit
set_option linter.unusedVariables false

theorem wrapN (n : Nat) (h : n ≤ 1000000) : IntKind.i64.wrap (n : Int) = (n : Int) := by rw [IntKind.wrap_i64]; omega
set_option maxHeartbeats 4000000 in
set_option maxRecDepth 100000 in
theorem rplace_any (U N O k : Nat) (w : World) (h1 : 1 ≤ U) (h2 : U ≤ O) (h3 : O ≤ 64) (h4 : 1 ≤ N) (h5 : N ≤ 8) (h6 : k ≤ 1000) : Calls Try.prog 84 #[layV U N O, .int .i64 (k : Int)] w fun e w' => (∃ y, e = .returned (.tuple #[.int .i64 (objU (O / U * N) N (k / U) : Nat), y])) ∧ Below w.heap.size w w' := by
  have bb := below_new w (.cells #[.int .i64 (U : Int), .int .i64 (N : Int), .int .i64 (O : Int)] 23)
  have hbl := Blk.new w 23 #[.int .i64 (U : Int), .int .i64 (N : Int), .int .i64 (O : Int)]
  unfold layV
  have hUn : ¬ U = 0 := by omega
  have hNn : ¬ N = 0 := by omega
  have hU : (U : Int) ≠ 0 := by omega
  have hUb : ((U : Int) == 0) = false := by simp; omega
  have hN : (N : Int) ≠ 0 := by omega
  have hNb : ((N : Int) == 0) = false := by simp; omega
  obtain ⟨q, hq⟩ : ∃ q, q = k / U := ⟨_, rfl⟩
  have hq1 : (k : Int).tdiv (U : Int) = (q : Int) := by rw [hq]; rfl
  have hqk : q ≤ k := by rw [hq]; exact Nat.div_le_self _ _
  obtain ⟨e, he⟩ : ∃ e, e = O / U := ⟨_, rfl⟩
  have hq2 : (O : Int).tdiv (U : Int) = (e : Int) := by rw [he]; rfl
  have he1 : 1 ≤ e := by rw [he]; exact Nat.div_pos h2 (by omega)
  have he64 : e ≤ 64 := by rw [he]; exact Nat.le_trans (Nat.div_le_self _ _) h3
  obtain ⟨R, hR⟩ : ∃ R, R = e * N := ⟨_, rfl⟩
  have hq3 : (e : Int) * (N : Int) = (R : Int) := by rw [hR]; exact (Int.natCast_mul e N).symm
  have hR1 : 1 ≤ R := by rw [hR]; exact Nat.mul_pos he1 (by omega)
  have hR5 : R ≤ 512 := by rw [hR]; exact Nat.le_trans (Nat.mul_le_mul he64 h5) (by decide)
  have hRn : ¬ R = 0 := by omega
  have hRz : (R : Int) ≠ 0 := by omega
  have hRb : ((R : Int) == 0) = false := by simp; omega
  obtain ⟨i, hi⟩ : ∃ i, i = q % R := ⟨_, rfl⟩
  have hq4 : (q : Int).tmod (R : Int) = (i : Int) := by rw [hi]; rfl
  have hi5 : i < R := by rw [hi]; exact Nat.mod_lt _ (by omega)
  obtain ⟨a, ha⟩ : ∃ a, a = q / R := ⟨_, rfl⟩
  have hq5 : (q : Int).tdiv (R : Int) = (a : Int) := by rw [ha]; rfl
  have ha6 : a ≤ q := by rw [ha]; exact Nat.div_le_self _ _
  obtain ⟨b, hb⟩ : ∃ b, b = a * N := ⟨_, rfl⟩
  have hq6 : (a : Int) * (N : Int) = (b : Int) := by rw [hb]; exact (Int.natCast_mul a N).symm
  have hb6 : b ≤ 8000 := by rw [hb]; exact Nat.le_trans (Nat.mul_le_mul (show a ≤ 1000 by omega) h5) (by decide)
  obtain ⟨m, hm⟩ : ∃ m, m = i % N := ⟨_, rfl⟩
  have hq7 : (i : Int).tmod (N : Int) = (m : Int) := by rw [hm]; rfl
  have hm8 : m < N := by rw [hm]; exact Nat.mod_lt _ (by omega)
  have WQ := Lib.hid (wrapN q (by omega))
  have WE := Lib.hid (wrapN e (by omega))
  have WR := Lib.hid (wrapN R (by omega))
  have WA := Lib.hid (wrapN a (by omega))
  have WB := Lib.hid (wrapN b (by omega))
  have WF : Hid (IntKind.i64.wrap ((b : Int) + (m : Int)) = (b : Int) + (m : Int)) := by unfold Hid; rw [IntKind.wrap_i64]; omega
  have E : Hid (((objU (O / U * N) N (k / U) : Nat) : Int) = (b : Int) + (m : Int)) := by
    unfold Hid objU
    rw [← hq, ← he, ← hR, ← ha, ← hi, ← hb, ← hm]
    omega
  clear hq he hR hi ha hb hm
  go_enter Try.func84, Try.ntmps84
  go_wp2_with fail
  refine r_start (R := RB) (by rfl) (n := 28) (L := #[false, false, false, false, false, false, false, false, false, false, false, false, false, false, false, false, false, false, false, false, false, false, false, false, false, false, false, false]) rfl rfl ?_
  have hbl0 := hbl
  have hbl := hbl.below (w' := (w.alloc (.cells #[.int .i64 (U : Int), .int .i64 (N : Int), .int .i64 (O : Int)] 23)).drew) (Below.refl _ _).drew
  have bb : Below w.heap.size w (w.alloc (.cells #[.int .i64 (U : Int), .int .i64 (N : Int), .int .i64 (O : Int)] 23)).drew := bb.drew
  generalize (w.alloc (.cells #[.int .i64 (U : Int), .int .i64 (N : Int), .int .i64 (O : Int)] 23)).drew = wd at *
  refine r_flt RB_refl 0 24 #[true, false, false, false, false, false, false, false, false, false, false, false, false, false, false, false, false, false, false, false, false, false, false, false, false, false, false, false] (by simp only [List.getElem?_toArray, List.getElem?_cons_zero]; rfl) (by rfl) (by kernel_rfl) (by kernel_rfl) (by kernel_rfl) (fun _ _ _ _ h => h) rfl (by rfl) ?_
  apply Exists.intro
  apply And.intro
  · intro W hW
    first | (go_simp; with_reducible rfl) | go_simp
  (try simp only [Act.put, List.setIfInBounds_toArray]); (try simp only [List.set_cons_succ]); (try simp only [List.set_cons_zero])
  refine r_flt RB_refl 1 25 #[true, true, false, false, false, false, false, false, false, false, false, false, false, false, false, false, false, false, false, false, false, false, false, false, false, false, false, false] (by simp only [List.getElem?_toArray, List.getElem?_cons_succ, List.getElem?_cons_zero]; rfl) (by rfl) (by kernel_rfl) (by kernel_rfl) (by kernel_rfl) (fun _ _ _ _ h => h) rfl (by rfl) ?_
  apply Exists.intro
  apply And.intro
  · intro W hW
    first | (go_simp; with_reducible rfl) | go_simp
  (try simp only [Act.put, List.setIfInBounds_toArray]); (try simp only [List.set_cons_succ]); (try simp only [List.set_cons_zero])
  refine r_flt RB_refl 2 26 #[true, true, true, false, false, false, false, false, false, false, false, false, false, false, false, false, false, false, false, false, false, false, false, false, false, false, false, false] (by simp only [List.getElem?_toArray, List.getElem?_cons_succ, List.getElem?_cons_zero]; rfl) (by rfl) (by kernel_rfl) (by kernel_rfl) (by kernel_rfl) (fun _ _ _ _ h => h) rfl (by rfl) ?_
  apply Exists.intro
  apply And.intro
  · intro W hW
    first | (go_simp; with_reducible rfl) | go_simp
  (try simp only [Act.put, List.setIfInBounds_toArray]); (try simp only [List.set_cons_succ]); (try simp only [List.set_cons_zero])
  refine r_flt RB_refl 3 27 #[true, true, true, true, false, false, false, false, false, false, false, false, false, false, false, false, false, false, false, false, false, false, false, false, false, false, false, false] (by simp only [List.getElem?_toArray, List.getElem?_cons_succ, List.getElem?_cons_zero]; rfl) (by rfl) (by kernel_rfl) (by kernel_rfl) (by kernel_rfl) (fun _ _ _ _ h => h) rfl (by rfl) ?_
  apply Exists.intro
  apply And.intro
  · intro W hW
    have c := (hbl.below hW).cell 1
    simp at c
    go_simp; rfl
  (try simp only [Act.put, List.setIfInBounds_toArray]); (try simp only [List.set_cons_succ]); (try simp only [List.set_cons_zero])
  refine r_flt RB_refl 4 28 #[true, true, true, true, true, false, false, false, false, false, false, false, false, false, false, false, false, false, false, false, false, false, false, false, false, false, false, false] (by simp only [List.getElem?_toArray, List.getElem?_cons_succ, List.getElem?_cons_zero]; rfl) (by rfl) (by kernel_rfl) (by kernel_rfl) (by kernel_rfl) (fun _ _ _ _ h => h) rfl (by rfl) ?_
  apply Exists.intro
  apply And.intro
  · intro W hW
    go_simp; first | (rw [WR.out]; done) | (rw [WR.out]; rfl)
  (try simp only [Act.put, List.setIfInBounds_toArray]); (try simp only [List.set_cons_succ]); (try simp only [List.set_cons_zero])
  refine r_flt RB_refl 5 29 #[true, true, true, true, true, true, false, false, false, false, false, false, false, false, false, false, false, false, false, false, false, false, false, false, false, false, false, false] (by simp only [List.getElem?_toArray, List.getElem?_cons_succ, List.getElem?_cons_zero]; rfl) (by rfl) (by kernel_rfl) (by kernel_rfl) (by kernel_rfl) (fun _ _ _ _ h => h) rfl (by rfl) ?_
  apply Exists.intro
  apply And.intro
  · intro W hW
    go_simp; first | (rw [WA.out]; done) | (rw [WA.out]; rfl)
  (try simp only [Act.put, List.setIfInBounds_toArray]); (try simp only [List.set_cons_succ]); (try simp only [List.set_cons_zero])
  refine r_flt RB_refl 6 30 #[true, true, true, true, true, true, true, false, false, false, false, false, false, false, false, false, false, false, false, false, false, false, false, false, false, false, false, false] (by simp only [List.getElem?_toArray, List.getElem?_cons_succ, List.getElem?_cons_zero]; rfl) (by rfl) (by kernel_rfl) (by kernel_rfl) (by kernel_rfl) (fun _ _ _ _ h => h) rfl (by rfl) ?_
  apply Exists.intro
  apply And.intro
  · intro W hW
    first | (go_simp; with_reducible rfl) | go_simp
  (try simp only [Act.put, List.setIfInBounds_toArray]); (try simp only [List.set_cons_succ]); (try simp only [List.set_cons_zero])
  refine r_flt RB_refl 7 31 #[true, true, true, true, true, true, true, true, false, false, false, false, false, false, false, false, false, false, false, false, false, false, false, false, false, false, false, false] (by simp only [List.getElem?_toArray, List.getElem?_cons_succ, List.getElem?_cons_zero]; rfl) (by rfl) (by kernel_rfl) (by kernel_rfl) (by kernel_rfl) (fun _ _ _ _ h => h) rfl (by rfl) ?_
  apply Exists.intro
  apply And.intro
  · intro W hW
    have c := (hbl.below hW).cell 1
    simp at c
    go_simp; rfl
  (try simp only [Act.put, List.setIfInBounds_toArray]); (try simp only [List.set_cons_succ]); (try simp only [List.set_cons_zero])
  refine r_flt RB_refl 8 32 #[true, true, true, true, true, true, true, true, true, false, false, false, false, false, false, false, false, false, false, false, false, false, false, false, false, false, false, false] (by simp only [List.getElem?_toArray, List.getElem?_cons_succ, List.getElem?_cons_zero]; rfl) (by rfl) (by kernel_rfl) (by kernel_rfl) (by kernel_rfl) (fun _ _ _ _ h => h) rfl (by rfl) ?_
  apply Exists.intro
  apply And.intro
  · intro W hW
    go_simp; first | (rw [WB.out]; done) | (rw [WB.out]; rfl)
  (try simp only [Act.put, List.setIfInBounds_toArray]); (try simp only [List.set_cons_succ]); (try simp only [List.set_cons_zero])
  refine r_flt RB_refl 9 33 #[true, true, true, true, true, true, true, true, true, true, false, false, false, false, false, false, false, false, false, false, false, false, false, false, false, false, false, false] (by simp only [List.getElem?_toArray, List.getElem?_cons_succ, List.getElem?_cons_zero]; rfl) (by rfl) (by kernel_rfl) (by kernel_rfl) (by kernel_rfl) (fun _ _ _ _ h => h) rfl (by rfl) ?_
  apply Exists.intro
  apply And.intro
  · intro W hW
    first | (go_simp; with_reducible rfl) | go_simp
  (try simp only [Act.put, List.setIfInBounds_toArray]); (try simp only [List.set_cons_succ]); (try simp only [List.set_cons_zero])
  refine r_flt RB_refl 10 34 #[true, true, true, true, true, true, true, true, true, true, true, false, false, false, false, false, false, false, false, false, false, false, false, false, false, false, false, false] (by simp only [List.getElem?_toArray, List.getElem?_cons_succ, List.getElem?_cons_zero]; rfl) (by rfl) (by kernel_rfl) (by kernel_rfl) (by kernel_rfl) (fun _ _ _ _ h => h) rfl (by rfl) ?_
  apply Exists.intro
  apply And.intro
  · intro W hW
    first | (go_simp; with_reducible rfl) | go_simp
  (try simp only [Act.put, List.setIfInBounds_toArray]); (try simp only [List.set_cons_succ]); (try simp only [List.set_cons_zero])
  refine r_flt RB_refl 11 35 #[true, true, true, true, true, true, true, true, true, true, true, true, false, false, false, false, false, false, false, false, false, false, false, false, false, false, false, false] (by simp only [List.getElem?_toArray, List.getElem?_cons_succ, List.getElem?_cons_zero]; rfl) (by rfl) (by kernel_rfl) (by kernel_rfl) (by kernel_rfl) (fun _ _ _ _ h => h) rfl (by rfl) ?_
  apply Exists.intro
  apply And.intro
  · intro W hW
    have c := (hbl.below hW).cell 1
    simp at c
    go_simp; rfl
  (try simp only [Act.put, List.setIfInBounds_toArray]); (try simp only [List.set_cons_succ]); (try simp only [List.set_cons_zero])
  refine r_flt RB_refl 12 36 #[true, true, true, true, true, true, true, true, true, true, true, true, true, false, false, false, false, false, false, false, false, false, false, false, false, false, false, false] (by simp only [List.getElem?_toArray, List.getElem?_cons_succ, List.getElem?_cons_zero]; rfl) (by rfl) (by kernel_rfl) (by kernel_rfl) (by kernel_rfl) (fun _ _ _ _ h => h) rfl (by rfl) ?_
  apply Exists.intro
  apply And.intro
  · intro W hW
    go_simp; rfl
  (try simp only [Act.put, List.setIfInBounds_toArray]); (try simp only [List.set_cons_succ]); (try simp only [List.set_cons_zero])
  refine r_flt RB_refl 13 37 #[true, true, true, true, true, true, true, true, true, true, true, true, true, true, false, false, false, false, false, false, false, false, false, false, false, false, false, false] (by simp only [List.getElem?_toArray, List.getElem?_cons_succ, List.getElem?_cons_zero]; rfl) (by rfl) (by kernel_rfl) (by kernel_rfl) (by kernel_rfl) (fun _ _ _ _ h => h) rfl (by rfl) ?_
  apply Exists.intro
  apply And.intro
  · intro W hW
    go_simp; first | (rw [WF.out]; done) | (rw [WF.out]; rfl)
  (try simp only [Act.put, List.setIfInBounds_toArray]); (try simp only [List.set_cons_succ]); (try simp only [List.set_cons_zero])
  refine r_flt RB_refl 14 38 #[true, true, true, true, true, true, true, true, true, true, true, true, true, true, true, false, false, false, false, false, false, false, false, false, false, false, false, false] (by simp only [List.getElem?_toArray, List.getElem?_cons_succ, List.getElem?_cons_zero]; rfl) (by rfl) (by kernel_rfl) (by kernel_rfl) (by kernel_rfl) (fun _ _ _ _ h => h) rfl (by rfl) ?_
  apply Exists.intro
  apply And.intro
  · intro W hW
    first | (go_simp; with_reducible rfl) | go_simp
  (try simp only [Act.put, List.setIfInBounds_toArray]); (try simp only [List.set_cons_succ]); (try simp only [List.set_cons_zero])
  refine r_flt RB_refl 15 39 #[true, true, true, true, true, true, true, true, true, true, true, true, true, true, true, true, false, false, false, false, false, false, false, false, false, false, false, false] (by simp only [List.getElem?_toArray, List.getElem?_cons_succ, List.getElem?_cons_zero]; rfl) (by rfl) (by kernel_rfl) (by kernel_rfl) (by kernel_rfl) (fun _ _ _ _ h => h) rfl (by rfl) ?_
  apply Exists.intro
  apply And.intro
  · intro W hW
    first | (go_simp; with_reducible rfl) | go_simp
  (try simp only [Act.put, List.setIfInBounds_toArray]); (try simp only [List.set_cons_succ]); (try simp only [List.set_cons_zero])
  refine r_flt RB_refl 16 40 #[true, true, true, true, true, true, true, true, true, true, true, true, true, true, true, true, true, false, false, false, false, false, false, false, false, false, false, false] (by simp only [List.getElem?_toArray, List.getElem?_cons_succ, List.getElem?_cons_zero]; rfl) (by rfl) (by kernel_rfl) (by kernel_rfl) (by kernel_rfl) (fun _ _ _ _ h => h) rfl (by rfl) ?_
  apply Exists.intro
  apply And.intro
  · intro W hW
    have c := (hbl.below hW).cell 1
    simp at c
    go_simp; rfl
  (try simp only [Act.put, List.setIfInBounds_toArray]); (try simp only [List.set_cons_succ]); (try simp only [List.set_cons_zero])
  refine r_flt RB_refl 17 41 #[true, true, true, true, true, true, true, true, true, true, true, true, true, true, true, true, true, true, false, false, false, false, false, false, false, false, false, false] (by simp only [List.getElem?_toArray, List.getElem?_cons_succ, List.getElem?_cons_zero]; rfl) (by rfl) (by kernel_rfl) (by kernel_rfl) (by kernel_rfl) (fun _ _ _ _ h => h) rfl (by rfl) ?_
  apply Exists.intro
  apply And.intro
  · intro W hW
    go_simp; rfl
  (try simp only [Act.put, List.setIfInBounds_toArray]); (try simp only [List.set_cons_succ]); (try simp only [List.set_cons_zero])
  refine r_flt RB_refl 18 42 #[true, true, true, true, true, true, true, true, true, true, true, true, true, true, true, true, true, true, true, false, false, false, false, false, false, false, false, false] (by simp only [List.getElem?_toArray, List.getElem?_cons_succ, List.getElem?_cons_zero]; rfl) (by rfl) (by kernel_rfl) (by kernel_rfl) (by kernel_rfl) (fun _ _ _ _ h => h) rfl (by rfl) ?_
  apply Exists.intro
  apply And.intro
  · intro W hW
    first | (go_simp; with_reducible rfl) | go_simp
  (try simp only [Act.put, List.setIfInBounds_toArray]); (try simp only [List.set_cons_succ]); (try simp only [List.set_cons_zero])
  refine r_flt RB_refl 19 43 #[true, true, true, true, true, true, true, true, true, true, true, true, true, true, true, true, true, true, true, true, false, false, false, false, false, false, false, false] (by simp only [List.getElem?_toArray, List.getElem?_cons_succ, List.getElem?_cons_zero]; rfl) (by rfl) (by kernel_rfl) (by kernel_rfl) (by kernel_rfl) (fun _ _ _ _ h => h) rfl (by rfl) ?_
  apply Exists.intro
  apply And.intro
  · intro W hW
    have c := (hbl.below hW).cell 0
    simp at c
    go_simp; rfl
  (try simp only [Act.put, List.setIfInBounds_toArray]); (try simp only [List.set_cons_succ]); (try simp only [List.set_cons_zero])
  refine r_flt RB_refl 20 44 #[true, true, true, true, true, true, true, true, true, true, true, true, true, true, true, true, true, true, true, true, true, false, false, false, false, false, false, false] (by simp only [List.getElem?_toArray, List.getElem?_cons_succ, List.getElem?_cons_zero]; rfl) (by rfl) (by kernel_rfl) (by kernel_rfl) (by kernel_rfl) (fun _ _ _ _ h => h) rfl (by rfl) ?_
  apply Exists.intro
  apply And.intro
  · intro W hW
    go_simp; rfl
  (try simp only [Act.put, List.setIfInBounds_toArray]); (try simp only [List.set_cons_succ]); (try simp only [List.set_cons_zero])
  refine r_flt RB_refl 21 45 #[true, true, true, true, true, true, true, true, true, true, true, true, true, true, true, true, true, true, true, true, true, true, false, false, false, false, false, false] (by simp only [List.getElem?_toArray, List.getElem?_cons_succ, List.getElem?_cons_zero]; rfl) (by rfl) (by kernel_rfl) (by kernel_rfl) (by kernel_rfl) (fun _ _ _ _ h => h) rfl (by rfl) ?_
  apply Exists.intro
  apply And.intro
  · intro W hW
    first | (go_simp; with_reducible rfl) | go_simp
  (try simp only [Act.put, List.setIfInBounds_toArray]); (try simp only [List.set_cons_succ]); (try simp only [List.set_cons_zero])
  refine r_flt RB_refl 22 46 #[true, true, true, true, true, true, true, true, true, true, true, true, true, true, true, true, true, true, true, true, true, true, true, false, false, false, false, false] (by simp only [List.getElem?_toArray, List.getElem?_cons_succ, List.getElem?_cons_zero]; rfl) (by rfl) (by kernel_rfl) (by kernel_rfl) (by kernel_rfl) (fun _ _ _ _ h => h) rfl (by rfl) ?_
  apply Exists.intro
  apply And.intro
  · intro W hW
    first | (go_simp; with_reducible rfl) | go_simp
  (try simp only [Act.put, List.setIfInBounds_toArray]); (try simp only [List.set_cons_succ]); (try simp only [List.set_cons_zero])
  refine r_flt RB_refl 23 47 #[true, true, true, true, true, true, true, true, true, true, true, true, true, true, true, true, true, true, true, true, true, true, true, true, false, false, false, false] (by simp only [List.getElem?_toArray, List.getElem?_cons_succ, List.getElem?_cons_zero]; rfl) (by rfl) (by kernel_rfl) (by kernel_rfl) (by kernel_rfl) (fun _ _ _ _ h => h) rfl (by rfl) ?_
  apply Exists.intro
  apply And.intro
  · intro W hW
    have c := (hbl.below hW).cell 0
    simp at c
    go_simp; rfl
  (try simp only [Act.put, List.setIfInBounds_toArray]); (try simp only [List.set_cons_succ]); (try simp only [List.set_cons_zero])
  refine r_flt RB_refl 24 48 #[true, true, true, true, true, true, true, true, true, true, true, true, true, true, true, true, true, true, true, true, true, true, true, true, true, false, false, false] (by simp only [List.getElem?_toArray, List.getElem?_cons_succ, List.getElem?_cons_zero]; rfl) (by rfl) (by kernel_rfl) (by kernel_rfl) (by kernel_rfl) (fun _ _ _ _ h => h) rfl (by rfl) ?_
  apply Exists.intro
  apply And.intro
  · intro W hW
    go_simp; rfl
  (try simp only [Act.put, List.setIfInBounds_toArray]); (try simp only [List.set_cons_succ]); (try simp only [List.set_cons_zero])
  refine r_flt RB_refl 25 49 #[true, true, true, true, true, true, true, true, true, true, true, true, true, true, true, true, true, true, true, true, true, true, true, true, true, true, false, false] (by simp only [List.getElem?_toArray, List.getElem?_cons_succ, List.getElem?_cons_zero]; rfl) (by rfl) (by kernel_rfl) (by kernel_rfl) (by kernel_rfl) (fun _ _ _ _ h => h) rfl (by rfl) ?_
  apply Exists.intro
  apply And.intro
  · intro W hW
    go_simp; rfl
  (try simp only [Act.put, List.setIfInBounds_toArray]); (try simp only [List.set_cons_succ]); (try simp only [List.set_cons_zero])
  refine r_flt RB_refl 26 4 #[true, true, true, true, true, true, true, true, true, true, true, true, true, true, true, true, true, true, true, true, true, true, true, true, true, true, true, false] (by simp only [List.getElem?_toArray, List.getElem?_cons_succ, List.getElem?_cons_zero]; rfl) (by rfl) (by kernel_rfl) (by kernel_rfl) (by kernel_rfl) (fun _ _ _ _ h => h) rfl (by rfl) ?_
  apply Exists.intro
  apply And.intro
  · intro W hW
    first | (go_simp; with_reducible rfl) | go_simp
  (try simp only [Act.put, List.setIfInBounds_toArray]); (try simp only [List.set_cons_succ]); (try simp only [List.set_cons_zero])
  refine r_flt RB_refl 27 5 #[true, true, true, true, true, true, true, true, true, true, true, true, true, true, true, true, true, true, true, true, true, true, true, true, true, true, true, true] (by simp only [List.getElem?_toArray, List.getElem?_cons_succ, List.getElem?_cons_zero]; rfl) (by rfl) (by kernel_rfl) (by kernel_rfl) (by kernel_rfl) (fun _ _ _ _ h => h) rfl (by rfl) ?_
  apply Exists.intro
  apply And.intro
  · intro W hW
    first | (go_simp; with_reducible rfl) | go_simp
  (try simp only [Act.put, List.setIfInBounds_toArray]); (try simp only [List.set_cons_succ]); (try simp only [List.set_cons_zero])
  refine r_done (by kernel_rfl) ?_
  go_wp2_with fail
  go_ret2
  exact ⟨⟨_, by rw [E.out]; rfl⟩, bb⟩
set_option maxHeartbeats 4000000 in
set_option maxRecDepth 100000 in
theorem rObjects_any (u n o z : Int) (w : World) : Calls Try.prog 64 #[layV u n o, .int .i64 z] w fun e w' => e = .returned (.int .i64 (objO u n o z)) ∧ Below w.heap.size w w' := by
  have bb := below_new w (.cells #[.int .i64 u, .int .i64 n, .int .i64 o] 23)
  have hbl := Blk.new w 23 #[.int .i64 u, .int .i64 n, .int .i64 o]
  have hlm := fun w => rLay_any u n o w
  unfold layV at hlm ⊢
  cases hl : layO u n o
  · have E : Hid (objO u n o z = 0) := by unfold Hid objO; rw [if_neg (by rw [hl]; simp)]
    rw [hl] at hlm
    clear hl
    go_enter Try.func64, Try.ntmps64
    go_wp2_with fail
    refine (hlm _).mono ?_
    clear hlm
    rintro e w2 ⟨rfl, b2⟩
    have bb := bb.thenB' b2
    go_wp2_with fail
    go_loopw [6, 7, 8, 9] (fun m i s8 s9 wr => m = .int .i64 0 ∧ i = .int .i64 0 ∧ w2 = wr) (fun _ _ _ _ _ => 1)
    case atStart => exact ⟨rfl, rfl, rfl⟩
    case round =>
      obtain ⟨rfl, rfl, rfl⟩ := hrel
      go_wp2_with fail
      go_ret
      exact ⟨by rw [E.out]; rfl, bb⟩
  · by_cases hz : 0 ≤ z ∧ z ≤ 512
    · have hlay : 1 ≤ u ∧ 1 ≤ n ∧ n ≤ 8 ∧ u ≤ o ∧ o ≤ 64 ∧ o.tmod u = 0 := by unfold layO at hl; simpa using hl
      obtain ⟨U, rfl⟩ : ∃ U : Nat, u = (U : Int) := ⟨u.toNat, by omega⟩
      obtain ⟨N, rfl⟩ : ∃ N : Nat, n = (N : Int) := ⟨n.toNat, by omega⟩
      obtain ⟨O, rfl⟩ : ∃ O : Nat, o = (O : Int) := ⟨o.toNat, by omega⟩
      obtain ⟨K, rfl⟩ : ∃ K : Nat, z = (K : Int) := ⟨z.toNat, by omega⟩
      have E : Hid (objO (U : Int) (N : Int) (O : Int) (K : Int) = (mostB U (O / U * N) N K : Int)) := by
        unfold Hid objO
        rw [if_pos ⟨hl, hz.1, hz.2⟩, most_obj U N O K (by omega) (by omega) (by omega)]; rfl
      have hpl := fun (k : Nat) (hk : k ≤ 1000) (w : World) => rplace_any U N O k w (by omega) (by omega) (by omega) (by omega) (by omega) hk
      have HL : Hid (1 ≤ N ∧ N ≤ 8 ∧ K ≤ 512) := ⟨by omega, by omega, by omega⟩
      unfold layV at hpl
      rw [hl] at hlm
      clear hl hlay
      have hK5 : K ≤ 512 := by omega
      clear hz
      go_enter Try.func64, Try.ntmps64
      go_wp2_with fail
      refine (hlm _).mono ?_
      clear hlm
      rintro e w2 ⟨rfl, b2⟩
      have bb := bb.thenB' b2
      have hbl := hbl.below b2
      go_wp2_with fail
      go_loopw [6, 7, 8, 9] (fun m i s8 s9 wr => ∃ k M : Nat, k ≤ K ∧ i = .int .i64 (k : Int) ∧ m = .int .i64 (M : Int) ∧ Hid (M = mostB U (O / U * N) N k) ∧ M ≤ 100000 ∧ Blk wr w.heap.size 23 #[.int .i64 (U : Int), .int .i64 (N : Int), .int .i64 (O : Int)] ∧ Below w.heap.size w wr) (fun _ i _ _ _ => K - (intOf i).toNat)
      case atStart => exact ⟨0, 0, Nat.zero_le _, rfl, rfl, Lib.hid rfl, by omega, hbl, bb⟩
      case round =>
        clear hbl bb
        obtain ⟨k, M, hk, rfl, rfl, HM, hM, hbl, bb⟩ := hrel
        have c0 := hbl.cell 0
        have c1 := hbl.cell 1
        have c2 := hbl.cell 2
        simp at c0 c1 c2
        by_cases hlt : k < K
        · have hpk := fun w => hpl k (by omega) w
          have HM2 : Hid (mostB U (O / U * N) N (k + 1) = max M (objU (O / U * N) N (k / U) + 1)) := by unfold Hid; rw [mostB, HM.out]
          have hob : objU (O / U * N) N (k / U) ≤ 99999 := by
            unfold objU
            have h1 := HL.out
            have h2 : k / U / (O / U * N) ≤ 512 := Nat.le_trans (Nat.div_le_self _ _) (Nat.le_trans (Nat.div_le_self _ _) (by omega))
            have h3 : k / U / (O / U * N) * N ≤ 512 * 8 := Nat.mul_le_mul h2 h1.2.1
            have h4 := Nat.mod_lt (k / U % (O / U * N)) (show 0 < N by omega)
            omega
          generalize objU (O / U * N) N (k / U) = ob at *
          go_wp2_with fail
          refine (hpk _).mono ?_
          clear hpk
          rintro e w3 ⟨⟨y, rfl⟩, b3⟩
          have hbl := hbl.below b3
          have bb := bb.thenB' b3
          go_wp2_with fail
          go_roundw
          case rel => exact ⟨k + 1, max M (ob + 1), by omega, by go_num, by congr 1; omega, Lib.hid HM2.out.symm, by omega, hbl, bb⟩
          case measure => simp [intOf] <;> omega
        · obtain rfl : k = K := by omega
          go_wp2_with fail
          go_ret
          exact ⟨by rw [E.out, ← HM.out]; rfl, bb⟩
    · have E : Hid (objO u n o z = 0) := by unfold Hid objO; rw [if_neg (by omega)]
      rw [hl] at hlm
      clear hl
      go_enter Try.func64, Try.ntmps64
      go_wp2_with fail
      refine (hlm _).mono ?_
      clear hlm
      rintro e w2 ⟨rfl, b2⟩
      have bb := bb.thenB' b2
      have hz2 : decide (0 < z) = false ∨ decide (0 < z) = true ∧ decide (z ≤ 512) = false := by
        by_cases h : 0 < z
        · exact .inr ⟨by simp [h], by simp; omega⟩
        · exact .inl (by simp [h])
      clear hz
      go_wp2_with fail
      go_loopw [6, 7, 8, 9] (fun m i s8 s9 wr => m = .int .i64 0 ∧ i = .int .i64 0 ∧ w2 = wr) (fun _ _ _ _ _ => 1)
      case atStart => exact ⟨rfl, rfl, rfl⟩
      case round =>
        obtain ⟨rfl, rfl, rfl⟩ := hrel
        rcases hz2 with h0 | ⟨h0, h1⟩
        all_goals
          go_wp2_with fail
          go_ret
          exact ⟨by rw [E.out]; rfl, bb⟩
end Go.Proofs.Ytpgfhbkggchliaa

/- Heads in memory; where a snapshot stands; the newest one. -/
namespace Go.Proofs.Ytpgfhbkggchliaa
open Go.RowKit
set_option linter.unusedVariables false

structure SnV where
  id : Int
  size : Int
  A : Option Addr
  m : List Int
  c : Nat
structure HdV where
  u : Int
  n : Int
  o : Int
  size : Int
  MA : Option Addr
  m : List Int
  mc : Nat
  SA : Option Addr
  S : List SnV
  sc : Nat
  last : Int
  seq : Int
def snC (s : SnV) : List Value := [cI s.id, cI s.size, .slice s.A s.m.length s.c]
def hdA (h : HdV) : Array Value := #[.int .i64 h.u, .int .i64 h.n, .int .i64 h.o, .int .i64 h.size, .slice h.MA h.m.length h.mc, .slice h.SA h.S.length h.sc, .int .i64 h.last, .int .i64 h.seq]
def hdV (h : HdV) : Value := .agg (hdA h)
def SnR (w : World) (D : Nat → Prop) (s : SnV) : Prop := RdI w D s.A s.m ∧ s.m.length ≤ s.c ∧ s.c ≤ 9223372036854775807
/-- A head reads. -/
def HdR (w : World) (D : Nat → Prop) (h : HdV) : Prop := RdI w D h.MA h.m ∧ h.m.length ≤ h.mc ∧ h.mc ≤ 9223372036854775807 ∧ RdL w D 3 snC h.SA h.S ∧ h.S.length ≤ h.sc ∧ h.sc ≤ 9223372036854775807 ∧ ∀ s ∈ h.S, SnR w D s
theorem SnR.below {w w' : World} {D : Nat → Prop} {s : SnV} (h : SnR w D s) (hb : Below w.heap.size w w') : SnR w' D s := ⟨RdI.below h.1 hb, h.2⟩
theorem HdR.below {w w' : World} {D : Nat → Prop} {h : HdV} (hr : HdR w D h) (hb : Below w.heap.size w w') : HdR w' D h :=
  ⟨RdI.below hr.1 hb, hr.2.1, hr.2.2.1, RdL.below hr.2.2.2.1 hb, hr.2.2.2.2.1, hr.2.2.2.2.2.1, fun s hs => (hr.2.2.2.2.2.2 s hs).below hb⟩
theorem add_at (a : Addr) (n j : Nat) : a.add (n + (j + 1)) = ⟨(a.add n).block, (a.add n).off + (j + 1), none⟩ := by
  rw [← add_of_add]
  generalize a.add n = b
  unfold Addr.add
  rw [if_neg (by omega)]
theorem RdL.sn {w : World} {D : Nat → Prop} {A : Option Addr} {L : List SnV} (h : RdL w D 3 snC A L) {i : Nat} (hi : i < L.length) :
    ∃ ad, A = some ad ∧ w.cell? (ad.add (i * 3)) = some (.int .i64 L[i].id) ∧ w.cell? ⟨(ad.add (i * 3)).block, (ad.add (i * 3)).off + 1, none⟩ = some (.int .i64 L[i].size) ∧ w.cell? ⟨(ad.add (i * 3)).block, (ad.add (i * 3)).off + 2, none⟩ = some (.slice L[i].A L[i].m.length L[i].c) := by
  obtain ⟨ad, e, _, hc⟩ := h (by omega)
  have hL := List.getElem?_eq_getElem hi
  exact ⟨ad, e, hc i _ hL 0 _ rfl, by rw [← add_at _ _ 0]; exact hc i _ hL 1 _ rfl, by rw [← add_at _ _ 1]; exact hc i _ hL 2 _ rfl⟩

/-! ### where a snapshot stands -/
def findAt : List Int → Int → Nat → Int
  | [], _, _ => -1
  | s :: r, id, k => if s = id then (k : Int) else findAt r id (k + 1)
def findO (ids : List Int) (id : Int) : Int := findAt ids id 0
theorem find_here {ids : List Int} {id : Int} {k : Nat} (hk : k < ids.length) (h : findAt (ids.drop k) id k = findO ids id) (he : ids[k] = id) : findO ids id = (k : Int) := by
  rw [List.drop_eq_getElem_cons hk, findAt, if_pos he] at h
  exact h.symm
theorem find_next {ids : List Int} {id : Int} {k : Nat} (hk : k < ids.length) (h : findAt (ids.drop k) id k = findO ids id) (he : ids[k] ≠ id) : findAt (ids.drop (k + 1)) id (k + 1) = findO ids id := by
  rw [List.drop_eq_getElem_cons hk, findAt, if_neg he] at h
  exact h
theorem find_end {ids : List Int} {id : Int} {k : Nat} (hk : ids.length ≤ k) (h : findAt (ids.drop k) id k = findO ids id) : findO ids id = -1 := by
  rw [List.drop_eq_nil_of_le hk] at h
  exact h.symm
def idsO (S : List SnV) : List Int := S.map fun s => s.id
theorem ids_len (S : List SnV) : (idsO S).length = S.length := by unfold idsO; simp
theorem ids_at (S : List SnV) (k : Nat) (h : k < S.length) : (idsO S)[k]'(by rw [ids_len]; exact h) = S[k].id := by unfold idsO; simp

set_option maxRecDepth 100000 in
theorem findclo_any (bx : Nat) (id : Int) (s : SnV) (w : World) (hB : Blk w bx 3 #[.int .i64 id]) :
    Calls Try.prog 38 #[.agg #[.int .i64 s.id, .int .i64 s.size, .slice s.A s.m.length s.c], .pointer (some ⟨bx, 0, none⟩)] w fun e w' => e = .returned (.bool (s.id == id)) ∧ Below w.heap.size w w' := by
  have hb := below_new w (.cells #[.int .i64 s.id, .int .i64 s.size, .slice s.A s.m.length s.c] 52)
  have c0 := (hB.below hb).cell 0
  simp at c0
  go_enter Try.func38, Try.ntmps38
  go_wp2_with fail
  go_ret
  exact ⟨rfl, hb⟩

set_option maxHeartbeats 4000000 in
set_option maxRecDepth 100000 in
theorem snIndex_any (bx : Nat) (id : Int) (D : Nat → Prop) (A : Option Addr) (c : Nat) (L : List SnV) (w : World) (hB : Blk w bx 3 #[.int .i64 id]) (h : RdL w D 3 snC A L) (hl : L.length ≤ 9223372036854775807) :
    Calls Try.prog 37 #[.slice A L.length c, .func (.func 38) #[] #[.pointer (some ⟨bx, 0, none⟩)]] w fun e w' => e = .returned (.int .i64 (findO (idsO L) id)) ∧ Below w.heap.size w w' := by
  have hent : ∀ (args : Array Value) (w : World), (callFunc 38 args).run Try.prog w = .ok (.enter 38 args) w := Go.Proofs.enters_of Try.func38 (by kernel_rfl) rfl
  go_enter Try.func37, Try.ntmps37
  go_wp2_with fail
  go_loopw [5, 8] (fun s5 i wr => ∃ k : Nat, k ≤ L.length ∧ i = .int .i64 (k : Int) ∧ Hid (findAt ((idsO L).drop k) id k = findO (idsO L) id) ∧ Below w.heap.size w wr) (fun _ i _ => L.length - (intOf i).toNat)
  case atStart => exact ⟨0, Nat.zero_le _, rfl, Lib.hid rfl, Below.refl _ _⟩
  case round =>
    obtain ⟨k, hk, rfl, HF, bb⟩ := hrel
    by_cases hlt : k < L.length
    · obtain ⟨ad, rfl, c0, c1, c2⟩ := (h.below bb).sn hlt
      have hcl := findclo_any bx id L[k] _ (hB.below bb)
      have hids := ids_at L k hlt
      have hkl : k < (idsO L).length := by rw [ids_len]; exact hlt
      by_cases he : L[k].id = id
      · have E := Lib.hid (find_here hkl HF.out (hids.trans he))
        have hb : (L[k].id == id) = true := by simp [he]
        rw [hb] at hcl
        clear he hb hids
        generalize L[k].id = z at *
        generalize L[k].size = y at *
        generalize L[k].A = Ax at *
        generalize L[k].m = x at *
        generalize L[k].c = cx at *
        go_wp2_with fail
        refine hcl.mono ?_
        clear hcl
        rintro e w2 ⟨rfl, b2⟩
        go_wp2_with fail
        go_ret
        exact ⟨by rw [E.out]; rfl, bb.thenB' b2⟩
      · have E := Lib.hid (find_next hkl HF.out (fun e => he (hids.symm.trans e)))
        have hb : (L[k].id == id) = false := by simp [he]
        rw [hb] at hcl
        clear he hb hids
        generalize L[k].id = z at *
        generalize L[k].size = y at *
        generalize L[k].A = Ax at *
        generalize L[k].m = x at *
        generalize L[k].c = cx at *
        go_wp2_with fail
        refine hcl.mono ?_
        clear hcl
        rintro e w2 ⟨rfl, b2⟩
        go_wp2_with fail
        go_roundw
        case rel => exact ⟨k + 1, by omega, by go_num, E, bb.thenB' b2⟩
        case measure => simp [intOf] <;> omega
    · have E := Lib.hid (find_end (by rw [ids_len]; omega) HF.out)
      go_wp2_with fail
      go_ret
      exact ⟨by rw [E.out]; rfl, bb⟩
end Go.Proofs.Ytpgfhbkggchliaa

/- Where a snapshot stands, and the newest one: the code and the document. -/
namespace Go.Proofs.Ytpgfhbkggchliaa
open Go.RowKit
set_option linter.unusedVariables false

def newO (ids : List Int) : Int := ids.getLastD 0
set_option maxHeartbeats 4000000 in
set_option maxRecDepth 100000 in
theorem Find_any (D : Nat → Prop) (h : HdV) (id : Int) (w : World) (hr : HdR w D h) :
    Calls Try.prog 17 #[hdV h, .int .i64 id] w fun e w' => e = .returned (.int .i64 (findO (idsO h.S) id)) ∧ Below w.heap.size w w' := by
  obtain ⟨_, _, _, hS, hl, hm, _⟩ := hr
  have b1 := below_new w (.cells (hdA h) 27)
  have b2 := below_new (w.alloc (.cells (hdA h) 27)) (.cells #[.int .i64 id] 3)
  have hB := Blk.new (w.alloc (.cells (hdA h) 27)) 3 #[.int .i64 id]
  have hsz : (w.alloc (.cells (hdA h) 27)).heap.size = w.heap.size + 1 := Array.size_push ..
  rw [hsz] at hB
  have hix := snIndex_any (w.heap.size + 1) id D h.SA h.sc h.S _ hB ((hS.below b1).below b2) (by omega)
  have hmf : ∀ (fn : Fn) (first cap : Array Value) (w : World), (Instr.makeFunc fn first cap).run Try.prog w = .ok (.func fn first cap) w := fun _ _ _ _ => rfl
  have bb := b1.thenB' b2
  clear b1 b2 hB hsz hS
  unfold hdV hdA at *
  generalize findO (idsO h.S) id = r at *
  go_enter Try.func17, Try.ntmps17
  go_wp2_with fail
  refine hix.mono ?_
  clear hix
  rintro e w2 ⟨rfl, b2⟩
  go_wp2_with fail
  go_ret
  exact ⟨rfl, bb.thenB' b2⟩

set_option maxHeartbeats 4000000 in
set_option maxRecDepth 100000 in
theorem rFind_any (D : Nat → Prop) (h : HdV) (id : Int) (w : World) (hr : HdR w D h) :
    Calls Try.prog 18 #[hdV h, .int .i64 id] w fun e w' => e = .returned (.int .i64 (findO (idsO h.S) id)) ∧ Below w.heap.size w w' := by
  obtain ⟨_, _, _, hS, hl, hm, _⟩ := hr
  have b1 := below_new w (.cells (hdA h) 27)
  have hB := Blk.new w 27 (hdA h)
  have hS := hS.below b1
  obtain ⟨hu, hn, ho, hz, MA, mm, mc, A, L, sc, la, sq⟩ := h
  unfold hdV
  unfold hdA at *
  dsimp only at *
  have HL : Hid (L.length ≤ 9223372036854775807) := by unfold Hid; omega
  go_enter Try.func18, Try.ntmps18
  go_wp2_with fail
  generalize w.alloc (.cells #[.int .i64 hu, .int .i64 hn, .int .i64 ho, .int .i64 hz, .slice MA mm.length mc, .slice A L.length sc, .int .i64 la, .int .i64 sq] 27) = w1 at *
  have c5 := hB.cell 5
  simp at c5
  go_loopw [5] (fun i wr => ∃ k : Nat, k ≤ L.length ∧ i = .int .i64 (k : Int) ∧ Hid (findAt ((idsO L).drop k) id k = findO (idsO L) id) ∧ w1 = wr) (fun i _ => L.length - (intOf i).toNat)
  case atStart => exact ⟨0, Nat.zero_le _, rfl, Lib.hid rfl, rfl⟩
  case round =>
    obtain ⟨k, hk, rfl, HF, rfl⟩ := hrel
    by_cases hlt : k < L.length
    · obtain ⟨ad, rfl, c0, c1, c2⟩ := hS.sn hlt
      have hids := ids_at L k hlt
      have hkl : k < (idsO L).length := by rw [ids_len]; exact hlt
      by_cases he : L[k].id = id
      · have E := Lib.hid (find_here hkl HF.out (hids.trans he))
        have hb : (L[k].id == id) = true := by simp [he]
        clear he hids
        generalize L[k].id = z at *
        go_wp2_with fail
        go_ret
        exact ⟨by rw [E.out]; rfl, b1⟩
      · have E := Lib.hid (find_next hkl HF.out (fun e => he (hids.symm.trans e)))
        have hb : (L[k].id == id) = false := by simp [he]
        clear he hids
        generalize L[k].id = z at *
        go_wp2_with fail
        go_roundw
        case rel => exact ⟨k + 1, by omega, by have := HL.out; go_num, E, trivial⟩
        case measure => simp [intOf] <;> omega
    · have E := Lib.hid (find_end (by rw [ids_len]; omega) HF.out)
      go_wp2_with fail
      go_ret
      exact ⟨by rw [E.out]; rfl, b1⟩

set_option maxHeartbeats 4000000 in
set_option maxRecDepth 100000 in
theorem Newest_any (D : Nat → Prop) (h : HdV) (w : World) (hr : HdR w D h) :
    Calls Try.prog 19 #[hdV h] w fun e w' => e = .returned (.int .i64 (newO (idsO h.S))) ∧ Below w.heap.size w w' := by
  obtain ⟨_, _, _, hS, hl, hm, _⟩ := hr
  have b1 := below_new w (.cells (hdA h) 27)
  have hB := Blk.new w 27 (hdA h)
  have hS := hS.below b1
  unfold hdV
  unfold hdA at *
  by_cases h0 : h.S.length = 0
  · have E : Hid (newO (idsO h.S) = 0) := by unfold Hid; rw [List.eq_nil_of_length_eq_zero h0]; rfl
    have hb : ((h.S.length : Int) == 0) = true := by simp [h0]
    clear h0
    go_enter Try.func19, Try.ntmps19
    go_wp2_with fail
    go_ret
    exact ⟨by rw [E.out]; rfl, b1⟩
  · have hb : ((h.S.length : Int) == 0) = false := by simp; exact fun e => h0 (by simp [e])
    obtain ⟨k, hk⟩ : ∃ k, h.S.length = k + 1 := ⟨h.S.length - 1, by omega⟩
    obtain ⟨ad, hA, c0, c1, c2⟩ := hS.sn (show k < h.S.length by omega)
    have E : Hid (newO (idsO h.S) = (h.S[k]'(by omega)).id) := by
      unfold Hid newO
      rw [List.getLastD_eq_getLast?, List.getLast?_eq_getElem?, show (idsO h.S).length - 1 = k by rw [ids_len]; omega]
      unfold idsO
      rw [List.getElem?_map, List.getElem?_eq_getElem (by omega)]; rfl
    have hsub : ((h.S.length : Int)) - 1 = (k : Int) := by omega
    have hki : (k : Int) < (h.S.length : Int) := by omega
    have hkn : k < h.S.length := by omega
    have hsc : (h.S.length : Int) ≤ 9223372036854775807 := by omega
    rw [hA] at c0 b1 ⊢
    generalize (h.S[k]'hkn).id = z at *
    clear h0 c1 c2
    clear hk hA
    go_enter Try.func19, Try.ntmps19
    go_wp2_with fail
    go_ret
    exact ⟨by rw [E.out]; rfl, b1⟩

set_option maxHeartbeats 4000000 in
set_option maxRecDepth 100000 in
theorem rNewest_any (D : Nat → Prop) (h : HdV) (w : World) (hr : HdR w D h) :
    Calls Try.prog 20 #[hdV h] w fun e w' => e = .returned (.int .i64 (newO (idsO h.S))) ∧ Below w.heap.size w w' := by
  obtain ⟨_, _, _, hS, hl, hm, _⟩ := hr
  have b1 := below_new w (.cells (hdA h) 27)
  have hB := Blk.new w 27 (hdA h)
  have hS := hS.below b1
  unfold hdV
  unfold hdA at *
  by_cases h0 : h.S.length = 0
  · have E : Hid (newO (idsO h.S) = 0) := by unfold Hid; rw [List.eq_nil_of_length_eq_zero h0]; rfl
    have hb : ((h.S.length : Int) == 0) = true := by simp [h0]
    clear h0
    go_enter Try.func20, Try.ntmps20
    go_wp2_with fail
    go_ret
    exact ⟨by rw [E.out]; rfl, b1⟩
  · have hb : ((h.S.length : Int) == 0) = false := by simp; exact fun e => h0 (by simp [e])
    obtain ⟨k, hk⟩ : ∃ k, h.S.length = k + 1 := ⟨h.S.length - 1, by omega⟩
    obtain ⟨ad, hA, c0, c1, c2⟩ := hS.sn (show k < h.S.length by omega)
    have E : Hid (newO (idsO h.S) = (h.S[k]'(by omega)).id) := by
      unfold Hid newO
      rw [List.getLastD_eq_getLast?, List.getLast?_eq_getElem?, show (idsO h.S).length - 1 = k by rw [ids_len]; omega]
      unfold idsO
      rw [List.getElem?_map, List.getElem?_eq_getElem (by omega)]; rfl
    have hsub : ((h.S.length : Int)) - 1 = (k : Int) := by omega
    have hki : (k : Int) < (h.S.length : Int) := by omega
    have hkn : k < h.S.length := by omega
    have hsc : (h.S.length : Int) ≤ 9223372036854775807 := by omega
    rw [hA] at c0 b1 ⊢
    generalize (h.S[k]'hkn).id = z at *
    clear h0 c1 c2
    clear hk hA
    go_enter Try.func20, Try.ntmps20
    go_wp2_with fail
    go_ret
    exact ⟨by rw [E.out]; rfl, b1⟩
end Go.Proofs.Ytpgfhbkggchliaa

namespace Go.Proofs.Ytpgfhbkggchliaa
open Go.RowKit
set_option linter.unusedVariables false

theorem Ints_any (D D' : Nat → Prop) (A A' : Option Addr) (c c' : Nat) (xs ys : List Int) {w : World} (h : RdI w D A xs) (h' : RdI w D' A' ys) (hm : xs.length ≤ big) (hm' : ys.length ≤ big) :
    Calls Try.prog 27 #[.slice A xs.length c, .slice A' ys.length c'] w fun e w' => e = .returned (.bool (decide (xs = ys))) ∧ ∃ n, w' = w.drewN n := by
  have hm1 : xs.length ≤ 9223372036854775807 := by unfold big at hm; omega
  have hm2 : ys.length ≤ 9223372036854775807 := by unfold big at hm'; omega
  clear hm hm'
  by_cases hl : xs.length = ys.length
  · have hl2 : (((xs.length : Nat) : Int) != ((ys.length : Nat) : Int)) = false := by simp [hl]
    have HL := Lib.hid hl
    clear hl
    go_enter Try.func27, Try.ntmps27
    go_wp2
    go_loopw [5] (fun i wr => ∃ k : Nat, k ≤ xs.length ∧ i = .int .i64 k ∧ xs.take k = ys.take k ∧ ∃ n, wr = w.drewN n) (fun i _ => xs.length - (intOf i).toNat)
    case atStart => exact ⟨0, Nat.zero_le _, rfl, rfl, 0, rfl⟩
    case round =>
      obtain ⟨k, hk, rfl, hp, n, rfl⟩ := hrel
      have HP := Lib.hid hp
      clear hp
      by_cases hlt : k < xs.length
      · obtain ⟨ad, rfl, _, hc⟩ := h.at_ hlt
        have hlt' : k < ys.length := by have := HL.out; omega
        obtain ⟨ad', rfl, _, hc'⟩ := h'.at_ hlt'
        by_cases he : xs[k] = ys[k]
        · have hb : (xs[k] != ys[k]) = false := by simp [he]
          have HE := Lib.hid he
          clear he
          go_wp2
          go_quiet (fail)
          go_wp2
          go_roundw
          case rel => exact ⟨k + 1, by omega, by go_num, by rw [List.take_succ_eq_append_getElem hlt, List.take_succ_eq_append_getElem hlt', HP.out, HE.out], n + nq, rfl⟩
          case measure => simp [intOf]; omega
        · have hb : (xs[k] != ys[k]) = true := by simp [he]
          have hne : Hid (decide (xs = ys) = false) := by
            unfold Hid
            rw [decide_eq_false_iff_not]
            intro e
            apply he
            simp only [e]
          clear he
          go_wp2
          go_quiet (fail)
          go_wp2
          go_ret
          exact ⟨by rw [hne.out]; rfl, n + nq, by simp⟩
      · go_wp2
        go_ret
        have hd : decide (xs = ys) = true := by
          rw [decide_eq_true_iff]
          have h1 := HP.out
          rw [List.take_of_length_le (by omega), List.take_of_length_le (by have := HL.out; omega)] at h1
          exact h1
        exact ⟨by rw [hd]; rfl, n, rfl⟩
  · have hl2 : (((xs.length : Nat) : Int) != ((ys.length : Nat) : Int)) = true := by simp; omega
    have hd : Hid (decide (xs = ys) = false) := by
      unfold Hid
      rw [decide_eq_false_iff_not]
      intro e
      exact hl (by rw [e])
    clear hl
    go_enter Try.func27, Try.ntmps27
    go_wp2
    go_ret
    exact ⟨by rw [hd.out]; rfl, 0, rfl⟩
theorem Ints_yes (D D' : Nat → Prop) (A A' : Option Addr) (n c c' : Nat) (xs : List Int) {w : World} (hn : n = xs.length) (h : RdI w D A xs) (h' : RdI w D' A' xs) (hm : xs.length ≤ big) :
    Calls Try.prog 27 #[.slice A n c, .slice A' n c'] w fun e w' => e = .returned (.bool true) ∧ Below w.heap.size w w' := by
  subst hn
  exact (Ints_any D D' A A' c c' xs xs h h' hm hm).mono fun e w' ⟨he, n, hw⟩ => by
    subst hw
    exact ⟨by rw [he]; simp, below_drewN (Below.refl _ _) n⟩
end Go.Proofs.Ytpgfhbkggchliaa

/- Maps of objects: what the document says, as plain functions. No program. -/
namespace Go.Proofs.Ytpgfhbkggchliaa
set_option linter.unusedVariables false

/-- What a map says of the object k. -/
def gN (m : List Int) (k : Nat) : Int := if k < 512 ∧ 0 ≤ m.getD k 0 ∧ m.getD k 0 ≤ 2 then m.getD k 0 else 0
def gO (m : List Int) (i : Int) : Int := if i < 0 then 0 else gN m i.toNat
theorem gN_bd (m : List Int) (k : Nat) : 0 ≤ gN m k ∧ gN m k ≤ 2 := by unfold gN; split <;> omega
theorem gN_far (m : List Int) (k : Nat) (h : m.length ≤ k ∨ 512 ≤ k) : gN m k = 0 := by
  unfold gN
  rcases h with h | h
  · have : m.getD k 0 = 0 := by rw [List.getD_eq_getElem?_getD, List.getElem?_eq_none h]; rfl
    rw [this]; split <;> rfl
  · rw [if_neg (by omega)]
theorem getD_at (m : List Int) (k : Nat) (h : k < m.length) : m.getD k 0 = m[k] := by rw [List.getD_eq_getElem?_getD, List.getElem?_eq_getElem h]; rfl

/-- One more than the last place below n at which f is not 0. -/
def lastN (f : Nat → Int) : Nat → Nat
  | 0 => 0
  | n + 1 => if f n = 0 then lastN f n else n + 1
theorem lastN_le (f : Nat → Int) : ∀ n, lastN f n ≤ n
  | 0 => Nat.le_refl _
  | n + 1 => by
    unfold lastN
    split
    · exact Nat.le_succ_of_le (lastN_le f n)
    · exact Nat.le_refl _
theorem lastN_congr {f g : Nat → Int} : ∀ n, (∀ k, k < n → f k = g k) → lastN f n = lastN g n
  | 0, _ => rfl
  | n + 1, h => by
    unfold lastN
    rw [h n (by omega), lastN_congr n fun k hk => h k (by omega)]
theorem lastN_zero {f : Nat → Int} {n : Nat} : ∀ m, (∀ k, n ≤ k → k < n + m → f k = 0) → lastN f (n + m) = lastN f n
  | 0, _ => rfl
  | m + 1, h => by
    rw [← Nat.add_assoc, lastN, if_pos (h (n + m) (by omega) (by omega))]
    exact lastN_zero m fun k h1 h2 => h k h1 (by omega)
theorem lastN_far {f : Nat → Int} (n m : Nat) (hnm : n ≤ m) (h : ∀ k, n ≤ k → f k = 0) : lastN f m = lastN f n := by
  obtain ⟨d, rfl⟩ := Nat.le.dest hnm
  exact lastN_zero d fun k h1 _ => h k h1
theorem lastN_self (f : Nat → Int) : ∀ n, lastN f n = 0 ∨ f (lastN f n - 1) ≠ 0
  | 0 => .inl rfl
  | n + 1 => by
    unfold lastN
    split
    · exact lastN_self f n
    · exact .inr (by simpa using ‹_›)
theorem lastN_above (f : Nat → Int) : ∀ n k, lastN f n ≤ k → k < n → f k = 0
  | 0, k, _, h => by omega
  | n + 1, k, h1, h2 => by
    unfold lastN at h1
    split at h1
    · rcases Nat.lt_or_ge k n with h | h
      · exact lastN_above f n k h1 h
      · obtain rfl : k = n := by omega
        assumption
    · omega
/-- The row of f without the noughts at its end. -/
def rowF (f : Nat → Int) : List Int := (List.range (lastN f 512)).map f
theorem rowF_length (f : Nat → Int) : (rowF f).length = lastN f 512 := by simp [rowF]
theorem rowF_len (f : Nat → Int) : (rowF f).length ≤ 512 := by rw [rowF_length]; exact lastN_le f 512
theorem rowF_congr {f g : Nat → Int} (h : ∀ k, k < 512 → f k = g k) : rowF f = rowF g := by
  unfold rowF
  rw [lastN_congr 512 h]
  exact List.map_congr_left fun k hk => h k (by have := lastN_le g 512; have := List.mem_range.1 hk; omega)
theorem rowF_getD (f : Nat → Int) (k : Nat) (hk : k < 512) : (rowF f).getD k 0 = f k := by
  rcases Nat.lt_or_ge k (lastN f 512) with h | h
  · rw [getD_at _ _ (by rw [rowF_length]; exact h)]
    simp [rowF]
  · rw [List.getD_eq_getElem?_getD, List.getElem?_eq_none (by rw [rowF_length]; exact h), lastN_above f 512 k h hk]; rfl
def rowO (m : List Int) : List Int := rowF (gN m)
theorem gN_rowF (f : Nat → Int) (hf : ∀ k, k < 512 → 0 ≤ f k ∧ f k ≤ 2) (k : Nat) : gN (rowF f) k = if k < 512 then f k else 0 := by
  split
  · rename_i h
    unfold gN
    rw [rowF_getD f k h, if_pos ⟨h, hf k h⟩]
  · exact gN_far _ _ (.inr (by omega))
theorem gN_rowO (m : List Int) (k : Nat) : gN (rowO m) k = gN m k := by
  unfold rowO
  rw [gN_rowF _ (fun k _ => gN_bd m k)]
  split
  · rfl
  · exact (gN_far m k (.inr (by omega))).symm
/-- Without its noughts at the end. -/
def cutZ (l : List Int) : List Int := l.take (lastN (fun k => l.getD k 0) l.length)
theorem cutZ_map (f : Nat → Int) (n : Nat) (h : ∀ k, n ≤ k → k < 512 → f k = 0) (hn : n ≤ 512) : cutZ ((List.range n).map f) = rowF f := by
  unfold cutZ rowF
  have e : lastN (fun k => ((List.range n).map f).getD k 0) ((List.range n).map f).length = lastN f 512 := by
    rw [List.length_map, List.length_range, show (512 : Nat) = n + (512 - n) by omega, lastN_zero (512 - n) (fun k h1 h2 => h k h1 (by omega))]
    exact lastN_congr n fun k hk => by rw [getD_at _ _ (by simpa using hk)]; simp
  have hle : lastN f 512 ≤ n := by
    rw [show (512 : Nat) = n + (512 - n) by omega, lastN_zero (512 - n) (fun k h1 h2 => h k h1 (by omega))]
    exact lastN_le f n
  rw [e, ← List.map_take, List.take_range, Nat.min_eq_left hle]
def setF (m : List Int) (i : Nat) (st : Int) (k : Nat) : Int := if k = i then st else gN m k
def setO (m : List Int) (i st : Int) : List Int := if 0 ≤ i ∧ i < 512 ∧ 0 ≤ st ∧ st ≤ 2 then rowF (setF m i.toNat st) else rowO m
def okO (z : Int) : Bool := decide (0 ≤ z ∧ z ≤ 2)
def mayO (m : List Int) : Bool := decide (m.length ≤ 512) && m.all okO && (decide (m.length = 0) || decide (m.getD (m.length - 1) 0 ≠ 0))
def freshF (m : List Int) (k : Nat) : Int := if gN m k = 1 then 2 else gN m k
def freshO (m : List Int) : List Int := rowF (freshF m)
def mergeF (o n : List Int) (k : Nat) : Int := if gN n k = 2 ∧ gN o k = 1 then 1 else gN n k
def mergeO (o n : List Int) : List Int := rowF (mergeF o n)
def diffO (first : List Int) (rest : List (List Int)) (i : Nat) : Bool := rest.any fun m => decide (gN m i = 1) || (decide (gN m i ≠ 0) != decide (gN first i ≠ 0))
def changedO (first : List Int) (rest : List (List Int)) : List Int := ((List.range 512).filter (diffO first rest)).map fun i : Nat => (i : Int)
theorem lastN_freshF (m : List Int) : lastN (freshF m) 512 = lastN (gN m) 512 := by
  have : ∀ n, lastN (freshF m) n = lastN (gN m) n := by
    intro n
    induction n with
    | zero => rfl
    | succ n ih =>
      unfold lastN
      rw [ih]
      have : freshF m n = 0 ↔ gN m n = 0 := by unfold freshF; split <;> omega
      simp only [this]
  exact this 512
theorem lastN_mergeF (o m : List Int) : lastN (mergeF o m) 512 = lastN (gN m) 512 := by
  have : ∀ n, lastN (mergeF o m) n = lastN (gN m) n := by
    intro n
    induction n with
    | zero => rfl
    | succ n ih =>
      unfold lastN
      rw [ih]
      have : mergeF o m n = 0 ↔ gN m n = 0 := by unfold mergeF; split <;> omega
      simp only [this]
  exact this 512
end Go.Proofs.Ytpgfhbkggchliaa

namespace Go.Proofs.Ytpgfhbkggchliaa
open Go.RowKit
set_option linter.unusedVariables false

theorem right_any (z : Int) (w : World) : Calls Try.prog 87 #[.int .i64 z] w fun e w' => e = .returned (.bool (okO z)) ∧ w = w' := by
  by_cases h1 : 0 ≤ z
  · go_enter Try.func87, Try.ntmps87
    go_wp2_with fail
    go_ret
    exact ⟨by simp [okO, h1], rfl⟩
  · go_enter Try.func87, Try.ntmps87
    go_wp2_with fail
    go_ret
    have : okO z = false := by unfold okO; rw [decide_eq_false_iff_not]; omega
    exact ⟨by rw [this]; rfl, rfl⟩

theorem gO_nat (m : List Int) (k : Nat) : gO m (k : Int) = gN m k := by unfold gO; rw [if_neg (by omega), Int.toNat_natCast]

theorem Get_any (D : Nat → Prop) (A : Option Addr) (c : Nat) (m : List Int) (i : Int) (w : World) (h : RdI w D A m) :
    Calls Try.prog 81 #[.slice A m.length c, .int .i64 i] w fun e w' => e = .returned (.int .i64 (gO m i)) ∧ w = w' := by
  by_cases h1 : i < 0
  · have e : Hid (gO m i = 0) := by unfold Hid gO; rw [if_pos h1]
    go_enter Try.func81, Try.ntmps81
    go_wp2_with fail
    go_ret
    exact ⟨by rw [e.out]; rfl, rfl⟩
  · obtain ⟨k, rfl⟩ : ∃ k : Nat, i = (k : Int) := ⟨i.toNat, by omega⟩
    rw [gO_nat]
    by_cases h2 : k < m.length ∧ k < 512
    · obtain ⟨ad, rfl, _, hc⟩ := h.at_ h2.1
      have hz := getD_at m k h2.1
      have h3 : ¬ (min (m.length : Int) 512 ≤ (k : Int)) := by omega
      have e : Hid (gN m k = if okO m[k] then m[k] else 0) := by
        unfold Hid gN okO
        rw [hz]
        by_cases h : 0 ≤ m[k] ∧ m[k] ≤ 2
        · rw [if_pos ⟨h2.2, h⟩]; simp [h]
        · rw [if_neg (fun h' => h h'.2)]; simp only [h, decide_false]; rfl
      have h21 := h2.1
      generalize m[k] = z at *
      clear hz
      cases hb : okO z
      all_goals
        rw [hb] at e
        have hcall : ∀ W, Calls Try.prog 87 #[.int .i64 z] W fun e w' => e = .returned (.bool _) ∧ W = w' := fun W => by have := right_any z W; rw [hb] at this; exact this
        clear hb
        go_enter Try.func81, Try.ntmps81
        go_wp2_with fail
        with_reducible refine (hcall w).mono ?_
        rintro e' w1 ⟨rfl, rfl⟩
        go_wp2_with fail
        go_ret
        exact ⟨by rw [e.out]; rfl, rfl⟩
    · have e : Hid (gN m k = 0) := gN_far m k (by omega)
      have h3 : min (m.length : Int) 512 ≤ (k : Int) := by omega
      go_enter Try.func81, Try.ntmps81
      go_wp2_with fail
      go_ret
      exact ⟨by rw [e.out]; rfl, rfl⟩

set_option maxRecDepth 100000 in
theorem rGet_any (D : Nat → Prop) (A : Option Addr) (c : Nat) (m : List Int) (i : Int) (w : World) (h : RdI w D A m) :
    Calls Try.prog 33 #[.slice A m.length c, .int .i64 i] w fun e w' => e = .returned (.int .i64 (gO m i)) ∧ w = w' := by
  by_cases h1 : i < 0
  · have e : Hid (gO m i = 0) := by unfold Hid gO; rw [if_pos h1]
    go_enter Try.func33, Try.ntmps33
    go_wp2_with fail
    go_ret
    exact ⟨by rw [e.out]; rfl, rfl⟩
  · obtain ⟨k, rfl⟩ : ∃ k : Nat, i = (k : Int) := ⟨i.toNat, by omega⟩
    rw [gO_nat]
    by_cases h2 : k < m.length ∧ k < 512
    · obtain ⟨ad, rfl, _, hc⟩ := h.at_ h2.1
      have hz := getD_at m k h2.1
      have h22 := h2.2
      have e : Hid (gN m k = if 0 ≤ m[k] ∧ m[k] ≤ 2 then m[k] else 0) := by
        unfold Hid gN
        rw [hz]
        by_cases h : 0 ≤ m[k] ∧ m[k] ≤ 2
        · rw [if_pos ⟨h2.2, h⟩, if_pos h]
        · rw [if_neg (fun h' => h h'.2), if_neg h]
      have h21 := h2.1
      generalize m[k] = z at *
      clear hz
      by_cases z1 : z < 0
      · go_enter Try.func33, Try.ntmps33
        go_wp2_with fail
        go_ret
        exact ⟨by rw [e.out, if_neg (by omega)]; rfl, rfl⟩
      · by_cases z2 : 2 < z
        · go_enter Try.func33, Try.ntmps33
          go_wp2_with fail
          go_ret
          exact ⟨by rw [e.out, if_neg (by omega)]; rfl, rfl⟩
        · go_enter Try.func33, Try.ntmps33
          go_wp2_with fail
          go_ret
          exact ⟨by rw [e.out, if_pos (by omega)]; rfl, rfl⟩
    · have e : Hid (gN m k = 0) := gN_far m k (by omega)
      by_cases h3 : m.length ≤ k
      · go_enter Try.func33, Try.ntmps33
        go_wp2_with fail
        go_ret
        exact ⟨by rw [e.out]; rfl, rfl⟩
      · have h4 : 512 ≤ k := by omega
        go_enter Try.func33, Try.ntmps33
        go_wp2_with fail
        go_ret
        exact ⟨by rw [e.out]; rfl, rfl⟩
end Go.Proofs.Ytpgfhbkggchliaa
