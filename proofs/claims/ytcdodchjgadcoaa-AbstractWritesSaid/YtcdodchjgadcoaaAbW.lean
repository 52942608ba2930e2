/- The law AbstractReads: the walk. -/
import Derived.Test.YtcdodchjgadcoaaAbV
namespace Go.Proofs.Ytcdodchjgadcoaa
open Go.RowKit
set_option linter.unusedVariables false
set_option maxRecDepth 100000

theorem clean_count : ∀ {L : List Sp} {m N : Int}, CleanR L → (∀ s ∈ L, m ≤ s.1 ∧ s.2 ≤ N) → m + (L.length : Int) ≤ N ∨ L = []
  | [], _, _, _, _ => .inr rfl
  | s :: L, m, N, h, hb => by
    left
    obtain ⟨⟨h1, h2, h3⟩, h4, h5⟩ := h
    have hs := hb s (List.mem_cons_self ..)
    rcases clean_count (m := s.2) (N := N) h5 (fun t ht => ⟨by have := h4 t ht; omega, (hb t (List.mem_cons_of_mem _ ht)).2⟩) with h | h
    · rw [List.length_cons]; omega
    · rw [h, List.length_singleton]; omega
theorem diff_len {a b : List UInt8} {L : List Sp} (h : IsR (diffF a b) L) : L.length ≤ 512 := by
  have hb : ∀ s ∈ L, (0 : Int) ≤ s.1 ∧ s.2 ≤ 512 := fun s hs => by
    have hm := clean_mem h.clean s hs
    refine ⟨hm.1, ?_⟩
    have h1 : hasS L (s.2 - 1) = true := (clean_one h.clean).2 ⟨s, hs, by omega, by omega⟩
    rw [h.is] at h1
    unfold diffF at h1
    simp only [Bool.and_eq_true, decide_eq_true_eq] at h1
    omega
  rcases clean_count h.clean hb with h1 | h1
  · omega
  · rw [h1]; decide


set_option maxHeartbeats 8000000 in
theorem reads_walk (W : World) (i : ImV) (r0 : ImR W (Old W) i) (ii : ImI i) (sn : Int) (i1 : I64 sn) (at_ : Int) (i2 : I64 at_) :
    Calls Try.prog 3 #[.agg (imA i), .int .i64 sn, .int .i64 at_] W fun e w' => e = .returned (.bool true) ∧ Below W.heap.size W w' := by
  have bb := below_new W (.cells (imA i) 25)
  have hB := Blk.new W 25 (imA i)
  replace r0 := r0.below bb
  clear ii
  generalize hw0 : W.alloc (.cells (imA i) 25) = w0 at *
  have haw := awake18 w0
  go_enter Try.func3, Try.ntmps3
  go_wp2_with fail
  refine haw.mono ?_
  clear haw hw0
  rintro e1 w1 ⟨rfl, b_⟩
  replace hB := hB.below b_
  replace r0 := r0.below b_
  replace bb := bb.thenB' b_
  clear b_
  go_wp2_with first
    | (with_reducible show wpList _ _ _ _ _ _
       refine wpList_load_row rfl 25 (.tmp 3) rfl W.heap.size rfl 25 _ (0, 0) _ hB Try.underlying25 rfl infoIm ?_)
  refine (few_any _ i _ r0).mono ?_
  rintro e w2 ⟨rfl, b_⟩
  replace hB := hB.below b_
  replace r0 := r0.below b_
  replace bb := bb.thenB' b_
  clear b_
  cases hf : fewB i.p
  focus
    go_wp2_with fail
    go_ret
    exact ⟨rfl, bb⟩
  clear hf
  go_upto_region 9 with first
    | (with_reducible show wpList _ _ _ _ _ _
       refine wpList_load_row rfl 25 (.tmp 3) rfl W.heap.size rfl 25 _ (0, 0) _ hB Try.underlying25 rfl infoIm ?_)
  have hn : at_.tmod 1024 ≤ 9223372036854775807 := by have := Int.tmod_lt_of_pos at_ (show (0 : Int) < 1024 by decide); omega
  clear i1 i2
  generalize wrap64 (at_.tdiv 1024) = off at *
  generalize at_.tmod 1024 = n at *
  have h1 := fun V (q : ImR V (Old W) i) => Read_any _ i off n sn V q hn
  have h2 := fun V (q : ImR V (Old W) i) => rRead_any _ i off n sn V q
  generalize readE i.p off n sn = re at *
  generalize readD i.p off n sn = x at *
  go_wp2_with first
    | (with_reducible show wpList _ _ _ _ _ _
       refine wpList_load_row rfl 25 (.tmp 3) rfl W.heap.size rfl 25 _ (0, 0) _ hB Try.underlying25 rfl infoIm ?_)
  refine (h1 _ r0).mono ?_
  clear h1
  rintro e3 w3 ⟨v1, rfl, o1, b_⟩
  replace hB := hB.below b_
  replace r0 := r0.below b_
  replace bb := bb.thenB' b_
  clear b_
  obtain ⟨A1, c1, rfl, -, -⟩ := OwnB.form o1
  have k1 := o1.rdG
  clear o1
  go_wp2_with first
    | (with_reducible show wpList _ _ _ _ _ _
       refine wpList_load_row rfl 25 (.tmp 3) rfl W.heap.size rfl 25 _ (0, 0) _ hB Try.underlying25 rfl infoIm ?_)
  refine (h2 _ r0).mono ?_
  clear h2
  rintro e4 w4 ⟨A2, c2, rfl, k2, -, -, b_⟩
  replace hB := hB.below b_
  replace r0 := r0.below b_
  replace k1 := k1.below b_
  replace bb := bb.thenB' b_
  clear b_
  go_upto_region 12 with first
    | (with_reducible show wpList _ _ _ _ _ _
       refine wpList_load_row rfl 25 (.tmp 3) rfl W.heap.size rfl 25 _ (0, 0) _ hB Try.underlying25 rfl infoIm ?_)
  generalize n.tmod 6 = tt at *
  have h3 := fun V (q : ImR V (Old W) i) => Differ_any _ i sn tt V q
  have h4 := fun V (q : ImR V (Old W) i) => rDiffer_any _ i sn tt V q
  unfold Differs at h3 h4
  have hu : ∀ L M : List Sp, (diffE i.p sn tt = 0 → IsR (diffR i.p sn tt) L) → (diffE i.p sn tt ≠ 0 → L = []) → (diffE i.p sn tt = 0 → IsR (diffR i.p sn tt) M) → (diffE i.p sn tt ≠ 0 → M = []) → L = M := fun L M a b c d => by
    by_cases h : diffE i.p sn tt = 0
    · exact (a h).one (c h) fun _ => rfl
    · rw [b h, d h]
  have hlen : ∀ L : List Sp, (diffE i.p sn tt = 0 → IsR (diffR i.p sn tt) L) → (diffE i.p sn tt ≠ 0 → L = []) → L.length ≤ 1000 := fun L a b => by
    by_cases h : diffE i.p sn tt = 0
    · exact Nat.le_trans (diff_len (a h)) (by decide)
    · rw [b h]; decide
  generalize diffE i.p sn tt = de at *
  generalize diffR i.p sn tt = dr at *
  go_wp2_with first
    | (with_reducible show wpList _ _ _ _ _ _
       refine wpList_load_row rfl 25 (.tmp 3) rfl W.heap.size rfl 25 _ (0, 0) _ hB Try.underlying25 rfl infoIm ?_)
  refine (h3 _ r0).mono ?_
  clear h3
  rintro e5 w5 ⟨v3, L, rfl, o3, p1, p2, b_⟩
  replace hB := hB.below b_
  replace r0 := r0.below b_
  replace k1 := k1.below b_
  replace k2 := k2.below b_
  replace bb := bb.thenB' b_
  clear b_
  obtain ⟨A3, c3, rfl, -, -⟩ := OwnC.form o3
  have k3 := OwnSp.rd o3
  clear o3
  have P1 := Lib.hid p1
  have P2 := Lib.hid p2
  clear p1 p2
  go_wp2_with first
    | (with_reducible show wpList _ _ _ _ _ _
       refine wpList_load_row rfl 25 (.tmp 3) rfl W.heap.size rfl 25 _ (0, 0) _ hB Try.underlying25 rfl infoIm ?_)
  refine (h4 _ r0).mono ?_
  clear h4
  rintro e6 w6 ⟨v4, M, rfl, o4, p3, p4, b_⟩
  have k3_ := RdL.below k3 b_
  replace hB := hB.below b_
  replace r0 := r0.below b_
  replace k1 := k1.below b_
  replace k2 := k2.below b_
  replace bb := bb.thenB' b_
  clear b_
  obtain ⟨A4, c4, rfl, -, -⟩ := OwnC.form o4
  have k4 := OwnSp.rd o4
  clear o4
  have hLM := hu L M P1.out P2.out p3 p4
  have hL1 := hlen L P1.out P2.out
  clear p3 p4 hu hlen P1 P2
  subst hLM
  have s1 := str_rd (n := x.length) (c := c1) k1 rfl
  have s2 := str_rd (n := x.length) (c := c2) k2 rfl
  have hsm := rSame_any _ _ A3 A4 c3 c4 L L w6 k3_ k4 (by omega)
  rw [decide_eq_true rfl] at hsm
  go_wp2_with fail
  refine hsm.mono ?_
  rintro e7 w7 ⟨rfl, b_⟩
  replace bb := bb.thenB' b_
  go_wp2_with fail
  go_ret
  exact ⟨rfl, bb⟩
end Go.Proofs.Ytcdodchjgadcoaa
