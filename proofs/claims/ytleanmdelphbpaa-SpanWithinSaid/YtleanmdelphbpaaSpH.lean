/- The law package of span: few, clean, the examples. -/
import Derived.Test.YtleanmdelphbpaaSpG
namespace Go.Proofs.Ytleanmdelphbpaa
open Go.RowKit
set_option linter.unusedVariables false

def fewB (n m : Nat) : Bool := decide (n ≤ 40) && decide (m ≤ 40)
theorem fewB_yes {n m : Nat} (h : fewB n m = true) : n ≤ 40 ∧ m ≤ 40 := by
  unfold fewB at h
  simpa using h
theorem few_any (A A' : Option Addr) (n n' c c' : Nat) (w : World) : Calls Try.prog 10 #[.slice A n c, .slice A' n' c'] w fun e w' => e = .returned (.bool (fewB n n')) ∧ w = w' := by
  by_cases h : n ≤ 40
  · have hn : Hid (fewB n n' = decide (n' ≤ 40)) := by unfold Hid fewB; rw [decide_eq_true h]; rfl
    have h1 : (n : Int) ≤ 40 := by omega
    by_cases h2 : n' ≤ 40
    · have h3 : (n' : Int) ≤ 40 := by omega
      have hn : Hid (fewB n n' = true) := by unfold Hid; rw [hn.out]; exact decide_eq_true h2
      go_enter Try.func10, Try.ntmps10
      go_wp2_with fail
      go_ret
      exact ⟨by rw [hn.out] <;> rfl, rfl⟩
    · have h3 : ¬ (n' : Int) ≤ 40 := by omega
      have hn : Hid (fewB n n' = false) := by unfold Hid; rw [hn.out]; exact decide_eq_false h2
      go_enter Try.func10, Try.ntmps10
      go_wp2_with fail
      go_ret
      exact ⟨by rw [hn.out] <;> rfl, rfl⟩
  · have hn : Hid (fewB n n' = false) := by unfold Hid fewB; rw [decide_eq_false h]; rfl
    have h1 : ¬ (n : Int) ≤ 40 := by omega
    go_enter Try.func10, Try.ntmps10
    go_wp2_with fail
    go_ret
    exact ⟨by rw [hn.out] <;> rfl, rfl⟩

theorem clean_step {L : List Sp} (h : CleanR L) (j : Nat) (hj : j < L.length) : (0 ≤ L[j].1 ∧ L[j].1 < L[j].2 ∧ L[j].2 ≤ 1099511627776) ∧ ∀ (i : Nat) (hi : i + 1 = j), (L[i]'(by omega)).2 < L[j].1 := by
  induction L generalizing j with
  | nil => exact absurd hj (by simp)
  | cons s L ih =>
    cases j with
    | zero => exact ⟨h.1, fun i hi => absurd hi (by omega)⟩
    | succ j =>
      have h1 := ih h.2.2 j (by simpa using hj)
      refine ⟨h1.1, fun i hi => ?_⟩
      cases i with
      | zero => exact h.2.1 _ (List.getElem_mem _)
      | succ i => exact h1.2 i (by omega)
set_option maxHeartbeats 1000000 in
set_option maxRecDepth 100000 in
theorem cleanL_yes (D : Nat → Prop) (A : Option Addr) (c : Nat) (L : List Sp) (w : World) (h : RdSp w D A L) (hl : L.length ≤ 1000000) (hc : CleanR L) :
    Calls Try.prog 23 #[.slice A L.length c] w fun e w' => e = .returned (.bool true) ∧ Below w.heap.size w w' := by
  have HC := Lib.hid hc
  clear hc
  go_enter Try.func23, Try.ntmps23
  go_wp2_with fail
  go_loopw [3] (fun i wr => ∃ j : Nat, j ≤ L.length ∧ i = .int .i64 (j : Int) ∧ Below w.heap.size w wr) (fun i _ => L.length - (intOf i).toNat)
  case atStart => exact ⟨0, Nat.zero_le _, rfl, Below.refl _ _⟩
  case round =>
    obtain ⟨j, hj, rfl, bb⟩ := hrel
    by_cases hlt : j < L.length
    · obtain ⟨ad, rfl, d0, d1⟩ := (h.below bb).at_ hlt
      have HS := Lib.hid (clean_step HC.out j hlt)
      have e1 := HS.out.1.1
      have e2 := HS.out.1.2.1
      have e3 := HS.out.1.2.2
      have q1 : ¬ L[j].1 < 0 := by omega
      have q2 : ¬ (1099511627776 : Int) < L[j].2 := by omega
      have q3 : ¬ L[j].2 ≤ L[j].1 := by omega
      rcases Nat.eq_zero_or_pos j with h0 | h0
      · subst h0
        simp only [Nat.zero_mul, add_zero_] at d0 d1
        generalize L[0].1 = x at *
        generalize L[0].2 = y at *
        have q1 := decide_eq_false q1
        have q2 := decide_eq_false q2
        have q3 := decide_eq_false q3
        go_wp2_with fail
        go_quiet (fail)
        have bd : Below wr.heap.size wr (wr.drewN nq) := below_drewN (Below.refl _ _) _
        go_wp2_with fail
        go_roundw
        case rel => exact ⟨0 + 1, by omega, by go_num, bb.thenB' bd⟩
        case measure => simp [intOf] <;> omega
      · obtain ⟨i, rfl⟩ : ∃ i, j = i + 1 := ⟨j - 1, by omega⟩
        have hli : i < L.length := by omega
        have e4 := HS.out.2 i rfl
        obtain ⟨ad2, hA, d2, d3⟩ := (h.below bb).at_ hli
        injection hA with hA
        subst hA
        have q4 : ¬ L[i + 1].1 ≤ L[i].2 := by omega
        have jp : (0 : Int) < ((i + 1 : Nat) : Int) := by omega
        have jW : IntKind.i64.wrap (((i + 1 : Nat) : Int) - 1) = (i : Int) := by rw [IntKind.wrap_i64]; omega
        have jT : ((i : Int)).toNat = i := by omega
        have j1 : (i : Int) < (L.length : Int) := by omega
        clear HS e4 d2
        generalize L[i + 1].1 = x at *
        generalize L[i + 1].2 = y at *
        generalize L[i].2 = z at *
        have q1 := decide_eq_false q1
        have q2 := decide_eq_false q2
        have q3 := decide_eq_false q3
        have q4 := decide_eq_false q4
        have jp := decide_eq_true jp
        go_wp2_with fail
        go_quiet (fail)
        have bd : Below wr.heap.size wr (wr.drewN nq) := below_drewN (Below.refl _ _) _
        go_wp2_with fail
        go_roundw
        case rel => exact ⟨i + 1 + 1, by omega, by go_num, bb.thenB' bd⟩
        case measure => simp [intOf] <;> omega
    · obtain rfl : j = L.length := by omega
      go_wp2_with fail
      go_ret
      exact ⟨rfl, bb⟩

theorem alloc_size (w : World) (o : Obj) : (w.alloc o).heap.size = w.heap.size + 1 := by show (w.heap.push o).size = _; simp
theorem rdSp_lit (w : World) (L : List Sp) : RdSp (w.alloc (.cells (flC spC L).toArray 34)) (· = w.heap.size) (some ⟨w.heap.size, 0, none⟩) L := fun hn =>
  ⟨_, rfl, rfl, fun i s hs j v hv => by
    rw [add_head, (Blk.new w 34 (flC spC L).toArray).cell]
    simpa using flC_at spC_len L i s hs j v hv⟩
theorem exC : IsR (hasS [(5, 7), (1, 3), (3, 5), (9, 9)]) [(1, 7)] := by
  refine ⟨⟨by unfold farS; decide, fun t ht => absurd ht (by simp), trivial⟩, fun n => ?_⟩
  rw [Bool.eq_iff_iff, has_true, has_true]
  simp
  omega
theorem exL : IsR (lessF [(0, 10)] [(3, 4), (6, 20)]) [(0, 3), (4, 6)] := by
  refine ⟨⟨by unfold farS; decide, fun t ht => by simp at ht; subst ht; decide, ⟨by unfold farS; decide, fun t ht => absurd ht (by simp), trivial⟩⟩, fun n => ?_⟩
  unfold lessF
  rw [Bool.eq_iff_iff, Bool.and_eq_true, Bool.not_eq_true', has_false, has_true, has_true]
  unfold farS
  simp
  omega
theorem less_self (a : List Sp) (n : Int) : lessF a a n = false := by unfold lessF; cases hasS a n <;> rfl

set_option maxHeartbeats 1000000 in
set_option maxRecDepth 100000 in
theorem awake_any (w : World) : Calls Try.prog 9 #[] w fun e w' => e = .returned (.bool true) ∧ Below w.heap.size w w' := by
  have r1 : RdSp (w.alloc (.cells #[.int .i64 5, .int .i64 7, .int .i64 1, .int .i64 3, .int .i64 3, .int .i64 5, .int .i64 9, .int .i64 9] 34)) (· = w.heap.size) (some ⟨w.heap.size, 0, none⟩) [(5, 7), (1, 3), (3, 5), (9, 9)] := rdSp_lit w _
  have bb := below_new w (.cells #[.int .i64 5, .int .i64 7, .int .i64 1, .int .i64 3, .int .i64 3, .int .i64 5, .int .i64 9, .int .i64 9] 34)
  have hc := Clean_any _ _ 4 _ _ r1 (by decide)
  clear r1
  go_enter Try.func9, Try.ntmps9
  go_wp2_with fail
  refine hc.mono ?_
  clear hc
  rintro e w1 ⟨v1, L1, rfl, o1, i1, b1, -⟩
  have e1 := exC.one i1 fun _ => rfl
  subst e1
  have bb := bb.thenB' b1
  obtain ⟨A1, c1, rfl, _, _⟩ := OwnC.form o1
  have r1 := OwnSp.rd o1
  clear o1 b1 i1
  have r2 : RdSp (w1.alloc (.cells #[.int .i64 0, .int .i64 10] 34)) (· = w1.heap.size) (some ⟨w1.heap.size, 0, none⟩) [(0, 10)] := rdSp_lit w1 _
  have b2 := below_new w1 (.cells #[.int .i64 0, .int .i64 10] 34)
  have r3 : RdSp ((w1.alloc (.cells #[.int .i64 0, .int .i64 10] 34)).alloc (.cells #[.int .i64 3, .int .i64 4, .int .i64 6, .int .i64 20] 34)) (· = w1.heap.size + 1) (some ⟨w1.heap.size + 1, 0, none⟩) [(3, 4), (6, 20)] := by
    have h := rdSp_lit (w1.alloc (.cells #[.int .i64 0, .int .i64 10] 34)) [(3, 4), (6, 20)]
    rw [alloc_size] at h
    exact h
  have b3 := below_new (w1.alloc (.cells #[.int .i64 0, .int .i64 10] 34)) (.cells #[.int .i64 3, .int .i64 4, .int .i64 6, .int .i64 20] 34)
  have hc := Less_any _ _ _ _ 1 2 _ _ _ (RdL.below r2 b3) r3 (by decide) (by decide)
  have b23 := b2.thenB' b3
  have bb := bb.thenB' b23
  have r1 := RdL.below r1 b23
  clear r2 r3 b2 b3 b23
  go_wp2_with fail
  refine hc.mono ?_
  clear hc
  rintro e w2 ⟨v2, L2, rfl, o2, i2, b2, -⟩
  have e2 := exL.one i2 fun _ => rfl
  subst e2
  have bb := bb.thenB' b2
  have r1 := RdL.below r1 b2
  obtain ⟨A2, c2, rfl, _, _⟩ := OwnC.form o2
  have r2 := OwnSp.rd o2
  clear o2 b2 i2
  obtain ⟨ad1, rfl, d0, d1⟩ := RdSp.at_ r1 (i := 0) (by decide)
  obtain ⟨ad2, rfl, f0, f1⟩ := RdSp.at_ r2 (i := 1) (by decide)
  simp only [Nat.zero_mul, add_zero_, List.getElem_cons_zero] at d0 d1
  rw [show ad2.add (1 * 2) = ⟨ad2.block, ad2.off + 2, none⟩ from by unfold Addr.add; rw [if_neg (by omega)]] at f0 f1
  simp at f0 f1
  have hh := Has_any _ _ c1 [(1, 7)] 6 w2 r1 (by decide)
  rw [show hasS [(1, 7)] 6 = true by decide] at hh
  go_wp2_with fail
  refine hh.mono ?_
  clear hh d0 d1 f0 f1
  rintro e w3 ⟨rfl, b3⟩
  have bb := bb.thenB' b3
  have r1 := RdL.below r1 b3
  have r2 := RdL.below r2 b3
  clear b3
  have hm := Many_any _ _ c1 [(1, 7)] w3 r1 (by decide)
  go_wp2_with fail
  refine hm.mono ?_
  clear hm
  rintro e w4 ⟨L4, i4, rfl, b4⟩
  have e4 : [((1 : Int), (7 : Int))] = L4 := (⟨exC.clean, fun _ => rfl⟩ : IsR (hasS [(1, 7)]) [(1, 7)]).one i4 fun _ => rfl
  subst e4
  have bb := bb.thenB' b4
  have r2 := RdL.below r2 b4
  clear b4 i4
  rw [show sumS [(1, 7)] = 6 by decide]
  have hw := Within_any _ _ _ _ c2 c2 _ _ _ r2 r2 (by decide) (by decide)
  go_wp2_with fail
  refine hw.mono ?_
  clear hw
  rintro e w5 ⟨L5, i5, rfl, b5⟩
  have e5 := i5.nil.2 (less_self _)
  subst e5
  have bb := bb.thenB' b5
  clear b5 i5
  go_wp2_with fail
  go_ret
  exact ⟨rfl, bb⟩
end Go.Proofs.Ytleanmdelphbpaa
