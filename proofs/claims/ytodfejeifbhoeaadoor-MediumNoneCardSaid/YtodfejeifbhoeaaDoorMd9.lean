/- The walk of MediumNone. -/
import Derived.Test.YtodfejeifbhoeaaDoorMd7
namespace Go.Proofs.YtodfejeifbhoeaaDoor
open Go.RowKit
set_option linter.unusedVariables false

theorem nCut_any (w : World) (n : Int) : Calls Tryd.prog 12 #[.pointer none, .int .i64 n] w fun e w' => e = .returned (.tuple #[]) ∧ Below w.heap.size w w' := by
  go_enter Tryd.func12, Tryd.ntmps12
  go_wp2_with fail
  go_end0
  exact ⟨rfl, below_new _ _⟩
theorem nCrash_any (w : World) : Calls Tryd.prog 13 #[.pointer none] w fun e w' => e = .returned (.tuple #[]) ∧ w = w' := by
  go_enter Tryd.func13, Tryd.ntmps13
  go_wp2_with fail
  go_end0
  exact ⟨rfl, rfl⟩
theorem nBoot_any (w : World) : Calls Tryd.prog 14 #[.pointer none] w fun e w' => e = .returned (.tuple #[]) ∧ w = w' := by
  go_enter Tryd.func14, Tryd.ntmps14
  go_wp2_with fail
  ((try simp only [Exit.inBlock, Exit.then]); refine bodyPost_ret (results_none rfl _ _ _) rfl ?_)
  exact ⟨rfl, rfl⟩
theorem nSpoil_any (w : World) (n b : Int) : Calls Tryd.prog 25 #[.pointer none, .int .i64 n, .int .u8 b] w fun e w' => e = .returned (.tuple #[]) ∧ w = w' := by
  go_enter Tryd.func25, Tryd.ntmps25
  go_wp2_with fail
  ((try simp only [Exit.inBlock, Exit.then]); refine bodyPost_ret (results_none rfl _ _ _) rfl ?_)
  exact ⟨rfl, rfl⟩
theorem nRecords_any (w : World) : Calls Tryd.prog 17 #[.pointer none] w fun e w' => e = .returned (.tuple #[.slice none 0 0, .slice none 0 0]) ∧ w = w' := by
  go_enter Tryd.func17, Tryd.ntmps17
  go_wp2_with fail
  go_ret2
  exact ⟨rfl, rfl⟩
theorem nAppend_any (w : World) (k : Int) (v : Value) : Calls Tryd.prog 16 #[.pointer none, .int .i64 k, v] w fun e w' => e = .returned (.int .i64 1) ∧ w = w' := by
  go_enter Tryd.func16, Tryd.ntmps16
  go_wp2_with fail
  go_ret
  exact ⟨rfl, rfl⟩
theorem nUp_any (w : World) : Calls Tryd.prog 15 #[.pointer none] w fun e w' => e = .returned (.bool false) ∧ w = w' := by
  go_enter Tryd.func15, Tryd.ntmps15
  go_wp2_with fail
  go_ret
  exact ⟨rfl, rfl⟩
theorem nLen_any (w : World) : Calls Tryd.prog 19 #[.pointer none] w fun e w' => e = .returned (.int .i64 0) ∧ w = w' := by
  go_enter Tryd.func19, Tryd.ntmps19
  go_wp2_with fail
  go_ret
  exact ⟨rfl, rfl⟩
theorem spoil_none (base g : Nat) (v : Value) (s : MS) (n b : Int) (w : World) (h : Med w base g v s) (h0 : s.b = []) : Calls Tryd.prog 25 #[.pointer (some ⟨g, 0, none⟩), .int .i64 n, .int .u8 b] w fun e w' => e = .returned (.tuple #[]) ∧ w = w' := by
  obtain ⟨sv, h1, h2, h3, h4, h5⟩ := h
  obtain ⟨A, k, c, rfl, ek, _, _⟩ := OwnB.form' h2
  rw [h0] at ek
  obtain rfl : k = 0 := ek.out
  have c0 := h1.cell 0
  simp at c0
  clear h0
  by_cases hn : n < 0
  · go_enter Tryd.func25, Tryd.ntmps25
    go_wp2_with fail
    ((try simp only [Exit.inBlock, Exit.then]); refine bodyPost_ret (results_none rfl _ _ _) rfl ?_)
    exact ⟨rfl, rfl⟩
  · go_enter Tryd.func25, Tryd.ntmps25
    go_wp2_with fail
    ((try simp only [Exit.inBlock, Exit.then]); refine bodyPost_ret (results_none rfl _ _ _) rfl ?_)
    exact ⟨rfl, rfl⟩
theorem new_bad (kind : Int) (h : kind < 0 ∨ 255 < kind) : ((newS 100).app kind []).2 = 1 := by
  have hm : makeO kind [] = ([], 1) := by unfold makeO; rw [if_pos h]
  rw [app_bad rfl (by rw [hm]; simp), hm]

set_option maxHeartbeats 4000000 in
set_option maxRecDepth 100000 in
theorem none_walk (w : World) (ht : Tab w) (kind : Int) (ik : I64 kind) (A : Option Addr) (b : List UInt8) (c : Nat) (r : RdB w (Old w) A b) (l : b.length ≤ c) (mx : c ≤ 9223372036854775807) (nn : A = none → c = 0) (at_ : Int) (ia : I64 at_) :
    Calls Tryd.prog 9 #[.int .i64 kind, .slice A b.length c, .int .i64 at_] w fun e w' => e = .returned (.bool true) ∧ Below w.heap.size w w' := by
  go_enter Tryd.func9, Tryd.ntmps9
  go_wp2_with fail
  refine (awake_any w ht).mono ?_
  rintro e w1 ⟨rfl, b1⟩
  go_wp2_with fail
  refine (nCut_any w1 at_).mono ?_
  rintro e w2 ⟨rfl, b2⟩
  have bb := b1.thenB' b2
  go_wp2_with fail
  refine (nCrash_any w2).mono ?_
  rintro e w3 ⟨rfl, rfl⟩
  go_wp2_with fail
  refine (nBoot_any w2).mono ?_
  rintro e w3 ⟨rfl, rfl⟩
  go_wp2_with fail
  refine (nSpoil_any w2 at_ 1).mono ?_
  rintro e w3 ⟨rfl, rfl⟩
  go_wp2_with fail
  refine (nRecords_any w2).mono ?_
  rintro e w3 ⟨rfl, rfl⟩
  go_wp2_with fail
  refine (nAppend_any w2 kind _).mono ?_
  rintro e w3 ⟨rfl, rfl⟩
  go_wp2_with fail
  refine (nUp_any w2).mono ?_
  rintro e w3 ⟨rfl, rfl⟩
  go_wp2_with fail
  refine (nLen_any w2).mono ?_
  rintro e w3 ⟨rfl, rfl⟩
  go_wp2_with fail
  refine (New_any 100 w2).mono ?_
  rintro e w3 ⟨rfl, m3, b3⟩
  have bb := bb.thenB' b3
  have ht3 := ht.below bb
  go_wp2_with fail
  refine (spoil_none w2.heap.size w2.heap.size _ (newS 100) at_ 1 w3 m3 rfl).mono ?_
  rintro e w4 ⟨rfl, rfl⟩
  have hln := Len_any w2.heap.size w2.heap.size _ (newS 100) w3 m3
  have hln : Calls Tryd.prog 19 #[.pointer (some ⟨w2.heap.size, 0, none⟩)] w3 fun e w' => e = .returned (.int .i64 0) ∧ w3 = w' := hln
  by_cases hk : kind < 0 ∨ 255 < kind
  · have ha := Append_any w2.heap.size w2.heap.size _ (newS 100) _ none 0 kind [] w3 m3 b3.size (RdB.nil (D := fun _ => True)) (by simp) (by simp [newS]) ht3
    rw [new_bad kind hk] at ha
    have ha : Calls Tryd.prog 16 #[.pointer (some ⟨w2.heap.size, 0, none⟩), .int .i64 kind, .slice none 0 0] _ _ := ha
    by_cases hk1 : kind < 0
    focus
      have hk2 : ¬ 0 ≤ kind := by omega
    rotate_left
    focus
      have hk2 : ¬ kind ≤ 255 := by omega
      have hk3 : 0 ≤ kind := by omega
    all_goals
      clear hk
      go_wp2_with fail
      refine hln.mono ?_
      clear hln
      rintro e w4 ⟨rfl, rfl⟩
      go_wp2_with fail
      refine ha.mono ?_
      clear ha
      rintro e w5 ⟨v5, rfl, m5, x5, _⟩
      have bb2 := bb.thenB' (Below.refl _ _)
      have bX := m3.bel x5 b3.size
      go_wp2_with fail
      go_ret
      exact ⟨rfl, bb.trans (bX.mono (Nat.le_trans b1.size b2.size))⟩
  · have hk1 : 0 ≤ kind := by omega
    have hk2 : kind ≤ 255 := by omega
    clear hk
    go_wp2_with fail
    refine hln.mono ?_
    clear hln
    rintro e w4 ⟨rfl, rfl⟩
    go_wp2_with fail
    go_ret
    exact ⟨rfl, bb⟩
end Go.Proofs.YtodfejeifbhoeaaDoor
