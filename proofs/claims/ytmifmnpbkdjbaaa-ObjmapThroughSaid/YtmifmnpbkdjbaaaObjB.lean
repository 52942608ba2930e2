import Derived.Test.YtmifmnpbkdjbaaaObjA
namespace Go.Proofs.Ytmifmnpbkdjbaaa
open Go.RowKit
set_option linter.unusedVariables false

theorem setO_len (m : List Int) (i st : Int) : (setO m i st).length ≤ 512 := by
  unfold setO
  split
  · exact rowF_len _
  · exact rowF_len _

set_option maxRecDepth 100000 in
theorem tells_walk (w : World) (A : Option Addr) (m : List Int) (c : Nat) (r : RdI w (Old w) A m) (l : m.length ≤ c) (mx : c ≤ 9223372036854775807) (nn : A = none → c = 0) (wf : ∀ z ∈ m, I64 z) (i : Int) (ii : I64 i) (st : Int) (is : I64 st) :
    Calls Try.prog 3 #[.slice A m.length c, .int .i64 i, .int .i64 st] w fun e w' => e = .returned (.bool true) ∧ Below w.heap.size w w' := by
  by_cases h0 : 2000 < m.length
  · go_enter Try.func3, Try.ntmps3
    go_wp2_with fail
    refine (awake_any _).mono ?_
    rintro e wa ⟨rfl, b1⟩
    go_wp2_with fail
    go_ret
    exact ⟨rfl, b1⟩
  · have hml : m.length ≤ 2000 := by omega
    clear h0
    have hS := setO_len m i st
    go_enter Try.func3, Try.ntmps3
    go_wp2_with fail
    refine (awake_any _).mono ?_
    rintro e wa ⟨rfl, b1⟩
    have r := r.below b1
    go_wp2_with fail
    refine (Check_any _ A c m wa r (by omega)).mono ?_
    rintro e w2 ⟨rfl, rfl⟩
    have hcall := may_ref _ A c m wa r (by omega)
    generalize mayO m = mb at *
    go_wp2_with fail
    refine hcall.mono ?_
    clear hcall
    rintro e w3 ⟨rfl, rfl⟩
    have hmb : (mb == mb) = true := by simp
    go_wp2_with fail
    refine (Get_any _ A c m i wa r).mono ?_
    rintro e w4 ⟨rfl, rfl⟩
    go_wp2_with fail
    refine (rGet_any _ A c m i wa r).mono ?_
    rintro e w5 ⟨rfl, rfl⟩
    go_wp2_with fail
    refine (Set_any _ A c m i st wa r).mono ?_
    rintro e w6 ⟨A6, rfl, r6, b6⟩
    have r := r.below b6
    go_wp2_with fail
    refine (rSet_any _ A c m i st w6 r l mx ii).mono ?_
    rintro e w7 ⟨v7, rfl, o7, b7⟩
    obtain ⟨A7, c7, rfl, _, _⟩ := o7.form
    have r6 := r6.below b7
    go_wp2_with fail
    refine (Ints_yes _ _ A6 A7 _ _ c7 (setO m i st) rfl r6.rd o7.rd (bigI _ hS)).mono ?_
    rintro e w8 ⟨rfl, b8⟩
    go_wp2_with fail
    go_ret
    exact ⟨rfl, ((b1.thenB' b6).thenB' b7).thenB' b8⟩

theorem freshO_le (m : List Int) : (freshO m).length ≤ 512 := rowF_len _
theorem mergeO_le (o m : List Int) : (mergeO o m).length ≤ 512 := rowF_len _

set_option maxRecDepth 100000 in
theorem merges_walk (w : World) (A : Option Addr) (m : List Int) (c : Nat) (r : RdI w (Old w) A m) (l : m.length ≤ c) (mx : c ≤ 9223372036854775807) (nn : A = none → c = 0) (wf : ∀ z ∈ m, I64 z)
    (A' : Option Addr) (m' : List Int) (c' : Nat) (r' : RdI w (Old w) A' m') (l' : m'.length ≤ c') (mx' : c' ≤ 9223372036854775807) (nn' : A' = none → c' = 0) (wf' : ∀ z ∈ m', I64 z) :
    Calls Try.prog 6 #[.slice A m.length c, .slice A' m'.length c'] w fun e w' => e = .returned (.bool true) ∧ Below w.heap.size w w' := by
  by_cases h0 : 2000 < m.length ∨ 2000 < m'.length
  · by_cases h1 : 2000 < m.length
    focus skip
    rotate_left
    focus
      have h2 : 2000 < m'.length := by omega
    all_goals
      clear h0
      go_enter Try.func6, Try.ntmps6
      go_wp2_with fail
      refine (awake_any _).mono ?_
      rintro e wa ⟨rfl, b1⟩
      go_wp2_with fail
      go_ret
      exact ⟨rfl, b1⟩
  · have hml : m.length ≤ 2000 := by omega
    have hml' : m'.length ≤ 2000 := by omega
    clear h0
    have hF := freshO_le m
    have hM := mergeO_le m m'
    go_enter Try.func6, Try.ntmps6
    go_wp2_with fail
    refine (awake_any _).mono ?_
    rintro e wa ⟨rfl, b1⟩
    have r := r.below b1
    have r' := r'.below b1
    go_wp2_with fail
    refine (Fresh_any _ A c m wa r).mono ?_
    rintro e w2 ⟨A2, c2, rfl, r2, _, _, b2⟩
    have r := r.below b2
    have r' := r'.below b2
    go_wp2_with fail
    refine (rFresh_any _ A c m w2 r l mx).mono ?_
    rintro e w3 ⟨A3, c3, rfl, r3, _, _, b3⟩
    have r := r.below b3
    have r' := r'.below b3
    have r2 := r2.below b3
    go_wp2_with fail
    refine (Ints_yes _ _ A2 A3 _ c2 c3 (freshO m) rfl r2.rd r3.rd (bigI _ hF)).mono ?_
    rintro e w4 ⟨rfl, b4⟩
    have r := r.below b4
    have r' := r'.below b4
    go_wp2_with fail
    refine (Merge_any _ _ A' A c' c m m' w4 r r').mono ?_
    rintro e w5 ⟨A5, c5, rfl, r5, _, _, b5⟩
    have r := r.below b5
    have r' := r'.below b5
    go_wp2_with fail
    refine (rMerge_any _ _ A' A c' c m m' w5 r r' l' mx').mono ?_
    rintro e w6 ⟨A6, c6, rfl, r6, _, _, b6⟩
    have r5 := r5.below b6
    go_wp2_with fail
    refine (Ints_yes _ _ A5 A6 _ c5 c6 (mergeO m m') rfl r5.rd r6.rd (bigI _ hM)).mono ?_
    rintro e w7 ⟨rfl, b7⟩
    go_wp2_with fail
    go_ret
    exact ⟨rfl, (((((b1.thenB' b2).thenB' b3).thenB' b4).thenB' b5).thenB' b6).thenB' b7⟩
end Go.Proofs.Ytmifmnpbkdjbaaa
