import Derived.Test.YtmifmnpbkdjbaaaObjB
namespace Go.Proofs.Ytmifmnpbkdjbaaa
open Go.ChangeShapes Go.WideShapes Go.Deep Go.RowKit
set_option linter.unusedVariables false

theorem openLL {H : Type} {enc : TypeId × Value → H} {W : World} {base : Nat} {v : Value} {d : DataW H} {p : List MemPlace}
    (hv : Value.okWide Try.prog W .any base 29 v) (h : DataW.Trod enc Try.prog W 0 (fun _ => true) true 29 v d p) :
    ∃ A L c, v = .slice A L.length c ∧ RdL W (Old W) 1 rowC A L ∧ L.length ≤ c ∧ c ≤ 9223372036854775807 ∧ (A = none → c = 0) ∧ ∀ s ∈ L, RdI W (Old W) s.A s.l ∧ s.l.length ≤ s.c ∧ s.c ≤ 9223372036854775807 := by
  obtain ⟨a0, l0, c0, rfl⟩ := okWide_slice Try.underlying29 hv
  obtain ⟨fuel, hf⟩ := h
  rcases open_slice Try.underlying29 hf with ⟨hcs, _⟩ | ⟨a, len, cap, m, n, D, Pl, hcs, _, hl, hm, hmm, _, hi⟩
  · simp [Value.cells] at hcs
    obtain ⟨rfl, rfl, rfl⟩ := hcs
    exact ⟨none, [], 0, rfl, fun h => absurd h (by simp), by simp, by omega, fun _ => rfl, by simp⟩
  · have hC : Try.prog.cellsOf 22 = 1 := by kernel_rfl
    have each : ∀ i, i < len → ∃ s : RV, (RdI W (Old W) s.A s.l ∧ s.l.length ≤ s.c ∧ s.c ≤ 9223372036854775807) ∧ W.cell? (a.add i) = some (.slice s.A s.l.length s.c) := fun i hil => by
      have him : i < m := by rw [hmm]; split <;> omega
      obtain ⟨cs', hc, ht'⟩ := hi i him
      rw [hC, Nat.mul_one] at hc
      obtain ⟨A, zs, c, e, r, lz, mz, _, _⟩ := readI ht'
      obtain ⟨_, hcl, hat⟩ := World.cells?_some hc
      have := hat (i := 0) (by omega)
      rw [add_zero_, e] at this
      exact ⟨⟨A, zs, c⟩, ⟨r, lz, mz⟩, this⟩
    obtain ⟨L, hL, hQ⟩ := listOf len each
    simp [Value.cells] at hcs
    obtain ⟨rfl, rfl, rfl⟩ := hcs
    refine ⟨some a, L, c0, by rw [hL], fun hn => ⟨a, rfl, ?_, fun i s hs j v hv => ?_⟩, by omega, by unfold maxLen at hm; omega, by simp, fun s hs => ?_⟩
    · have h1 := (hQ 0 L[0] (List.getElem?_eq_getElem hn)).2
      have := World.block_lt_of_cell? W _ h1
      rwa [block_of_add] at this
    · match j, hv with
      | 0, hv => injection hv with hv; subst hv; rw [Nat.mul_one]; exact (hQ i s hs).2
      | j + 1, hv => simp [rowC] at hv
    · obtain ⟨i, hi, rfl⟩ := List.getElem_of_mem hs
      exact (hQ i _ (List.getElem?_eq_getElem hi)).1

theorem changedO_le (m : List Int) (rest : List (List Int)) : (changedO m rest).length ≤ 512 := chg_len _ 512

set_option maxRecDepth 100000 in
theorem changes_walk (w : World) (A : Option Addr) (m : List Int) (c : Nat) (r : RdI w (Old w) A m) (l : m.length ≤ c) (mx : c ≤ 9223372036854775807) (nn : A = none → c = 0) (wf : ∀ z ∈ m, I64 z)
    (B : Option Addr) (L : List RV) (d : Nat) (rL : RdL w (Old w) 1 rowC B L) (lL : L.length ≤ d) (mL : d ≤ 9223372036854775807) (nL : B = none → d = 0) (wL : ∀ s ∈ L, RdI w (Old w) s.A s.l ∧ s.l.length ≤ s.c ∧ s.c ≤ 9223372036854775807) :
    Calls Try.prog 4 #[.slice A m.length c, .slice B L.length d] w fun e w' => e = .returned (.bool true) ∧ Below w.heap.size w w' := by
  by_cases h0 : 2000 < m.length ∨ 10 < L.length
  · by_cases h1 : 2000 < m.length
    focus skip
    rotate_left
    focus
      have h2 : 10 < L.length := by omega
    all_goals
      clear h0
      go_enter Try.func4, Try.ntmps4
      go_wp2_with fail
      refine (awake_any _).mono ?_
      rintro e wa ⟨rfl, b1⟩
      go_wp2_with fail
      go_ret
      exact ⟨rfl, b1⟩
  · have hml : m.length ≤ 2000 := by omega
    have hLl : L.length ≤ 10 := by omega
    clear h0
    have hC := changedO_le m (L.map (·.l))
    go_enter Try.func4, Try.ntmps4
    go_wp2_with fail
    refine (awake_any _).mono ?_
    rintro e wa ⟨rfl, b1⟩
    have r := r.below b1
    have rL := rL.below b1
    have wL2 : ∀ s ∈ L, RdI wa (Old w) s.A s.l := fun s hs => (wL s hs).1.below b1
    clear wL
    go_wp2_with fail
    go_loopw [6] (fun i wr => ∃ j : Nat, j ≤ L.length ∧ i = .int .i64 (j : Int) ∧ wa = wr) (fun i _ => L.length - (intOf i).toNat)
    case atStart => exact ⟨0, Nat.zero_le _, rfl, rfl⟩
    case round =>
      obtain ⟨j, hj, rfl, rfl⟩ := hrel
      by_cases hj2 : j < L.length
      · obtain ⟨ad, e0, hcell⟩ := rL.row hj2
        generalize L[j] = s at *
        obtain ⟨sA, sl, sc⟩ := s
        simp only at hcell
        subst e0
        by_cases hs : 2000 < sl.length
        · go_wp2_with fail
          go_ret
          exact ⟨rfl, b1⟩
        · go_wp2_with fail
          go_roundw
          case rel => exact ⟨j + 1, by omega, by go_num, trivial⟩
          case measure => simp [intOf] <;> omega
      · obtain rfl : j = L.length := by omega
        have hcall := Changed_any _ _ _ A B c d m L wa r rL wL2 (by omega)
        generalize hch : changedO m (L.map (·.l)) = ch at *
        go_wp2_with fail
        refine hcall.mono ?_
        clear hcall
        rintro e w2 ⟨v2, rfl, o2, b2⟩
        obtain ⟨A2, c2, rfl, _, _⟩ := o2.form
        have hcall := rChanged_any _ _ _ A B c d m L w2 (r.below b2) (rL.below b2) (fun s hs => (wL2 s hs).below b2) (by omega)
        rw [hch] at hcall
        clear hch
        go_wp2_with fail
        refine hcall.mono ?_
        clear hcall
        rintro e w3 ⟨v3, rfl, o3, b3⟩
        obtain ⟨A3, c3, rfl, _, _⟩ := o3.form
        have o2 := OwnI.below o2 b3
        go_wp2_with fail
        refine (Ints_yes _ _ A2 A3 _ c2 c3 ch rfl o2.rd o3.rd (bigI _ hC)).mono ?_
        rintro e w4 ⟨rfl, b4⟩
        go_wp2_with fail
        go_ret
        exact ⟨rfl, ((b1.thenB' b2).thenB' b3).thenB' b4⟩
end Go.Proofs.Ytmifmnpbkdjbaaa
