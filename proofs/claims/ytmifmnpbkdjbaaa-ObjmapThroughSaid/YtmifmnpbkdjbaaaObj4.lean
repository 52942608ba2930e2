import Derived.Test.YtmifmnpbkdjbaaaObj3
namespace Go.Proofs.Ytmifmnpbkdjbaaa
open Go.RowKit
set_option linter.unusedVariables false

theorem setclo_any (b1 b2 b3 : Nat) (D : Nat → Prop) (A : Option Addr) (c : Nat) (m : List Int) (i : Nat) (st : Int) (k : Nat) (w : World) (h1 : Blk w b1 3 #[.int .i64 (i : Int)]) (h2 : Blk w b2 3 #[.int .i64 st]) (h3 : Blk w b3 22 #[.slice A m.length c]) (h : RdI w D A m) :
    Calls Try.prog 35 #[.int .i64 (k : Int), .pointer (some ⟨b1, 0, none⟩), .pointer (some ⟨b2, 0, none⟩), .pointer (some ⟨b3, 0, none⟩)] w fun e w' => e = .returned (.int .i64 (setF m i st k)) ∧ w = w' := by
  have c1 := h1.cell 0
  have c2 := h2.cell 0
  have c3 := h3.cell 0
  simp at c1 c2 c3
  by_cases hk : k = i
  · subst hk
    have e : Hid (setF m k st k = st) := by unfold Hid setF; rw [if_pos rfl]
    go_enter Try.func35, Try.ntmps35
    go_wp2_with fail
    go_ret
    exact ⟨by rw [e.out] <;> rfl, rfl⟩
  · have e : Hid (setF m i st k = gN m k) := by unfold Hid setF; rw [if_neg hk]
    have hb : ((k : Int) == (i : Int)) = false := by simp; omega
    clear hk
    go_enter Try.func35, Try.ntmps35
    go_wp2_with fail
    with_reducible refine (Get_any D A c m k w h).mono ?_
    rintro e' w1 ⟨rfl, rfl⟩
    rw [gO_nat]
    go_wp2_with fail
    go_ret
    exact ⟨by rw [e.out] <;> rfl, rfl⟩

set_option maxRecDepth 100000 in
theorem Set_any (D : Nat → Prop) (A : Option Addr) (c : Nat) (m : List Int) (i st : Int) (w : World) (h : RdI w D A m) :
    Calls Try.prog 16 #[.slice A m.length c, .int .i64 i, .int .i64 st] w fun e w' => ∃ A', e = .returned (.slice A' (setO m i st).length (setO m i st).length) ∧ RowI w' w.heap.size A' (setO m i st) ∧ Below w.heap.size w w' := by
  obtain ⟨W, hW⟩ : ∃ W, W = ((w.alloc (.cells #[.slice A m.length c] 22)).alloc (.cells #[.int .i64 i] 3)).alloc (.cells #[.int .i64 st] 3) := ⟨_, rfl⟩
  have b1 := below_new w (.cells #[.slice A m.length c] 22)
  have b2 := below_new (w.alloc (.cells #[.slice A m.length c] 22)) (.cells #[.int .i64 i] 3)
  have b3 := below_new ((w.alloc (.cells #[.slice A m.length c] 22)).alloc (.cells #[.int .i64 i] 3)) (.cells #[.int .i64 st] 3)
  have h1 := ((Blk.new w 22 #[.slice A m.length c]).below b2).below b3
  have h2 := (Blk.new (w.alloc (.cells #[.slice A m.length c] 22)) 3 #[.int .i64 i]).below b3
  have h3 := Blk.new ((w.alloc (.cells #[.slice A m.length c] 22)).alloc (.cells #[.int .i64 i] 3)) 3 #[.int .i64 st]
  have bb := (b1.thenB' b2).thenB' b3
  have h' := h.below bb
  simp only [show ((w.alloc (.cells #[.slice A m.length c] 22)).alloc (.cells #[.int .i64 i] 3)).heap.size = w.heap.size + 1 + 1 by simp, show (w.alloc (.cells #[.slice A m.length c] 22)).heap.size = w.heap.size + 1 by simp] at h2 h3
  have c1 := h1.cell 0
  have c2 := h2.cell 0
  have c3 := h3.cell 0
  simp at c1 c2 c3
  clear b1 b2 b3
  have hmf : ∀ (fn : Fn) (first cap : Array Value) (w : World), (Instr.makeFunc fn first cap).run Try.prog w = .ok (.func fn first cap) w := fun _ _ _ _ => rfl
  by_cases hbad : 0 ≤ i ∧ i < 512 ∧ 0 ≤ st ∧ st ≤ 2
  · have hS : Hid (setO m i st = rowF (setF m i.toNat st)) := by unfold Hid setO; rw [if_pos hbad]
    obtain ⟨hb1, hb2, hb3, hb4⟩ := hbad
    obtain ⟨k, rfl⟩ : ∃ k : Nat, i = (k : Int) := ⟨i.toNat, by omega⟩
    rw [Int.toNat_natCast] at hS
    have hk5 : k < 512 := by omega
    have hok : okO st = true := by unfold okO; rw [decide_eq_true_iff]; omega
    obtain ⟨n, hk, hn⟩ : ∃ n : Nat, min (m.length : Int) 512 = (n : Int) ∧ n = min m.length 512 := ⟨min m.length 512, by omega, rfl⟩
    obtain ⟨N, hN, hN2⟩ : ∃ N : Nat, max (n : Int) ((k : Int) + 1) = (N : Int) ∧ N = max n (k + 1) := ⟨max n (k + 1), by omega, rfl⟩
    have HZ : Hid (cutZ ((List.range N).map (setF m k st)) = rowF (setF m k st)) := cutZ_map _ N (fun j h1 h2 => by
      unfold setF
      rw [if_neg (by omega)]
      exact gN_far m j (by omega)) (by omega)
    have hN5 : N ≤ 512 := by omega
    clear hn hN2
    have hcall : ∀ W, Calls Try.prog 31 #[.int .i64 st] W fun e w' => e = .returned (.bool true) ∧ W = w' := fun W => by have := right_any st W; rw [hok] at this; exact this
    clear hok
    go_enter Try.func16, Try.ntmps16
    go_wp2_with fail
    with_reducible refine (hcall _).mono ?_
    rintro e w1 ⟨rfl, rfl⟩
    go_wp2_with fail
    refine (each_any N 35 #[.pointer (some ⟨w.heap.size + 1, 0, none⟩), .pointer (some ⟨w.heap.size + 1 + 1, 0, none⟩), .pointer (some ⟨w.heap.size, 0, none⟩)] (setF m k st) _ (by unfold big; omega) (Go.Proofs.enters_of Try.func35 (by kernel_rfl) rfl) (fun i _ W hW => setclo_any (w.heap.size + 1) (w.heap.size + 1 + 1) w.heap.size D A c m k st i W (h2.below hW) (h3.below hW) (h1.below hW) (h'.below hW))).mono ?_
    rintro e w1 ⟨g, rfl, r, b1⟩
    go_wp2_with fail
    have hcall := clean_any _ (some ⟨g, 0, none⟩) N _ w1 r.rd (by simp) (by omega)
    rw [List.length_map, List.length_range] at hcall
    with_reducible refine hcall.mono ?_
    clear hcall
    rintro e w2 ⟨rfl, rfl⟩
    have r2 : RowI w1 w.heap.size (some ⟨g, 0, none⟩) (setO m k st) := by
      rw [hS.out, ← HZ.out]
      exact (r.take _).low bb.size
    rw [HZ.out, ← hS.out]
    go_wp2_with fail
    go_ret
    exact ⟨_, rfl, r2, bb.thenB' b1⟩
  · have hS : Hid (setO m i st = rowO m) := by unfold Hid setO; rw [if_neg hbad]
    have hcase : (i < 0 ∨ 512 ≤ i) ∨ (0 ≤ i ∧ i < 512 ∧ okO st = false) := by
      unfold okO
      rw [decide_eq_false_iff_not]
      omega
    clear hbad
    rcases hcase with (hi | hi) | ⟨hi1, hi2, hok⟩
    focus skip
    rotate_left
    focus skip
    rotate_left
    focus
      have hcall : ∀ W, Calls Try.prog 31 #[.int .i64 st] W fun e w' => e = .returned (.bool false) ∧ W = w' := fun W => by have := right_any st W; rw [hok] at this; exact this
      clear hok
      go_enter Try.func16, Try.ntmps16
      go_wp2_with fail
      with_reducible refine (hcall _).mono ?_
      rintro e w1 ⟨rfl, rfl⟩
      go_wp2_with fail
      with_reducible refine (row_any _ A c m _ h').mono ?_
      rintro e w2 ⟨A', rfl, r, b2⟩
      go_wp2_with fail
      go_ret
      exact ⟨A', by rw [hS.out] <;> rfl, by rw [hS.out]; exact r.low bb.size, bb.thenB' b2⟩
    all_goals
      go_enter Try.func16, Try.ntmps16
      go_wp2_with fail
      with_reducible refine (row_any _ A c m _ h').mono ?_
      rintro e w2 ⟨A', rfl, r, b2⟩
      go_wp2_with fail
      go_ret
      exact ⟨A', by rw [hS.out] <;> rfl, by rw [hS.out]; exact r.low bb.size, bb.thenB' b2⟩
end Go.Proofs.Ytmifmnpbkdjbaaa
