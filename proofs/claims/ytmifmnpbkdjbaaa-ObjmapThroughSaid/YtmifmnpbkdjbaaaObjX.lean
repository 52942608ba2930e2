/- ObjmapThrough: its plain laws and its walk. -/
import Derived.Test.YtmifmnpbkdjbaaaObjW
namespace Go.Proofs.Ytmifmnpbkdjbaaa
open Go.RowKit
set_option linter.unusedVariables false

def mm (b c : Int) : Int := if c = 2 ∧ b = 1 then 1 else c
theorem gN_merge (o n : List Int) (k : Nat) : gN (mergeO o n) k = mm (gN o k) (gN n k) := by
  unfold mergeO
  rw [gN_rowF _ (fun k _ => by have := gN_bd n k; unfold mergeF; split <;> omega)]
  split
  · rfl
  · unfold mm; rw [gN_far n k (.inr (by omega))]; rfl
theorem in_chg (p : Nat → Bool) (k : Nat) : ∀ n, (chg p n).any (· == (k : Int)) = (decide (k < n) && p k)
  | 0 => by simp [chg]
  | n + 1 => by
    have ih := in_chg p k n
    cases hp : p n
    · rw [chg_no p n hp, ih]
      by_cases h : k = n
      · subst h; simp [hp]
      · rw [show decide (k < n + 1) = decide (k < n) by simp; omega]
    · rw [chg_yes p n hp, List.any_append, ih]
      by_cases h : k = n
      · subst h; simp [hp]
      · have e : ((n : Int) == (k : Int)) = false := by simp; omega
        rw [show decide (k < n + 1) = decide (k < n) by simp; omega]
        simp [e]
theorem in_one (a b : List Int) (k : Nat) (hk : k < 512) : (changedO a [b]).any (· == (k : Int)) = dd (gN b k) (gN a k) := by
  show (chg (diffO a [b]) 512).any (· == (k : Int)) = _
  rw [in_chg, show decide (k < 512) = true by simp [hk]]
  simp [diffO, dd]
theorem in_two (a b c : List Int) (k : Nat) (hk : k < 512) : (changedO a [b, c]).any (· == (k : Int)) = (dd (gN b k) (gN a k) || dd (gN c k) (gN a k)) := by
  show (chg (diffO a [b, c]) 512).any (· == (k : Int)) = _
  rw [in_chg, show decide (k < 512) = true by simp [hk]]
  simp [diffO, dd]
/-- [][]int of two rows, as a literal. -/
theorem lit2 (w : World) (A B : Option Addr) (l k : List Int) (n m c d : Nat) (hn : n = l.length) (hm : m = k.length) :
    RdL (w.alloc (.cells #[.slice A n c, .slice B m d] 22)) (fun _ => True) 1 rowC (some ⟨w.heap.size, 0, none⟩) [⟨A, l, c⟩, ⟨B, k, d⟩] := fun _ => ⟨_, rfl, trivial, fun i s hs j v hv => by
  subst hn hm
  rw [Nat.mul_one, add_head, (Blk.new w 22 #[.slice A l.length c, .slice B k.length d]).cell]
  match i, hs with
  | 0, hs => injection hs with hs; subst hs; match j, hv with
    | 0, hv => exact hv
    | j + 1, hv => simp [rowC] at hv
  | 1, hs => injection hs with hs; subst hs; match j, hv with
    | 0, hv => exact hv
    | j + 1, hv => simp [rowC] at hv
  | i + 2, hs => simp at hs⟩
/-- Changed by one row that lies in a literal. -/
theorem one_any (D D2 : Nat → Prop) (A B : Option Addr) (c d n : Nat) (m l : List Int) (w : World) (h : RdI w D A m) (hl : RdI w D2 B l) (hn : n = l.length) :
    Calls Try.prog 18 #[.slice A m.length c, .slice (some ⟨w.heap.size, 0, none⟩) 1 1] (w.alloc (.cells #[.slice B n d] 22)) fun e w' => ∃ A' n' c', e = .returned (.slice A' n' c') ∧ Hid (n' = (changedO m [l]).length) ∧ RdI w' (fun _ => True) A' (changedO m [l]) ∧ Below w.heap.size w w' := by
  have n3 := below_new w (.cells #[.slice B n d] 22)
  have h := h.below n3
  have hl := hl.below n3
  have hone : ∀ t ∈ [(⟨B, l, d⟩ : RV)], RdI _ _ t.A t.l := fun t ht => by
    have ht : t = ⟨B, l, d⟩ := by simpa using ht
    subst ht
    exact hl
  have hcall := Changed_any _ _ _ A (some ⟨w.heap.size, 0, none⟩) c 1 m [⟨B, l, d⟩] _ h (lit1 w (fun _ => True) B l n d hn) hone (by simp)
  refine hcall.mono ?_
  rintro e w4 ⟨v4, rfl, o4, b4⟩
  obtain ⟨A4, c4, rfl, _, _⟩ := o4.form
  exact ⟨A4, _, c4, rfl, Lib.hid rfl, Rd.imp o4.rd (fun _ _ _ => trivial) (by decide), n3.thenB' b4⟩
theorem two_any (D D2 D3 : Nat → Prop) (A B C : Option Addr) (c d d' n n' : Nat) (m l k : List Int) (w : World) (h : RdI w D A m) (hl : RdI w D2 B l) (hk : RdI w D3 C k) (hn : n = l.length) (hn' : n' = k.length) :
    Calls Try.prog 18 #[.slice A m.length c, .slice (some ⟨w.heap.size, 0, none⟩) 2 2] (w.alloc (.cells #[.slice B n d, .slice C n' d'] 22)) fun e w' => ∃ A' n' c', e = .returned (.slice A' n' c') ∧ Hid (n' = (changedO m [l, k]).length) ∧ RdI w' (fun _ => True) A' (changedO m [l, k]) ∧ Below w.heap.size w w' := by
  have n3 := below_new w (.cells #[.slice B n d, .slice C n' d'] 22)
  have h := h.below n3
  have hl := hl.below n3
  have hk := hk.below n3
  have hone : ∀ t ∈ [(⟨B, l, d⟩ : RV), ⟨C, k, d'⟩], RdI (w.alloc (.cells #[.slice B n d, .slice C n' d'] 22)) (fun _ => True) t.A t.l := fun t ht => by
    rcases List.mem_cons.1 ht with rfl | ht
    · exact Rd.imp hl (fun _ _ _ => trivial) (by decide)
    · obtain rfl : t = ⟨C, k, d'⟩ := by simpa using ht
      exact Rd.imp hk (fun _ _ _ => trivial) (by decide)
  have hcall := Changed_any _ _ _ A (some ⟨w.heap.size, 0, none⟩) c 2 m [⟨B, l, d⟩, ⟨C, k, d'⟩] _ h (lit2 w B C l k n n' d d' hn hn') hone (by simp)
  refine hcall.mono ?_
  rintro e w4 ⟨v4, rfl, o4, b4⟩
  obtain ⟨A4, c4, rfl, _, _⟩ := o4.form
  exact ⟨A4, _, c4, rfl, Lib.hid rfl, Rd.imp o4.rd (fun _ _ _ => trivial) (by decide), n3.thenB' b4⟩
theorem dd_t : (dd 0 0 = false ∧ dd 0 1 = true ∧ dd 0 2 = true ∧ dd 1 0 = true ∧ dd 1 1 = true ∧ dd 1 2 = true) ∧ dd 2 0 = true ∧ dd 2 1 = false ∧ dd 2 2 = false := by decide
theorem mm_t : (mm 0 0 = 0 ∧ mm 0 1 = 1 ∧ mm 0 2 = 2 ∧ mm 1 0 = 0 ∧ mm 1 1 = 1 ∧ mm 1 2 = 1) ∧ mm 2 0 = 0 ∧ mm 2 1 = 1 ∧ mm 2 2 = 2 := by decide

set_option maxHeartbeats 8000000 in
set_option maxRecDepth 100000 in
theorem through_walk (w : World) (A : Option Addr) (a : List Int) (c : Nat) (r1 : RdI w (Old w) A a) (l1 : a.length ≤ c) (mx1 : c ≤ 9223372036854775807) (nn1 : A = none → c = 0) (wf1 : ∀ z ∈ a, I64 z)
    (B : Option Addr) (b : List Int) (d : Nat) (r2 : RdI w (Old w) B b) (l2 : b.length ≤ d) (mx2 : d ≤ 9223372036854775807) (nn2 : B = none → d = 0) (wf2 : ∀ z ∈ b, I64 z)
    (C : Option Addr) (k : List Int) (f : Nat) (r3 : RdI w (Old w) C k) (l3 : k.length ≤ f) (mx3 : f ≤ 9223372036854775807) (nn3 : C = none → f = 0) (wf3 : ∀ z ∈ k, I64 z) :
    Calls Try.prog 9 #[.slice A a.length c, .slice B b.length d, .slice C k.length f] w fun e w' => e = .returned (.bool true) ∧ Below w.heap.size w w' := by
  by_cases h0 : 2000 < a.length ∨ 2000 < b.length ∨ 2000 < k.length
  · by_cases h1 : 2000 < a.length
    focus skip
    rotate_left
    focus
      by_cases h2 : 2000 < b.length
      focus skip
      rotate_left
      focus
        have h3 : 2000 < k.length := by omega
    all_goals
      clear h0
      go_enter Try.func9, Try.ntmps9
      go_wp2_with fail
      refine (awake_any _).mono ?_
      rintro e wa ⟨rfl, b1⟩
      go_wp2_with fail
      go_ret
      exact ⟨rfl, b1⟩
  · have hl1 : a.length ≤ 2000 := by omega
    have hl2 : b.length ≤ 2000 := by omega
    have hl3 : k.length ≤ 2000 := by omega
    clear h0
    have c1 := changedO_le a [b]
    have c2 := changedO_le b [k]
    have c3 := changedO_le a [b, k]
    have c4 := changedO_le a [mergeO b k]
    go_enter Try.func9, Try.ntmps9
    go_wp2_with fail
    refine (awake_any _).mono ?_
    rintro e wa ⟨rfl, b1⟩
    have r1 := r1.below b1
    have r2 := r2.below b1
    have r3 := r3.below b1
    go_wp2_with fail
    refine (one_any _ _ A B c d _ a b wa r1 r2 rfl).mono ?_
    rintro e w2 ⟨A1, n1, e1, rfl, H1, x1, b2⟩
    have r1 := r1.below b2
    have r2 := r2.below b2
    have r3 := r3.below b2
    have bb := b1.thenB' b2
    clear b1 b2
    go_wp2_with fail
    refine (one_any _ _ B C d f _ b k w2 r2 r3 rfl).mono ?_
    rintro e w3 ⟨A2, n2, e2, rfl, H2, x2, b3⟩
    have r1 := r1.below b3
    have r2 := r2.below b3
    have r3 := r3.below b3
    have x1 := x1.below b3
    have bb := bb.thenB' b3
    clear b3
    go_wp2_with fail
    refine (two_any _ _ _ A B C c d f _ _ a b k w3 r1 r2 r3 rfl rfl).mono ?_
    rintro e w4 ⟨A3, n3, e3, rfl, H3, x3, b4⟩
    have r1 := r1.below b4
    have r2 := r2.below b4
    have r3 := r3.below b4
    have x1 := x1.below b4
    have x2 := x2.below b4
    have bb := bb.thenB' b4
    clear b4
    go_wp2_with fail
    refine (Merge_any _ _ C B f d b k w4 r2 r3).mono ?_
    rintro e w5 ⟨A4, n4, rfl, x4, _, _, b5⟩
    have r1 := r1.below b5
    have r2 := r2.below b5
    have r3 := r3.below b5
    have x1 := x1.below b5
    have x2 := x2.below b5
    have x3 := x3.below b5
    have bb := bb.thenB' b5
    clear b5
    have HM := Lib.hid (gN_merge b k)
    have hcall := one_any _ _ A A4 c n4 _ a (mergeO b k) w5 r1 x4.rd rfl
    generalize mergeO b k = g at *
    go_wp2_with fail
    refine hcall.mono ?_
    clear hcall
    rintro e w6 ⟨A5, n5, e5, rfl, H5, x5, b6⟩
    have r1 := r1.below b6
    have r2 := r2.below b6
    have r3 := r3.below b6
    have x1 := x1.below b6
    have x2 := x2.below b6
    have x3 := x3.below b6
    have bb := bb.thenB' b6
    clear b6
    go_wp2_with fail
    go_loopw [12, 13, 14, 15] (fun i b13 b14 b15 wr => ∃ j : Nat, j ≤ 512 ∧ i = .int .i64 (j : Int) ∧ w6 = wr) (fun i _ _ _ _ => 512 - (intOf i).toNat)
    case atStart => exact ⟨0, Nat.zero_le _, rfl, rfl⟩
    case round =>
      obtain ⟨j, hj, rfl, rfl⟩ := hrel
      by_cases hlt : j < 512
      · have i1 := in_any _ A1 e1 (changedO a [b]) j w6 x1 (by omega)
        have i2 := in_any _ A2 e2 (changedO b [k]) j w6 x2 (by omega)
        have i3 := in_any _ A3 e3 (changedO a [b, k]) j w6 x3 (by omega)
        have i5 := in_any _ A5 e5 (changedO a [g]) j w6 x5 (by omega)
        have g1 := Get_any _ A c a j w6 r1
        have g2 := Get_any _ B d b j w6 r2
        have g3 := Get_any _ C f k j w6 r3
        rw [in_one _ _ j hlt, ← H1.out] at i1
        rw [in_one _ _ j hlt, ← H2.out] at i2
        rw [in_two _ _ _ j hlt, ← H3.out] at i3
        rw [in_one _ _ j hlt, HM.out, ← H5.out] at i5
        rw [gO_nat] at g1 g2 g3
        have v1 := gN_bd a j
        have v2 := gN_bd b j
        have v3 := gN_bd k j
        generalize gN a j = za at *
        generalize gN b j = zb at *
        generalize gN k j = zc at *
        have u1 : za = 0 ∨ za = 1 ∨ za = 2 := by omega
        have u2 : zb = 0 ∨ zb = 1 ∨ zb = 2 := by omega
        have u3 : zc = 0 ∨ zc = 1 ∨ zc = 2 := by omega
        clear v1 v2 v3 r1 r2 r3 x1 x2 x3 x4 x5
        rcases u1 with rfl | rfl | rfl <;> rcases u2 with rfl | rfl | rfl <;> rcases u3 with rfl | rfl | rfl
        all_goals
          simp only [mm_t, dd_t, Bool.or_true, Bool.or_false] at i1 i2 i3 i5
        all_goals
          go_wp2_with first
            | (with_reducible refine i1.mono ?_; rintro e w7 ⟨rfl, rfl⟩)
            | (with_reducible refine i2.mono ?_; rintro e w7 ⟨rfl, rfl⟩)
            | (with_reducible refine i3.mono ?_; rintro e w7 ⟨rfl, rfl⟩)
            | (with_reducible refine i5.mono ?_; rintro e w7 ⟨rfl, rfl⟩)
            | (with_reducible refine g1.mono ?_; rintro e w7 ⟨rfl, rfl⟩)
            | (with_reducible refine g2.mono ?_; rintro e w7 ⟨rfl, rfl⟩)
            | (with_reducible refine g3.mono ?_; rintro e w7 ⟨rfl, rfl⟩)
          go_roundw
          case rel => exact ⟨j + 1, by omega, by go_num, trivial⟩
          case measure => simp [intOf] <;> omega
      · obtain rfl : j = 512 := by omega
        go_wp2_with fail
        go_ret
        exact ⟨rfl, bb⟩
end Go.Proofs.Ytmifmnpbkdjbaaa
