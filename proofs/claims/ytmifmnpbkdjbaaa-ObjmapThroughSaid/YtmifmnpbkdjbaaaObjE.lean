import Derived.Test.YtmifmnpbkdjbaaaObjD
namespace Go.Proofs.Ytmifmnpbkdjbaaa
open Go.RowKit
set_option linter.unusedVariables false

theorem and_mask (c : Int) (m : Nat) (hm : m < 9223372036854775808) : ∃ j : Nat, bits .and .i64 c (m : Int) = (j : Int) ∧ j ≤ m := by
  refine ⟨(BitVec.ofInt 64 c &&& BitVec.ofInt 64 (m : Int)).toNat, ?_, ?_⟩
  · show IntKind.i64.wrap (((BitVec.ofInt 64 c &&& BitVec.ofInt 64 (m : Int)).toNat : Nat) : Int) = _
    have h : (BitVec.ofInt 64 c &&& BitVec.ofInt 64 (m : Int)).toNat ≤ m := by
      rw [BitVec.toNat_and, toNat64 m hm]
      exact Nat.and_le_right
    rw [IntKind.wrap_i64]
    omega
  · rw [BitVec.toNat_and, toNat64 m hm]
    exact Nat.and_le_right
/-- [][]int of one row, as a literal. -/
theorem lit1 (w : World) (D : Nat → Prop) (A : Option Addr) (l : List Int) (n c : Nat) (hn : n = l.length) :
    RdL (w.alloc (.cells #[.slice A n c] 22)) (fun _ => True) 1 rowC (some ⟨w.heap.size, 0, none⟩) [⟨A, l, c⟩] := fun _ => ⟨_, rfl, trivial, fun i s hs j v hv => by
  subst hn
  rw [Nat.mul_one, add_head, (Blk.new w 22 #[.slice A l.length c]).cell]
  match i, hs with
  | 0, hs => injection hs with hs; subst hs; match j, hv with
    | 0, hv => exact hv
    | j + 1, hv => simp [rowC] at hv
  | i + 1, hs => simp at hs⟩

set_option maxRecDepth 100000 in
theorem fresh_walk (w : World) (A : Option Addr) (m : List Int) (c : Nat) (r : RdI w (Old w) A m) (l : m.length ≤ c) (mx : c ≤ 9223372036854775807) (nn : A = none → c = 0) (wf : ∀ z ∈ m, I64 z) (i : Int) (ii : I64 i) :
    Calls Try.prog 5 #[.slice A m.length c, .int .i64 i] w fun e w' => e = .returned (.bool true) ∧ Below w.heap.size w w' := by
  by_cases h0 : 2000 < m.length
  · go_enter Try.func5, Try.ntmps5
    go_wp2_with fail
    refine (awake_any _).mono ?_
    rintro e wa ⟨rfl, b1⟩
    go_wp2_with fail
    go_ret
    exact ⟨rfl, b1⟩
  · have hml : m.length ≤ 2000 := by omega
    clear h0
    have hF := freshO_le m
    obtain ⟨k, hk0, hk2⟩ := and_mask i 511 (by omega)
    have hk : bits .and .i64 i 511 = (k : Int) := hk0
    clear hk0
    go_enter Try.func5, Try.ntmps5
    go_wp2_with fail
    refine (awake_any _).mono ?_
    rintro e wa ⟨rfl, b1⟩
    have r := r.below b1
    go_wp2_with fail
    refine (Fresh_any _ A c m wa r).mono ?_
    rintro e w2 ⟨A2, c2, rfl, r2, lc2, mc2, b2⟩
    have r := r.below b2
    have bb := b1.thenB' b2
    go_wp2_with fail
    go_loopw [7, 8] (fun i b8 wr => ∃ j : Nat, j ≤ 512 ∧ i = .int .i64 (j : Int) ∧ w2 = wr) (fun i _ _ => 512 - (intOf i).toNat)
    case atStart => exact ⟨0, Nat.zero_le _, rfl, rfl⟩
    case round =>
      obtain ⟨j, hj, rfl, rfl⟩ := hrel
      by_cases hlt : j < 512
      · have hc1 := Get_any _ A2 c2 (freshO m) j w2 r2.rd
        have hc2 := Get_any _ A c m j w2 r
        rw [gO_nat] at hc1 hc2
        have e1 := fresh_ne1 m j
        have e2 := fresh_zero m j
        generalize gN (freshO m) j = z at *
        generalize gN m j = y at *
        have z1 : (z == 1) = false := by simp [e1]
        by_cases hy : y = 0
        focus
          have y0 : (y == 0) = true := by simp [hy]
          have z0 : (z == 0) = true := by simp [e2.2 hy]
        rotate_left
        focus
          have y0 : (y == 0) = false := by simp [hy]
          have z0 : (z == 0) = false := by simp; exact fun h => hy (e2.1 h)
        all_goals
          clear e1 e2 hy
          go_wp2_with fail
          refine hc1.mono ?_
          rintro e w3 ⟨rfl, rfl⟩
          go_wp2_with fail
          refine hc2.mono ?_
          rintro e w4 ⟨rfl, rfl⟩
          go_wp2_with fail
          go_roundw
          case rel => exact ⟨j + 1, by omega, by go_num, trivial⟩
          case measure => simp [intOf] <;> omega
      · obtain rfl : j = 512 := by omega
        have hk5 : k < 512 := by omega
        have HC := Lib.hid (fresh_changed m k hk5)
        have HS := Lib.hid (fresh_same m)
        have HD := Lib.hid (fresh_dirty (freshO m) k hk5)
        have HG := Lib.hid (fresh_gone (setO (freshO m) (k : Int) 1) k hk5)
        generalize freshO m = f at *
        go_wp2_with fail
        refine (Set_any _ A2 c2 f k 1 w2 r2.rd).mono ?_
        rintro e w3 ⟨A3, rfl, r3, b3⟩
        have r2 := r2.below b3
        have bb := bb.thenB' b3
        have hsl := setO_len f k 1
        generalize setO f (k : Int) 1 = s at *
        go_wp2_with fail
        have n3 := below_new w3 (.cells #[.slice A3 s.length s.length] 22)
        have r2 := r2.below n3
        have r3 := r3.below n3
        have bb := bb.thenB' n3
        have hone : ∀ t ∈ [(⟨A3, s, s.length⟩ : RV)], RdI _ _ t.A t.l := fun t ht => by
          have ht : t = ⟨A3, s, s.length⟩ := by simpa using ht
          subst ht
          exact r3.rd
        have hcall := Changed_any _ _ _ A2 (some ⟨w3.heap.size, 0, none⟩) c2 1 f [⟨A3, s, s.length⟩] _ r2.rd (lit1 w3 (fun _ => True) A3 s _ _ rfl) hone (by simp)
        rw [show changedO f (List.map (·.l) [(⟨A3, s, s.length⟩ : RV)]) = [(k : Int)] from HC.out] at hcall
        refine hcall.mono ?_
        clear hcall
        rintro e w4 ⟨v4, rfl, o4, b4⟩
        obtain ⟨A4, c4, rfl, _, _⟩ := o4.form
        have r2 := r2.below b4
        have r3 := r3.below b4
        have bb := bb.thenB' b4
        go_wp2_with fail
        refine (Set_any _ A3 s.length s k 0 w4 r3.rd).mono ?_
        rintro e w5 ⟨A5, rfl, r5, b5⟩
        have r2 := r2.below b5
        have r3 := r3.below b5
        have o4 := OwnI.below o4 b5
        have bb := bb.thenB' b5
        generalize setO s (k : Int) 0 = g at *
        go_wp2_with fail
        have n5 := below_new w5 (.cells #[.int .i64 (k : Int)] 3)
        have oL := litI w5 [(k : Int)] 1 #[.int .i64 (k : Int)] rfl rfl (bigI _ (by simp))
        have r2 := r2.below n5
        have r3 := r3.below n5
        have r5 := r5.below n5
        have o4 := OwnI.below o4 n5
        have bb := bb.thenB' n5
        refine (Ints_yes _ _ A4 _ 1 c4 1 [(k : Int)] rfl o4.rd oL.rd (bigI _ (by simp))).mono ?_
        rintro e w6 ⟨rfl, b6⟩
        have r2 := r2.below b6
        have r3 := r3.below b6
        have r5 := r5.below b6
        have bb := bb.thenB' b6
        go_wp2_with fail
        have hcall := Get_any _ A3 s.length s k w6 r3.rd
        rw [gO_nat, HD.out] at hcall
        refine hcall.mono ?_
        clear hcall
        rintro e w7 ⟨rfl, rfl⟩
        go_wp2_with fail
        have hcall := Get_any _ A5 g.length g k w6 r5.rd
        rw [gO_nat, HG.out] at hcall
        refine hcall.mono ?_
        clear hcall
        rintro e w8 ⟨rfl, rfl⟩
        go_wp2_with fail
        have n6 := below_new w6 (.cells #[.slice A2 f.length c2] 22)
        have r2 := r2.below n6
        have bb := bb.thenB' n6
        have hone : ∀ t ∈ [(⟨A2, f, c2⟩ : RV)], RdI _ _ t.A t.l := fun t ht => by
          have ht : t = ⟨A2, f, c2⟩ := by simpa using ht
          subst ht
          exact r2.rd
        have hcall := Changed_any _ _ _ A2 (some ⟨w6.heap.size, 0, none⟩) c2 1 f [⟨A2, f, c2⟩] _ r2.rd (lit1 w6 (fun _ => True) A2 f _ _ rfl) hone (by simp)
        rw [show changedO f (List.map (·.l) [(⟨A2, f, c2⟩ : RV)]) = [] from HS.out] at hcall
        refine hcall.mono ?_
        clear hcall
        rintro e w9 ⟨v9, rfl, o9, b9⟩
        obtain ⟨A9, c9, rfl, _, _⟩ := o9.form
        have bb := bb.thenB' b9
        go_wp2_with fail
        go_ret
        exact ⟨rfl, bb⟩
end Go.Proofs.Ytmifmnpbkdjbaaa
