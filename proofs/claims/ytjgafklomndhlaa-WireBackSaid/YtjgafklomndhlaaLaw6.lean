import Derived.Test.YtjgafklomndhlaaSteps
import Derived.Test.YtjgafklomndhlaaLaw5
import Derived.Deep.CutBlock
import Derived.Deep.CutRange
namespace Go.Proofs.Ytjgafklomndhlaa
open Go.RowKit
set_option linter.unusedVariables false

def RM (X : Nat → Prop) (a b : World) : Prop := Mod X a b
theorem RM_refl (X : Nat → Prop) (w : World) : RM X w w := Mod.refl _ w
theorem RM_trans (X : Nat → Prop) (a b c : World) (h : RM X a b) (k : RM X b c) : RM X a c := Mod.trans h k
theorem rTake_len (n : Nat) (s : St) : (rTake n s).1.length ≤ n := by
  unfold rTake
  split
  · split
    · simp
    · simp; omega
  · simp
theorem rNums_len (width most : Int) (s : St) : (rNums width most s).1.length ≤ 1785 := by
  have h1 := rNum1_bd s
  have hw := wideI_bd width
  unfold rNums
  simp only
  split
  · simp
  · rw [decN_length]
    have h2 := rTake_len ((rNum 1 s).1.toNat * (wideI width).toNat) (rNum 1 s).2
    have h3 : (rNum 1 s).1.toNat * (wideI width).toNat ≤ 255 * 7 := Nat.mul_le_mul (by omega) (by omega)
    exact Nat.le_trans (Nat.div_le_self _ _) (Nat.le_trans h2 h3)

/-- Both readers stand at the same place. -/
def Jn (w : World) (g g' B C : Nat) (s : St) : Prop := Rdr w g (fun b => b < B ∧ b ≠ g) s ∧ RdR w g' (fun b => b < C) s

set_option maxRecDepth 100000 in
set_option maxHeartbeats 4000000 in
theorem wireReads_walk (w : World) (Ab : Option Addr) (bs : List UInt8) (cb : Nat) (rb : RdB w (Old w) Ab bs) (lb : bs.length ≤ cb) (mb : cb ≤ 9223372036854775807) (nb : Ab = none → cb = 0)
    (As : Option Addr) (L : List (Int × Int × Int)) (cs : Nat) (rs : RdL w (Old w) 3 stepC As L) (ls : L.length ≤ cs) (ms : cs ≤ 9223372036854775807) (ns : As = none → cs = 0) (ws : ∀ s ∈ L, I64 s.1 ∧ I64 s.2.1 ∧ I64 s.2.2) :
    Calls Try.prog 3 #[.slice Ab bs.length cb, .slice As L.length cs] w fun e w' => e = .returned (.bool true) ∧ Below w.heap.size w w' := by
  by_cases h0 : 10000 < bs.length
  · go_enter Try.func3, Try.ntmps3
    go_wp2_with fail
    refine (awake_any _).mono ?_
    rintro e wa ⟨rfl, b1⟩
    go_wp2_with fail
    go_ret
    exact ⟨rfl, b1⟩
  · have hbl : bs.length ≤ 10000 := by omega
    clear h0
    go_enter Try.func3, Try.ntmps3
    go_wp2_with fail
    refine (awake_any _).mono ?_
    rintro e wa ⟨rfl, b1⟩
    have rb := rb.below b1
    go_wp2_with fail
    refine (Read_any _ Ab cb bs wa rb (by unfold big; omega)).mono ?_
    rintro e wb ⟨g, rfl, r2, hg, b2⟩
    have rb := rb.below b2
    have hgw : w.heap.size ≤ g := Nat.le_trans b1.size hg
    have hgb : g < wb.heap.size := r2.lt
    have hBl := Blk.new wb 30 #[.slice Ab bs.length cb, .int .i64 0]
    have bn := below_new wb (.cells #[.slice Ab bs.length cb, .int .i64 0] 30)
    have bb := (b1.thenB' b2).thenB' bn
    go_wp2_with fail
    have hJ : Jn (wb.alloc (.cells #[.slice Ab bs.length cb, .int .i64 0] 30)) g wb.heap.size wb.heap.size w.heap.size (bs, 0) := by
      refine ⟨?_, Ab, cb, hBl, rb.below bn, lb, mb, ?_⟩
      · obtain ⟨A, c, h1, h2, h3, h4, h5⟩ := r2
        have hX := (Rd.imp h2 (D' := fun b => b < wb.heap.size ∧ b ≠ g) (fun b hb h => ⟨hb, h.2⟩) (by decide)).below bn
        have h1 := h1.below bn
        refine ⟨A, c, h1, hX, h3, h4, fun h => h.2 rfl⟩
      · omega
    generalize wb.heap.size = B at *
    generalize wb.alloc (.cells #[.slice Ab bs.length cb, .int .i64 0] 30) = wc at *
    have n1 : ¬ B = g := by omega
    have n2 : ∀ i, i < w.heap.size → ¬ i = g := fun i hi h => by omega
    have n3 : ¬ g = B := by omega
    have n4 : ∀ i, (i < B ∧ i ≠ g) → ¬ i = B := fun i hi h => by omega
    have n5 : ∀ i, i < w.heap.size → ¬ i = B := fun i hi h => by omega
    clear hBl bn rb r2 b1 b2 hg
    go_loopw [8, 9, 10, 11] (fun i b9 b10 b11 wr => ∃ k : Nat, k ≤ L.length ∧ i = .int .i64 (k : Int) ∧ (∃ s, Jn wr g B B w.heap.size s) ∧ Below w.heap.size w wr) (fun i _ _ _ _ => L.length - (intOf i).toNat)
    case atStart => exact ⟨0, Nat.zero_le _, rfl, ⟨_, hJ⟩, bb⟩
    case round =>
      clear hJ bb
      obtain ⟨k, hk, rfl, ⟨s, r, q⟩, bb⟩ := hrel
      rename_i wr _
      by_cases hk1 : k < L.length ∧ k < 60
      · obtain ⟨hk2, hk3⟩ := hk1
        obtain ⟨ad, rfl, c0, c1, c2⟩ := (rs.belowB bb (fun _ h => h)).step hk2
        obtain ⟨i0, i1, i2⟩ := ws _ (List.getElem_mem hk2)
        generalize L[k] = stp at *
        obtain ⟨s0, s1, s2⟩ := stp
        unfold cI at c0 c1 c2
        simp only at c0 c1 c2 i0 i1 i2
        obtain ⟨z0, hz0, hz2⟩ := and_mask s0 7 (by omega)
        obtain ⟨z, hz, hz3, hz4⟩ : ∃ z : Int, bits .and .i64 s0 7 = z ∧ 0 ≤ z ∧ z ≤ 7 := ⟨z0, hz0, by omega, by omega⟩
        clear hz0 hz2
        go_upto_block 2 with fail
        have hS := Blk.new wr 32 #[.int .i64 s0, .int .i64 s1, .int .i64 s2]
        have bn := below_new wr (.cells #[.int .i64 s0, .int .i64 s1, .int .i64 s2] 32)
        have hx := q.lt
        have r := r.below bn
        have q := q.below bn
        have bb := bb.thenB' bn
        clear c0 c1 c2
        generalize wr.alloc (.cells #[.int .i64 s0, .int .i64 s1, .int .i64 s2] 32) = wq at *
        generalize wr.heap.size = bx at *
        clear bn
        have n6 : ¬ bx = g := by omega
        have n7 : ¬ bx = B := by omega
        have n8 : ¬ (bx = g ∨ bx = B) := by omega
        have n10 : ∀ b, b < w.heap.size → ¬ (b = g ∨ b = B) := fun b hb hx => by omega
        go_cut [10, 11] from 23 to 114 (fun v10 v11 wx => v10 = .bool true ∧ (∃ s', Jn wx g B B w.heap.size s') ∧ Below w.heap.size w wx)
        case first =>
          have hz8 : z = 0 ∨ z = 1 ∨ z = 2 ∨ z = 3 ∨ z = 4 ∨ z = 5 ∨ z = 6 ∨ z = 7 := by omega
          clear hz hz3 hz4
          rcases hz8 with rfl | rfl | rfl | rfl | rfl | rfl | rfl | rfl
          · go_wp2_with fail
            refine r_start (R := (RM (fun b => b = g ∨ b = B))) (by rfl) (n := 10) (L := #[false, false, false, false, false, false, false, false, false, false]) rfl rfl ?_
            have bd : Below wq.heap.size wq wq.drew := (Below.refl _ _).drew
            have r := r.below bd
            have q := q.below bd
            have hS := hS.below bd
            have bb := bb.thenB' bd
            generalize wq.drew = wd at *
            clear bd
            refine r_flt (RM_refl _) 0 44 #[true, false, false, false, false, false, false, false, false, false] (by simp only [List.getElem?_toArray, List.getElem?_cons_zero]; rfl) (by rfl) (by kernel_rfl) (by kernel_rfl) (by kernel_rfl) (fun _ _ _ _ h => h) rfl (by rfl) ?_
            apply Exists.intro
            apply And.intro
            · intro W hW
              first | (go_simp; with_reducible rfl) | go_simp
            (try simp only [Act.put, List.setIfInBounds_toArray]); (try simp only [List.set_cons_succ]); (try simp only [List.set_cons_zero])
            refine r_flt (RM_refl _) 1 45 #[true, true, false, false, false, false, false, false, false, false] (by simp only [List.getElem?_toArray, List.getElem?_cons_succ, List.getElem?_cons_zero]; rfl) (by rfl) (by kernel_rfl) (by kernel_rfl) (by kernel_rfl) (fun _ _ _ _ h => h) rfl (by rfl) ?_
            apply Exists.intro
            apply And.intro
            · intro W hW
              first | (go_simp; with_reducible rfl) | go_simp
            (try simp only [Act.put, List.setIfInBounds_toArray]); (try simp only [List.set_cons_succ]); (try simp only [List.set_cons_zero])
            refine r_flt (RM_refl _) 2 46 #[true, true, true, false, false, false, false, false, false, false] (by simp only [List.getElem?_toArray, List.getElem?_cons_succ, List.getElem?_cons_zero]; rfl) (by rfl) (by kernel_rfl) (by kernel_rfl) (by kernel_rfl) (fun _ _ _ _ h => h) rfl (by rfl) ?_
            apply Exists.intro
            apply And.intro
            · intro W hW
              have c := (hS.mod hW n8).cell 1
              simp at c
              go_simp; rfl
            (try simp only [Act.put, List.setIfInBounds_toArray]); (try simp only [List.set_cons_succ]); (try simp only [List.set_cons_zero])
            refine r_flt (RM_refl _) 4 48 #[true, true, true, false, true, false, false, false, false, false] (by simp only [List.getElem?_toArray, List.getElem?_cons_succ, List.getElem?_cons_zero]; rfl) (by rfl) (by kernel_rfl) (by kernel_rfl) (by kernel_rfl) (fun _ _ _ _ h => h) rfl (by rfl) ?_
            apply Exists.intro
            apply And.intro
            · intro W hW
              first | (go_simp; with_reducible rfl) | go_simp
            (try simp only [Act.put, List.setIfInBounds_toArray]); (try simp only [List.set_cons_succ]); (try simp only [List.set_cons_zero])
            refine r_flt (RM_refl _) 5 49 #[true, true, true, false, true, true, false, false, false, false] (by simp only [List.getElem?_toArray, List.getElem?_cons_succ, List.getElem?_cons_zero]; rfl) (by rfl) (by kernel_rfl) (by kernel_rfl) (by kernel_rfl) (fun _ _ _ _ h => h) rfl (by rfl) ?_
            apply Exists.intro
            apply And.intro
            · intro W hW
              first | (go_simp; with_reducible rfl) | go_simp
            (try simp only [Act.put, List.setIfInBounds_toArray]); (try simp only [List.set_cons_succ]); (try simp only [List.set_cons_zero])
            refine r_flt (RM_refl _) 6 50 #[true, true, true, false, true, true, true, false, false, false] (by simp only [List.getElem?_toArray, List.getElem?_cons_succ, List.getElem?_cons_zero]; rfl) (by rfl) (by kernel_rfl) (by kernel_rfl) (by kernel_rfl) (fun _ _ _ _ h => h) rfl (by rfl) ?_
            apply Exists.intro
            apply And.intro
            · intro W hW
              have c := (hS.mod hW n8).cell 1
              simp at c
              go_simp; rfl
            (try simp only [Act.put, List.setIfInBounds_toArray]); (try simp only [List.set_cons_succ]); (try simp only [List.set_cons_zero])
            refine r_one (RM_trans _) 3 (by kernel_rfl) ?_
            refine alt_call 47 #[true, true, true, true, true, true, true, false, false, false] (by simp only [List.getElem?_toArray, List.getElem?_cons_succ, List.getElem?_cons_zero]; rfl) (by rfl) rfl (by rfl) (by go_simp; first | exact ⟨rfl, rfl⟩ | rfl) ?_
            with_reducible refine (Num_any' g _ s s1 _ r).mono ?_
            rintro e wd3 ⟨rfl, r, m⟩
            refine ⟨_, rfl, m.mono (fun _ _ h => .inl h), ?_⟩
            have q := q.mod m n1 n2
            have hS := hS.mod m n6
            have bb := bb.thenM m bb.size n2
            (try simp only [Act.put, List.setIfInBounds_toArray]); (try simp only [List.set_cons_succ]); (try simp only [List.set_cons_zero])
            refine r_one (RM_trans _) 7 (by kernel_rfl) ?_
            refine alt_call 51 #[true, true, true, true, true, true, true, true, false, false] (by simp only [List.getElem?_toArray, List.getElem?_cons_succ, List.getElem?_cons_zero]; rfl) (by rfl) rfl (by rfl) (by go_simp; first | exact ⟨rfl, rfl⟩ | rfl) ?_
            with_reducible refine (rNum_any B _ s s1 _ q).mono ?_
            rintro e wd4 ⟨rfl, q, m⟩
            refine ⟨_, rfl, m.mono (fun _ _ h => .inr h), ?_⟩
            have r := r.mod m n3 n4
            have hS := hS.mod m n7
            have bb := bb.thenM m bb.size n5
            (try simp only [Act.put, List.setIfInBounds_toArray]); (try simp only [List.set_cons_succ]); (try simp only [List.set_cons_zero])
            refine r_flt (RM_refl _) 8 52 #[true, true, true, true, true, true, true, true, true, false] (by simp only [List.getElem?_toArray, List.getElem?_cons_succ, List.getElem?_cons_zero]; rfl) (by rfl) (by kernel_rfl) (by kernel_rfl) (by kernel_rfl) (fun _ _ _ _ h => h) rfl (by rfl) ?_
            apply Exists.intro
            apply And.intro
            · intro W hW
              go_simp; rfl
            (try simp only [Act.put, List.setIfInBounds_toArray]); (try simp only [List.set_cons_succ]); (try simp only [List.set_cons_zero])
            refine r_flt (RM_refl _) 9 10 #[true, true, true, true, true, true, true, true, true, true] (by simp only [List.getElem?_toArray, List.getElem?_cons_succ, List.getElem?_cons_zero]; rfl) (by rfl) (by kernel_rfl) (by kernel_rfl) (by kernel_rfl) (fun _ _ _ _ h => h) rfl (by rfl) ?_
            apply Exists.intro
            apply And.intro
            · intro W hW
              first | (go_simp; with_reducible rfl) | go_simp
            (try simp only [Act.put, List.setIfInBounds_toArray]); (try simp only [List.set_cons_succ]); (try simp only [List.set_cons_zero])
            refine r_done (by kernel_rfl) ?_
            go_wp2_with fail
            go_meet
            exact ⟨rfl, ⟨_, r, q⟩, bb⟩
          · go_wp2_with fail
            refine r_start (R := (RM (fun b => b = g ∨ b = B))) (by rfl) (n := 10) (L := #[false, false, false, false, false, false, false, false, false, false]) rfl rfl ?_
            have bd : Below wq.heap.size wq wq.drew := (Below.refl _ _).drew
            have r := r.below bd
            have q := q.below bd
            have hS := hS.below bd
            have bb := bb.thenB' bd
            generalize wq.drew = wd at *
            clear bd
            refine r_flt (RM_refl _) 0 44 #[true, false, false, false, false, false, false, false, false, false] (by simp only [List.getElem?_toArray, List.getElem?_cons_zero]; rfl) (by rfl) (by kernel_rfl) (by kernel_rfl) (by kernel_rfl) (fun _ _ _ _ h => h) rfl (by rfl) ?_
            apply Exists.intro
            apply And.intro
            · intro W hW
              first | (go_simp; with_reducible rfl) | go_simp
            (try simp only [Act.put, List.setIfInBounds_toArray]); (try simp only [List.set_cons_succ]); (try simp only [List.set_cons_zero])
            refine r_flt (RM_refl _) 1 45 #[true, true, false, false, false, false, false, false, false, false] (by simp only [List.getElem?_toArray, List.getElem?_cons_succ, List.getElem?_cons_zero]; rfl) (by rfl) (by kernel_rfl) (by kernel_rfl) (by kernel_rfl) (fun _ _ _ _ h => h) rfl (by rfl) ?_
            apply Exists.intro
            apply And.intro
            · intro W hW
              first | (go_simp; with_reducible rfl) | go_simp
            (try simp only [Act.put, List.setIfInBounds_toArray]); (try simp only [List.set_cons_succ]); (try simp only [List.set_cons_zero])
            refine r_flt (RM_refl _) 2 46 #[true, true, true, false, false, false, false, false, false, false] (by simp only [List.getElem?_toArray, List.getElem?_cons_succ, List.getElem?_cons_zero]; rfl) (by rfl) (by kernel_rfl) (by kernel_rfl) (by kernel_rfl) (fun _ _ _ _ h => h) rfl (by rfl) ?_
            apply Exists.intro
            apply And.intro
            · intro W hW
              have c := (hS.mod hW n8).cell 1
              simp at c
              go_simp; rfl
            (try simp only [Act.put, List.setIfInBounds_toArray]); (try simp only [List.set_cons_succ]); (try simp only [List.set_cons_zero])
            refine r_flt (RM_refl _) 4 48 #[true, true, true, false, true, false, false, false, false, false] (by simp only [List.getElem?_toArray, List.getElem?_cons_succ, List.getElem?_cons_zero]; rfl) (by rfl) (by kernel_rfl) (by kernel_rfl) (by kernel_rfl) (fun _ _ _ _ h => h) rfl (by rfl) ?_
            apply Exists.intro
            apply And.intro
            · intro W hW
              first | (go_simp; with_reducible rfl) | go_simp
            (try simp only [Act.put, List.setIfInBounds_toArray]); (try simp only [List.set_cons_succ]); (try simp only [List.set_cons_zero])
            refine r_flt (RM_refl _) 5 49 #[true, true, true, false, true, true, false, false, false, false] (by simp only [List.getElem?_toArray, List.getElem?_cons_succ, List.getElem?_cons_zero]; rfl) (by rfl) (by kernel_rfl) (by kernel_rfl) (by kernel_rfl) (fun _ _ _ _ h => h) rfl (by rfl) ?_
            apply Exists.intro
            apply And.intro
            · intro W hW
              first | (go_simp; with_reducible rfl) | go_simp
            (try simp only [Act.put, List.setIfInBounds_toArray]); (try simp only [List.set_cons_succ]); (try simp only [List.set_cons_zero])
            refine r_flt (RM_refl _) 6 50 #[true, true, true, false, true, true, true, false, false, false] (by simp only [List.getElem?_toArray, List.getElem?_cons_succ, List.getElem?_cons_zero]; rfl) (by rfl) (by kernel_rfl) (by kernel_rfl) (by kernel_rfl) (fun _ _ _ _ h => h) rfl (by rfl) ?_
            apply Exists.intro
            apply And.intro
            · intro W hW
              have c := (hS.mod hW n8).cell 1
              simp at c
              go_simp; rfl
            (try simp only [Act.put, List.setIfInBounds_toArray]); (try simp only [List.set_cons_succ]); (try simp only [List.set_cons_zero])
            refine r_one (RM_trans _) 3 (by kernel_rfl) ?_
            refine alt_call 47 #[true, true, true, true, true, true, true, false, false, false] (by simp only [List.getElem?_toArray, List.getElem?_cons_succ, List.getElem?_cons_zero]; rfl) (by rfl) rfl (by rfl) (by go_simp; first | exact ⟨rfl, rfl⟩ | rfl) ?_
            with_reducible refine (Num_any' g _ s s1 _ r).mono ?_
            rintro e wd3 ⟨rfl, r, m⟩
            refine ⟨_, rfl, m.mono (fun _ _ h => .inl h), ?_⟩
            have q := q.mod m n1 n2
            have hS := hS.mod m n6
            have bb := bb.thenM m bb.size n2
            (try simp only [Act.put, List.setIfInBounds_toArray]); (try simp only [List.set_cons_succ]); (try simp only [List.set_cons_zero])
            refine r_one (RM_trans _) 7 (by kernel_rfl) ?_
            refine alt_call 51 #[true, true, true, true, true, true, true, true, false, false] (by simp only [List.getElem?_toArray, List.getElem?_cons_succ, List.getElem?_cons_zero]; rfl) (by rfl) rfl (by rfl) (by go_simp; first | exact ⟨rfl, rfl⟩ | rfl) ?_
            with_reducible refine (rNum_any B _ s s1 _ q).mono ?_
            rintro e wd4 ⟨rfl, q, m⟩
            refine ⟨_, rfl, m.mono (fun _ _ h => .inr h), ?_⟩
            have r := r.mod m n3 n4
            have hS := hS.mod m n7
            have bb := bb.thenM m bb.size n5
            (try simp only [Act.put, List.setIfInBounds_toArray]); (try simp only [List.set_cons_succ]); (try simp only [List.set_cons_zero])
            refine r_flt (RM_refl _) 8 52 #[true, true, true, true, true, true, true, true, true, false] (by simp only [List.getElem?_toArray, List.getElem?_cons_succ, List.getElem?_cons_zero]; rfl) (by rfl) (by kernel_rfl) (by kernel_rfl) (by kernel_rfl) (fun _ _ _ _ h => h) rfl (by rfl) ?_
            apply Exists.intro
            apply And.intro
            · intro W hW
              go_simp; rfl
            (try simp only [Act.put, List.setIfInBounds_toArray]); (try simp only [List.set_cons_succ]); (try simp only [List.set_cons_zero])
            refine r_flt (RM_refl _) 9 10 #[true, true, true, true, true, true, true, true, true, true] (by simp only [List.getElem?_toArray, List.getElem?_cons_succ, List.getElem?_cons_zero]; rfl) (by rfl) (by kernel_rfl) (by kernel_rfl) (by kernel_rfl) (fun _ _ _ _ h => h) rfl (by rfl) ?_
            apply Exists.intro
            apply And.intro
            · intro W hW
              first | (go_simp; with_reducible rfl) | go_simp
            (try simp only [Act.put, List.setIfInBounds_toArray]); (try simp only [List.set_cons_succ]); (try simp only [List.set_cons_zero])
            refine r_done (by kernel_rfl) ?_
            go_wp2_with fail
            go_meet
            exact ⟨rfl, ⟨_, r, q⟩, bb⟩
          · go_wp2_with fail
            refine r_start (R := (RM (fun b => b = g ∨ b = B))) (by rfl) (n := 10) (L := #[false, false, false, false, false, false, false, false, false, false]) rfl rfl ?_
            have bd : Below wq.heap.size wq wq.drew := (Below.refl _ _).drew
            have r := r.below bd
            have q := q.below bd
            have hS := hS.below bd
            have bb := bb.thenB' bd
            generalize wq.drew = wd at *
            clear bd
            refine r_flt (RM_refl _) 0 44 #[true, false, false, false, false, false, false, false, false, false] (by simp only [List.getElem?_toArray, List.getElem?_cons_zero]; rfl) (by rfl) (by kernel_rfl) (by kernel_rfl) (by kernel_rfl) (fun _ _ _ _ h => h) rfl (by rfl) ?_
            apply Exists.intro
            apply And.intro
            · intro W hW
              first | (go_simp; with_reducible rfl) | go_simp
            (try simp only [Act.put, List.setIfInBounds_toArray]); (try simp only [List.set_cons_succ]); (try simp only [List.set_cons_zero])
            refine r_flt (RM_refl _) 1 45 #[true, true, false, false, false, false, false, false, false, false] (by simp only [List.getElem?_toArray, List.getElem?_cons_succ, List.getElem?_cons_zero]; rfl) (by rfl) (by kernel_rfl) (by kernel_rfl) (by kernel_rfl) (fun _ _ _ _ h => h) rfl (by rfl) ?_
            apply Exists.intro
            apply And.intro
            · intro W hW
              first | (go_simp; with_reducible rfl) | go_simp
            (try simp only [Act.put, List.setIfInBounds_toArray]); (try simp only [List.set_cons_succ]); (try simp only [List.set_cons_zero])
            refine r_flt (RM_refl _) 2 46 #[true, true, true, false, false, false, false, false, false, false] (by simp only [List.getElem?_toArray, List.getElem?_cons_succ, List.getElem?_cons_zero]; rfl) (by rfl) (by kernel_rfl) (by kernel_rfl) (by kernel_rfl) (fun _ _ _ _ h => h) rfl (by rfl) ?_
            apply Exists.intro
            apply And.intro
            · intro W hW
              have c := (hS.mod hW n8).cell 1
              simp at c
              go_simp; rfl
            (try simp only [Act.put, List.setIfInBounds_toArray]); (try simp only [List.set_cons_succ]); (try simp only [List.set_cons_zero])
            refine r_flt (RM_refl _) 4 48 #[true, true, true, false, true, false, false, false, false, false] (by simp only [List.getElem?_toArray, List.getElem?_cons_succ, List.getElem?_cons_zero]; rfl) (by rfl) (by kernel_rfl) (by kernel_rfl) (by kernel_rfl) (fun _ _ _ _ h => h) rfl (by rfl) ?_
            apply Exists.intro
            apply And.intro
            · intro W hW
              first | (go_simp; with_reducible rfl) | go_simp
            (try simp only [Act.put, List.setIfInBounds_toArray]); (try simp only [List.set_cons_succ]); (try simp only [List.set_cons_zero])
            refine r_flt (RM_refl _) 5 49 #[true, true, true, false, true, true, false, false, false, false] (by simp only [List.getElem?_toArray, List.getElem?_cons_succ, List.getElem?_cons_zero]; rfl) (by rfl) (by kernel_rfl) (by kernel_rfl) (by kernel_rfl) (fun _ _ _ _ h => h) rfl (by rfl) ?_
            apply Exists.intro
            apply And.intro
            · intro W hW
              first | (go_simp; with_reducible rfl) | go_simp
            (try simp only [Act.put, List.setIfInBounds_toArray]); (try simp only [List.set_cons_succ]); (try simp only [List.set_cons_zero])
            refine r_flt (RM_refl _) 6 50 #[true, true, true, false, true, true, true, false, false, false] (by simp only [List.getElem?_toArray, List.getElem?_cons_succ, List.getElem?_cons_zero]; rfl) (by rfl) (by kernel_rfl) (by kernel_rfl) (by kernel_rfl) (fun _ _ _ _ h => h) rfl (by rfl) ?_
            apply Exists.intro
            apply And.intro
            · intro W hW
              have c := (hS.mod hW n8).cell 1
              simp at c
              go_simp; rfl
            (try simp only [Act.put, List.setIfInBounds_toArray]); (try simp only [List.set_cons_succ]); (try simp only [List.set_cons_zero])
            refine r_one (RM_trans _) 3 (by kernel_rfl) ?_
            refine alt_call 47 #[true, true, true, true, true, true, true, false, false, false] (by simp only [List.getElem?_toArray, List.getElem?_cons_succ, List.getElem?_cons_zero]; rfl) (by rfl) rfl (by rfl) (by go_simp; first | exact ⟨rfl, rfl⟩ | rfl) ?_
            with_reducible refine (Num_any' g _ s s1 _ r).mono ?_
            rintro e wd3 ⟨rfl, r, m⟩
            refine ⟨_, rfl, m.mono (fun _ _ h => .inl h), ?_⟩
            have q := q.mod m n1 n2
            have hS := hS.mod m n6
            have bb := bb.thenM m bb.size n2
            (try simp only [Act.put, List.setIfInBounds_toArray]); (try simp only [List.set_cons_succ]); (try simp only [List.set_cons_zero])
            refine r_one (RM_trans _) 7 (by kernel_rfl) ?_
            refine alt_call 51 #[true, true, true, true, true, true, true, true, false, false] (by simp only [List.getElem?_toArray, List.getElem?_cons_succ, List.getElem?_cons_zero]; rfl) (by rfl) rfl (by rfl) (by go_simp; first | exact ⟨rfl, rfl⟩ | rfl) ?_
            with_reducible refine (rNum_any B _ s s1 _ q).mono ?_
            rintro e wd4 ⟨rfl, q, m⟩
            refine ⟨_, rfl, m.mono (fun _ _ h => .inr h), ?_⟩
            have r := r.mod m n3 n4
            have hS := hS.mod m n7
            have bb := bb.thenM m bb.size n5
            (try simp only [Act.put, List.setIfInBounds_toArray]); (try simp only [List.set_cons_succ]); (try simp only [List.set_cons_zero])
            refine r_flt (RM_refl _) 8 52 #[true, true, true, true, true, true, true, true, true, false] (by simp only [List.getElem?_toArray, List.getElem?_cons_succ, List.getElem?_cons_zero]; rfl) (by rfl) (by kernel_rfl) (by kernel_rfl) (by kernel_rfl) (fun _ _ _ _ h => h) rfl (by rfl) ?_
            apply Exists.intro
            apply And.intro
            · intro W hW
              go_simp; rfl
            (try simp only [Act.put, List.setIfInBounds_toArray]); (try simp only [List.set_cons_succ]); (try simp only [List.set_cons_zero])
            refine r_flt (RM_refl _) 9 10 #[true, true, true, true, true, true, true, true, true, true] (by simp only [List.getElem?_toArray, List.getElem?_cons_succ, List.getElem?_cons_zero]; rfl) (by rfl) (by kernel_rfl) (by kernel_rfl) (by kernel_rfl) (fun _ _ _ _ h => h) rfl (by rfl) ?_
            apply Exists.intro
            apply And.intro
            · intro W hW
              first | (go_simp; with_reducible rfl) | go_simp
            (try simp only [Act.put, List.setIfInBounds_toArray]); (try simp only [List.set_cons_succ]); (try simp only [List.set_cons_zero])
            refine r_done (by kernel_rfl) ?_
            go_wp2_with fail
            go_meet
            exact ⟨rfl, ⟨_, r, q⟩, bb⟩
          · go_wp2_with fail
            refine r_start (R := (RM (fun b => b = g ∨ b = B))) (by rfl) (n := 12) (L := #[false, false, false, false, false, false, false, false, false, false, false, false]) rfl rfl ?_
            have bd : Below wq.heap.size wq wq.drew := (Below.refl _ _).drew
            have r := r.below bd
            have q := q.below bd
            have hS := hS.below bd
            have bb := bb.thenB' bd
            generalize wq.drew = wd at *
            clear bd
            refine r_flt (RM_refl _) 0 56 #[true, false, false, false, false, false, false, false, false, false, false, false] (by simp only [List.getElem?_toArray, List.getElem?_cons_zero]; rfl) (by rfl) (by kernel_rfl) (by kernel_rfl) (by kernel_rfl) (fun _ _ _ _ h => h) rfl (by rfl) ?_
            apply Exists.intro
            apply And.intro
            · intro W hW
              first | (go_simp; with_reducible rfl) | go_simp
            (try simp only [Act.put, List.setIfInBounds_toArray]); (try simp only [List.set_cons_succ]); (try simp only [List.set_cons_zero])
            refine r_flt (RM_refl _) 1 57 #[true, true, false, false, false, false, false, false, false, false, false, false] (by simp only [List.getElem?_toArray, List.getElem?_cons_succ, List.getElem?_cons_zero]; rfl) (by rfl) (by kernel_rfl) (by kernel_rfl) (by kernel_rfl) (fun _ _ _ _ h => h) rfl (by rfl) ?_
            apply Exists.intro
            apply And.intro
            · intro W hW
              first | (go_simp; with_reducible rfl) | go_simp
            (try simp only [Act.put, List.setIfInBounds_toArray]); (try simp only [List.set_cons_succ]); (try simp only [List.set_cons_zero])
            refine r_flt (RM_refl _) 2 58 #[true, true, true, false, false, false, false, false, false, false, false, false] (by simp only [List.getElem?_toArray, List.getElem?_cons_succ, List.getElem?_cons_zero]; rfl) (by rfl) (by kernel_rfl) (by kernel_rfl) (by kernel_rfl) (fun _ _ _ _ h => h) rfl (by rfl) ?_
            apply Exists.intro
            apply And.intro
            · intro W hW
              have c := (hS.mod hW n8).cell 2
              simp at c
              go_simp; rfl
            (try simp only [Act.put, List.setIfInBounds_toArray]); (try simp only [List.set_cons_succ]); (try simp only [List.set_cons_zero])
            refine r_flt (RM_refl _) 5 61 #[true, true, true, false, false, true, false, false, false, false, false, false] (by simp only [List.getElem?_toArray, List.getElem?_cons_succ, List.getElem?_cons_zero]; rfl) (by rfl) (by kernel_rfl) (by kernel_rfl) (by kernel_rfl) (fun _ _ _ _ h => h) rfl (by rfl) ?_
            apply Exists.intro
            apply And.intro
            · intro W hW
              first | (go_simp; with_reducible rfl) | go_simp
            (try simp only [Act.put, List.setIfInBounds_toArray]); (try simp only [List.set_cons_succ]); (try simp only [List.set_cons_zero])
            refine r_flt (RM_refl _) 6 62 #[true, true, true, false, false, true, true, false, false, false, false, false] (by simp only [List.getElem?_toArray, List.getElem?_cons_succ, List.getElem?_cons_zero]; rfl) (by rfl) (by kernel_rfl) (by kernel_rfl) (by kernel_rfl) (fun _ _ _ _ h => h) rfl (by rfl) ?_
            apply Exists.intro
            apply And.intro
            · intro W hW
              first | (go_simp; with_reducible rfl) | go_simp
            (try simp only [Act.put, List.setIfInBounds_toArray]); (try simp only [List.set_cons_succ]); (try simp only [List.set_cons_zero])
            refine r_flt (RM_refl _) 7 63 #[true, true, true, false, false, true, true, true, false, false, false, false] (by simp only [List.getElem?_toArray, List.getElem?_cons_succ, List.getElem?_cons_zero]; rfl) (by rfl) (by kernel_rfl) (by kernel_rfl) (by kernel_rfl) (fun _ _ _ _ h => h) rfl (by rfl) ?_
            apply Exists.intro
            apply And.intro
            · intro W hW
              have c := (hS.mod hW n8).cell 2
              simp at c
              go_simp; rfl
            (try simp only [Act.put, List.setIfInBounds_toArray]); (try simp only [List.set_cons_succ]); (try simp only [List.set_cons_zero])
            refine r_one (RM_trans _) 3 (by kernel_rfl) ?_
            refine alt_call 59 #[true, true, true, true, false, true, true, true, false, false, false, false] (by simp only [List.getElem?_toArray, List.getElem?_cons_succ, List.getElem?_cons_zero]; rfl) (by rfl) rfl (by rfl) (by go_simp; first | exact ⟨rfl, rfl⟩ | rfl) ?_
            with_reducible refine (Blob_any' g _ s s2 _ r).mono ?_
            rintro e wd3 ⟨v3, rfl, o3, r, m⟩
            refine ⟨_, rfl, m.mono (fun _ _ h => .inl h), ?_⟩
            obtain ⟨A3, m3, c3, rfl, e3, _, _⟩ := o3.form'
            have hz := q.lt
            have q := q.mod m n1 n2
            have hS := hS.mod m n6
            have bb := bb.thenM m bb.size n2
            (try simp only [Act.put, List.setIfInBounds_toArray]); (try simp only [List.set_cons_succ]); (try simp only [List.set_cons_zero])
            refine r_flt (RM_refl _) 4 60 #[true, true, true, true, true, true, true, true, false, false, false, false] (by simp only [List.getElem?_toArray, List.getElem?_cons_succ, List.getElem?_cons_zero]; rfl) (by rfl) (by kernel_rfl) (by kernel_rfl) (by kernel_rfl) (fun _ _ _ _ h => h) rfl (by rfl) ?_
            apply Exists.intro
            apply And.intro
            · intro W hW
              have t := str_in o3 e3.out hW (fun k hk hx => by have hx : k = g ∨ k = B := hx; omega)
              go_simp; rfl
            (try simp only [Act.put, List.setIfInBounds_toArray]); (try simp only [List.set_cons_succ]); (try simp only [List.set_cons_zero])
            refine r_one (RM_trans _) 8 (by kernel_rfl) ?_
            refine alt_call 64 #[true, true, true, true, true, true, true, true, true, false, false, false] (by simp only [List.getElem?_toArray, List.getElem?_cons_succ, List.getElem?_cons_zero]; rfl) (by rfl) rfl (by rfl) (by go_simp; first | exact ⟨rfl, rfl⟩ | rfl) ?_
            with_reducible refine (rBlob_any B _ s s2 _ q).mono ?_
            rintro e wd4 ⟨A4, c4, rfl, r4, _, _, q, m⟩
            refine ⟨_, rfl, m.mono (fun _ _ h => .inr h), ?_⟩
            have r := r.mod m n3 n4
            have hS := hS.mod m n7
            have bb := bb.thenM m bb.size n5
            (try simp only [Act.put, List.setIfInBounds_toArray]); (try simp only [List.set_cons_succ]); (try simp only [List.set_cons_zero])
            refine r_flt (RM_refl _) 9 65 #[true, true, true, true, true, true, true, true, true, true, false, false] (by simp only [List.getElem?_toArray, List.getElem?_cons_succ, List.getElem?_cons_zero]; rfl) (by rfl) (by kernel_rfl) (by kernel_rfl) (by kernel_rfl) (fun _ _ _ _ h => h) rfl (by rfl) ?_
            apply Exists.intro
            apply And.intro
            · intro W hW
              have t := str_rd (c := c4) (Rd.mod r4 hW n10) rfl
              go_simp; rfl
            (try simp only [Act.put, List.setIfInBounds_toArray]); (try simp only [List.set_cons_succ]); (try simp only [List.set_cons_zero])
            refine r_flt (RM_refl _) 10 66 #[true, true, true, true, true, true, true, true, true, true, true, false] (by simp only [List.getElem?_toArray, List.getElem?_cons_succ, List.getElem?_cons_zero]; rfl) (by rfl) (by kernel_rfl) (by kernel_rfl) (by kernel_rfl) (fun _ _ _ _ h => h) rfl (by rfl) ?_
            apply Exists.intro
            apply And.intro
            · intro W hW
              go_simp; rfl
            (try simp only [Act.put, List.setIfInBounds_toArray]); (try simp only [List.set_cons_succ]); (try simp only [List.set_cons_zero])
            refine r_flt (RM_refl _) 11 10 #[true, true, true, true, true, true, true, true, true, true, true, true] (by simp only [List.getElem?_toArray, List.getElem?_cons_succ, List.getElem?_cons_zero]; rfl) (by rfl) (by kernel_rfl) (by kernel_rfl) (by kernel_rfl) (fun _ _ _ _ h => h) rfl (by rfl) ?_
            apply Exists.intro
            apply And.intro
            · intro W hW
              first | (go_simp; with_reducible rfl) | go_simp
            (try simp only [Act.put, List.setIfInBounds_toArray]); (try simp only [List.set_cons_succ]); (try simp only [List.set_cons_zero])
            refine r_done (by kernel_rfl) ?_
            go_wp2_with fail
            go_meet
            exact ⟨rfl, ⟨_, r, q⟩, bb⟩
          · go_wp2_with fail
            refine r_start (R := (RM (fun b => b = g ∨ b = B))) (by rfl) (n := 12) (L := #[false, false, false, false, false, false, false, false, false, false, false, false]) rfl rfl ?_
            have bd : Below wq.heap.size wq wq.drew := (Below.refl _ _).drew
            have r := r.below bd
            have q := q.below bd
            have hS := hS.below bd
            have bb := bb.thenB' bd
            generalize wq.drew = wd at *
            clear bd
            refine r_flt (RM_refl _) 0 56 #[true, false, false, false, false, false, false, false, false, false, false, false] (by simp only [List.getElem?_toArray, List.getElem?_cons_zero]; rfl) (by rfl) (by kernel_rfl) (by kernel_rfl) (by kernel_rfl) (fun _ _ _ _ h => h) rfl (by rfl) ?_
            apply Exists.intro
            apply And.intro
            · intro W hW
              first | (go_simp; with_reducible rfl) | go_simp
            (try simp only [Act.put, List.setIfInBounds_toArray]); (try simp only [List.set_cons_succ]); (try simp only [List.set_cons_zero])
            refine r_flt (RM_refl _) 1 57 #[true, true, false, false, false, false, false, false, false, false, false, false] (by simp only [List.getElem?_toArray, List.getElem?_cons_succ, List.getElem?_cons_zero]; rfl) (by rfl) (by kernel_rfl) (by kernel_rfl) (by kernel_rfl) (fun _ _ _ _ h => h) rfl (by rfl) ?_
            apply Exists.intro
            apply And.intro
            · intro W hW
              first | (go_simp; with_reducible rfl) | go_simp
            (try simp only [Act.put, List.setIfInBounds_toArray]); (try simp only [List.set_cons_succ]); (try simp only [List.set_cons_zero])
            refine r_flt (RM_refl _) 2 58 #[true, true, true, false, false, false, false, false, false, false, false, false] (by simp only [List.getElem?_toArray, List.getElem?_cons_succ, List.getElem?_cons_zero]; rfl) (by rfl) (by kernel_rfl) (by kernel_rfl) (by kernel_rfl) (fun _ _ _ _ h => h) rfl (by rfl) ?_
            apply Exists.intro
            apply And.intro
            · intro W hW
              have c := (hS.mod hW n8).cell 2
              simp at c
              go_simp; rfl
            (try simp only [Act.put, List.setIfInBounds_toArray]); (try simp only [List.set_cons_succ]); (try simp only [List.set_cons_zero])
            refine r_flt (RM_refl _) 5 61 #[true, true, true, false, false, true, false, false, false, false, false, false] (by simp only [List.getElem?_toArray, List.getElem?_cons_succ, List.getElem?_cons_zero]; rfl) (by rfl) (by kernel_rfl) (by kernel_rfl) (by kernel_rfl) (fun _ _ _ _ h => h) rfl (by rfl) ?_
            apply Exists.intro
            apply And.intro
            · intro W hW
              first | (go_simp; with_reducible rfl) | go_simp
            (try simp only [Act.put, List.setIfInBounds_toArray]); (try simp only [List.set_cons_succ]); (try simp only [List.set_cons_zero])
            refine r_flt (RM_refl _) 6 62 #[true, true, true, false, false, true, true, false, false, false, false, false] (by simp only [List.getElem?_toArray, List.getElem?_cons_succ, List.getElem?_cons_zero]; rfl) (by rfl) (by kernel_rfl) (by kernel_rfl) (by kernel_rfl) (fun _ _ _ _ h => h) rfl (by rfl) ?_
            apply Exists.intro
            apply And.intro
            · intro W hW
              first | (go_simp; with_reducible rfl) | go_simp
            (try simp only [Act.put, List.setIfInBounds_toArray]); (try simp only [List.set_cons_succ]); (try simp only [List.set_cons_zero])
            refine r_flt (RM_refl _) 7 63 #[true, true, true, false, false, true, true, true, false, false, false, false] (by simp only [List.getElem?_toArray, List.getElem?_cons_succ, List.getElem?_cons_zero]; rfl) (by rfl) (by kernel_rfl) (by kernel_rfl) (by kernel_rfl) (fun _ _ _ _ h => h) rfl (by rfl) ?_
            apply Exists.intro
            apply And.intro
            · intro W hW
              have c := (hS.mod hW n8).cell 2
              simp at c
              go_simp; rfl
            (try simp only [Act.put, List.setIfInBounds_toArray]); (try simp only [List.set_cons_succ]); (try simp only [List.set_cons_zero])
            refine r_one (RM_trans _) 3 (by kernel_rfl) ?_
            refine alt_call 59 #[true, true, true, true, false, true, true, true, false, false, false, false] (by simp only [List.getElem?_toArray, List.getElem?_cons_succ, List.getElem?_cons_zero]; rfl) (by rfl) rfl (by rfl) (by go_simp; first | exact ⟨rfl, rfl⟩ | rfl) ?_
            with_reducible refine (Blob_any' g _ s s2 _ r).mono ?_
            rintro e wd3 ⟨v3, rfl, o3, r, m⟩
            refine ⟨_, rfl, m.mono (fun _ _ h => .inl h), ?_⟩
            obtain ⟨A3, m3, c3, rfl, e3, _, _⟩ := o3.form'
            have hz := q.lt
            have q := q.mod m n1 n2
            have hS := hS.mod m n6
            have bb := bb.thenM m bb.size n2
            (try simp only [Act.put, List.setIfInBounds_toArray]); (try simp only [List.set_cons_succ]); (try simp only [List.set_cons_zero])
            refine r_flt (RM_refl _) 4 60 #[true, true, true, true, true, true, true, true, false, false, false, false] (by simp only [List.getElem?_toArray, List.getElem?_cons_succ, List.getElem?_cons_zero]; rfl) (by rfl) (by kernel_rfl) (by kernel_rfl) (by kernel_rfl) (fun _ _ _ _ h => h) rfl (by rfl) ?_
            apply Exists.intro
            apply And.intro
            · intro W hW
              have t := str_in o3 e3.out hW (fun k hk hx => by have hx : k = g ∨ k = B := hx; omega)
              go_simp; rfl
            (try simp only [Act.put, List.setIfInBounds_toArray]); (try simp only [List.set_cons_succ]); (try simp only [List.set_cons_zero])
            refine r_one (RM_trans _) 8 (by kernel_rfl) ?_
            refine alt_call 64 #[true, true, true, true, true, true, true, true, true, false, false, false] (by simp only [List.getElem?_toArray, List.getElem?_cons_succ, List.getElem?_cons_zero]; rfl) (by rfl) rfl (by rfl) (by go_simp; first | exact ⟨rfl, rfl⟩ | rfl) ?_
            with_reducible refine (rBlob_any B _ s s2 _ q).mono ?_
            rintro e wd4 ⟨A4, c4, rfl, r4, _, _, q, m⟩
            refine ⟨_, rfl, m.mono (fun _ _ h => .inr h), ?_⟩
            have r := r.mod m n3 n4
            have hS := hS.mod m n7
            have bb := bb.thenM m bb.size n5
            (try simp only [Act.put, List.setIfInBounds_toArray]); (try simp only [List.set_cons_succ]); (try simp only [List.set_cons_zero])
            refine r_flt (RM_refl _) 9 65 #[true, true, true, true, true, true, true, true, true, true, false, false] (by simp only [List.getElem?_toArray, List.getElem?_cons_succ, List.getElem?_cons_zero]; rfl) (by rfl) (by kernel_rfl) (by kernel_rfl) (by kernel_rfl) (fun _ _ _ _ h => h) rfl (by rfl) ?_
            apply Exists.intro
            apply And.intro
            · intro W hW
              have t := str_rd (c := c4) (Rd.mod r4 hW n10) rfl
              go_simp; rfl
            (try simp only [Act.put, List.setIfInBounds_toArray]); (try simp only [List.set_cons_succ]); (try simp only [List.set_cons_zero])
            refine r_flt (RM_refl _) 10 66 #[true, true, true, true, true, true, true, true, true, true, true, false] (by simp only [List.getElem?_toArray, List.getElem?_cons_succ, List.getElem?_cons_zero]; rfl) (by rfl) (by kernel_rfl) (by kernel_rfl) (by kernel_rfl) (fun _ _ _ _ h => h) rfl (by rfl) ?_
            apply Exists.intro
            apply And.intro
            · intro W hW
              go_simp; rfl
            (try simp only [Act.put, List.setIfInBounds_toArray]); (try simp only [List.set_cons_succ]); (try simp only [List.set_cons_zero])
            refine r_flt (RM_refl _) 11 10 #[true, true, true, true, true, true, true, true, true, true, true, true] (by simp only [List.getElem?_toArray, List.getElem?_cons_succ, List.getElem?_cons_zero]; rfl) (by rfl) (by kernel_rfl) (by kernel_rfl) (by kernel_rfl) (fun _ _ _ _ h => h) rfl (by rfl) ?_
            apply Exists.intro
            apply And.intro
            · intro W hW
              first | (go_simp; with_reducible rfl) | go_simp
            (try simp only [Act.put, List.setIfInBounds_toArray]); (try simp only [List.set_cons_succ]); (try simp only [List.set_cons_zero])
            refine r_done (by kernel_rfl) ?_
            go_wp2_with fail
            go_meet
            exact ⟨rfl, ⟨_, r, q⟩, bb⟩
          · go_wp2_with fail
            refine r_start (R := (RM (fun b => b = g ∨ b = B))) (by rfl) (n := 14) (L := #[false, false, false, false, false, false, false, false, false, false, false, false, false, false]) rfl rfl ?_
            have bd : Below wq.heap.size wq wq.drew := (Below.refl _ _).drew
            have r := r.below bd
            have q := q.below bd
            have hS := hS.below bd
            have bb := bb.thenB' bd
            generalize wq.drew = wd at *
            clear bd
            refine r_flt (RM_refl _) 0 70 #[true, false, false, false, false, false, false, false, false, false, false, false, false, false] (by simp only [List.getElem?_toArray, List.getElem?_cons_zero]; rfl) (by rfl) (by kernel_rfl) (by kernel_rfl) (by kernel_rfl) (fun _ _ _ _ h => h) rfl (by rfl) ?_
            apply Exists.intro
            apply And.intro
            · intro W hW
              first | (go_simp; with_reducible rfl) | go_simp
            (try simp only [Act.put, List.setIfInBounds_toArray]); (try simp only [List.set_cons_succ]); (try simp only [List.set_cons_zero])
            refine r_flt (RM_refl _) 1 71 #[true, true, false, false, false, false, false, false, false, false, false, false, false, false] (by simp only [List.getElem?_toArray, List.getElem?_cons_succ, List.getElem?_cons_zero]; rfl) (by rfl) (by kernel_rfl) (by kernel_rfl) (by kernel_rfl) (fun _ _ _ _ h => h) rfl (by rfl) ?_
            apply Exists.intro
            apply And.intro
            · intro W hW
              first | (go_simp; with_reducible rfl) | go_simp
            (try simp only [Act.put, List.setIfInBounds_toArray]); (try simp only [List.set_cons_succ]); (try simp only [List.set_cons_zero])
            refine r_flt (RM_refl _) 2 72 #[true, true, true, false, false, false, false, false, false, false, false, false, false, false] (by simp only [List.getElem?_toArray, List.getElem?_cons_succ, List.getElem?_cons_zero]; rfl) (by rfl) (by kernel_rfl) (by kernel_rfl) (by kernel_rfl) (fun _ _ _ _ h => h) rfl (by rfl) ?_
            apply Exists.intro
            apply And.intro
            · intro W hW
              have c := (hS.mod hW n8).cell 1
              simp at c
              go_simp; rfl
            (try simp only [Act.put, List.setIfInBounds_toArray]); (try simp only [List.set_cons_succ]); (try simp only [List.set_cons_zero])
            refine r_flt (RM_refl _) 3 73 #[true, true, true, true, false, false, false, false, false, false, false, false, false, false] (by simp only [List.getElem?_toArray, List.getElem?_cons_succ, List.getElem?_cons_zero]; rfl) (by rfl) (by kernel_rfl) (by kernel_rfl) (by kernel_rfl) (fun _ _ _ _ h => h) rfl (by rfl) ?_
            apply Exists.intro
            apply And.intro
            · intro W hW
              first | (go_simp; with_reducible rfl) | go_simp
            (try simp only [Act.put, List.setIfInBounds_toArray]); (try simp only [List.set_cons_succ]); (try simp only [List.set_cons_zero])
            refine r_flt (RM_refl _) 4 74 #[true, true, true, true, true, false, false, false, false, false, false, false, false, false] (by simp only [List.getElem?_toArray, List.getElem?_cons_succ, List.getElem?_cons_zero]; rfl) (by rfl) (by kernel_rfl) (by kernel_rfl) (by kernel_rfl) (fun _ _ _ _ h => h) rfl (by rfl) ?_
            apply Exists.intro
            apply And.intro
            · intro W hW
              have c := (hS.mod hW n8).cell 2
              simp at c
              go_simp; rfl
            (try simp only [Act.put, List.setIfInBounds_toArray]); (try simp only [List.set_cons_succ]); (try simp only [List.set_cons_zero])
            refine r_flt (RM_refl _) 6 76 #[true, true, true, true, true, false, true, false, false, false, false, false, false, false] (by simp only [List.getElem?_toArray, List.getElem?_cons_succ, List.getElem?_cons_zero]; rfl) (by rfl) (by kernel_rfl) (by kernel_rfl) (by kernel_rfl) (fun _ _ _ _ h => h) rfl (by rfl) ?_
            apply Exists.intro
            apply And.intro
            · intro W hW
              first | (go_simp; with_reducible rfl) | go_simp
            (try simp only [Act.put, List.setIfInBounds_toArray]); (try simp only [List.set_cons_succ]); (try simp only [List.set_cons_zero])
            refine r_flt (RM_refl _) 7 77 #[true, true, true, true, true, false, true, true, false, false, false, false, false, false] (by simp only [List.getElem?_toArray, List.getElem?_cons_succ, List.getElem?_cons_zero]; rfl) (by rfl) (by kernel_rfl) (by kernel_rfl) (by kernel_rfl) (fun _ _ _ _ h => h) rfl (by rfl) ?_
            apply Exists.intro
            apply And.intro
            · intro W hW
              first | (go_simp; with_reducible rfl) | go_simp
            (try simp only [Act.put, List.setIfInBounds_toArray]); (try simp only [List.set_cons_succ]); (try simp only [List.set_cons_zero])
            refine r_flt (RM_refl _) 8 78 #[true, true, true, true, true, false, true, true, true, false, false, false, false, false] (by simp only [List.getElem?_toArray, List.getElem?_cons_succ, List.getElem?_cons_zero]; rfl) (by rfl) (by kernel_rfl) (by kernel_rfl) (by kernel_rfl) (fun _ _ _ _ h => h) rfl (by rfl) ?_
            apply Exists.intro
            apply And.intro
            · intro W hW
              have c := (hS.mod hW n8).cell 1
              simp at c
              go_simp; rfl
            (try simp only [Act.put, List.setIfInBounds_toArray]); (try simp only [List.set_cons_succ]); (try simp only [List.set_cons_zero])
            refine r_flt (RM_refl _) 9 79 #[true, true, true, true, true, false, true, true, true, true, false, false, false, false] (by simp only [List.getElem?_toArray, List.getElem?_cons_succ, List.getElem?_cons_zero]; rfl) (by rfl) (by kernel_rfl) (by kernel_rfl) (by kernel_rfl) (fun _ _ _ _ h => h) rfl (by rfl) ?_
            apply Exists.intro
            apply And.intro
            · intro W hW
              first | (go_simp; with_reducible rfl) | go_simp
            (try simp only [Act.put, List.setIfInBounds_toArray]); (try simp only [List.set_cons_succ]); (try simp only [List.set_cons_zero])
            refine r_flt (RM_refl _) 10 80 #[true, true, true, true, true, false, true, true, true, true, true, false, false, false] (by simp only [List.getElem?_toArray, List.getElem?_cons_succ, List.getElem?_cons_zero]; rfl) (by rfl) (by kernel_rfl) (by kernel_rfl) (by kernel_rfl) (fun _ _ _ _ h => h) rfl (by rfl) ?_
            apply Exists.intro
            apply And.intro
            · intro W hW
              have c := (hS.mod hW n8).cell 2
              simp at c
              go_simp; rfl
            (try simp only [Act.put, List.setIfInBounds_toArray]); (try simp only [List.set_cons_succ]); (try simp only [List.set_cons_zero])
            refine r_one (RM_trans _) 5 (by kernel_rfl) ?_
            refine alt_call 75 #[true, true, true, true, true, true, true, true, true, true, true, false, false, false] (by simp only [List.getElem?_toArray, List.getElem?_cons_succ, List.getElem?_cons_zero]; rfl) (by rfl) rfl (by rfl) (by go_simp; first | exact ⟨rfl, rfl⟩ | rfl) ?_
            with_reducible refine (Nums_any' g _ s s1 s2 _ r).mono ?_
            rintro e wd3 ⟨v3, rfl, o3, r, m⟩
            refine ⟨_, rfl, m.mono (fun _ _ h => .inl h), ?_⟩
            obtain ⟨A3, c3, rfl, _, _⟩ := o3.form
            have hz := q.lt
            have q := q.mod m n1 n2
            have hS := hS.mod m n6
            have bb := bb.thenM m bb.size n2
            (try simp only [Act.put, List.setIfInBounds_toArray]); (try simp only [List.set_cons_succ]); (try simp only [List.set_cons_zero])
            refine r_one (RM_trans _) 11 (by kernel_rfl) ?_
            refine alt_call 81 #[true, true, true, true, true, true, true, true, true, true, true, true, false, false] (by simp only [List.getElem?_toArray, List.getElem?_cons_succ, List.getElem?_cons_zero]; rfl) (by rfl) rfl (by rfl) (by go_simp; first | exact ⟨rfl, rfl⟩ | rfl) ?_
            with_reducible refine (rNums_any B _ s s1 s2 _ q).mono ?_
            rintro e wd4 ⟨v4, rfl, o4, q, m⟩
            refine ⟨_, rfl, m.mono (fun _ _ h => .inr h), ?_⟩
            obtain ⟨A4, c4, rfl, _, _⟩ := o4.form
            have o3 := o3.mod m (fun k hk h => by have h : k = B := h; omega)
            have r := r.mod m n3 n4
            have hS := hS.mod m n7
            have bb := bb.thenM m bb.size n5
            (try simp only [Act.put, List.setIfInBounds_toArray]); (try simp only [List.set_cons_succ]); (try simp only [List.set_cons_zero])
            refine r_one (RM_trans _) 12 (by kernel_rfl) ?_
            refine alt_call 82 #[true, true, true, true, true, true, true, true, true, true, true, true, true, false] (by simp only [List.getElem?_toArray, List.getElem?_cons_succ, List.getElem?_cons_zero]; rfl) (by rfl) rfl (by rfl) (by go_simp; first | exact ⟨rfl, rfl⟩ | rfl) ?_
            with_reducible refine (Ints_yes _ _ A3 A4 _ c3 c4 _ rfl o3.rd o4.rd (by have := rNums_len s1 s2 s; unfold big; omega)).mono ?_
            rintro e wd5 ⟨rfl, b5⟩
            refine ⟨_, rfl, Mod.of_below b5 _, ?_⟩
            have r := r.below b5
            have q := q.below b5
            have bb := bb.thenB' b5
            (try simp only [Act.put, List.setIfInBounds_toArray]); (try simp only [List.set_cons_succ]); (try simp only [List.set_cons_zero])
            refine r_flt (RM_refl _) 13 10 #[true, true, true, true, true, true, true, true, true, true, true, true, true, true] (by simp only [List.getElem?_toArray, List.getElem?_cons_succ, List.getElem?_cons_zero]; rfl) (by rfl) (by kernel_rfl) (by kernel_rfl) (by kernel_rfl) (fun _ _ _ _ h => h) rfl (by rfl) ?_
            apply Exists.intro
            apply And.intro
            · intro W hW
              first | (go_simp; with_reducible rfl) | go_simp
            (try simp only [Act.put, List.setIfInBounds_toArray]); (try simp only [List.set_cons_succ]); (try simp only [List.set_cons_zero])
            refine r_done (by kernel_rfl) ?_
            go_wp2_with fail
            go_meet
            exact ⟨rfl, ⟨_, r, q⟩, bb⟩
          · go_wp2_with fail
            refine r_start (R := (RM (fun b => b = g ∨ b = B))) (by rfl) (n := 14) (L := #[false, false, false, false, false, false, false, false, false, false, false, false, false, false]) rfl rfl ?_
            have bd : Below wq.heap.size wq wq.drew := (Below.refl _ _).drew
            have r := r.below bd
            have q := q.below bd
            have hS := hS.below bd
            have bb := bb.thenB' bd
            generalize wq.drew = wd at *
            clear bd
            refine r_flt (RM_refl _) 0 70 #[true, false, false, false, false, false, false, false, false, false, false, false, false, false] (by simp only [List.getElem?_toArray, List.getElem?_cons_zero]; rfl) (by rfl) (by kernel_rfl) (by kernel_rfl) (by kernel_rfl) (fun _ _ _ _ h => h) rfl (by rfl) ?_
            apply Exists.intro
            apply And.intro
            · intro W hW
              first | (go_simp; with_reducible rfl) | go_simp
            (try simp only [Act.put, List.setIfInBounds_toArray]); (try simp only [List.set_cons_succ]); (try simp only [List.set_cons_zero])
            refine r_flt (RM_refl _) 1 71 #[true, true, false, false, false, false, false, false, false, false, false, false, false, false] (by simp only [List.getElem?_toArray, List.getElem?_cons_succ, List.getElem?_cons_zero]; rfl) (by rfl) (by kernel_rfl) (by kernel_rfl) (by kernel_rfl) (fun _ _ _ _ h => h) rfl (by rfl) ?_
            apply Exists.intro
            apply And.intro
            · intro W hW
              first | (go_simp; with_reducible rfl) | go_simp
            (try simp only [Act.put, List.setIfInBounds_toArray]); (try simp only [List.set_cons_succ]); (try simp only [List.set_cons_zero])
            refine r_flt (RM_refl _) 2 72 #[true, true, true, false, false, false, false, false, false, false, false, false, false, false] (by simp only [List.getElem?_toArray, List.getElem?_cons_succ, List.getElem?_cons_zero]; rfl) (by rfl) (by kernel_rfl) (by kernel_rfl) (by kernel_rfl) (fun _ _ _ _ h => h) rfl (by rfl) ?_
            apply Exists.intro
            apply And.intro
            · intro W hW
              have c := (hS.mod hW n8).cell 1
              simp at c
              go_simp; rfl
            (try simp only [Act.put, List.setIfInBounds_toArray]); (try simp only [List.set_cons_succ]); (try simp only [List.set_cons_zero])
            refine r_flt (RM_refl _) 3 73 #[true, true, true, true, false, false, false, false, false, false, false, false, false, false] (by simp only [List.getElem?_toArray, List.getElem?_cons_succ, List.getElem?_cons_zero]; rfl) (by rfl) (by kernel_rfl) (by kernel_rfl) (by kernel_rfl) (fun _ _ _ _ h => h) rfl (by rfl) ?_
            apply Exists.intro
            apply And.intro
            · intro W hW
              first | (go_simp; with_reducible rfl) | go_simp
            (try simp only [Act.put, List.setIfInBounds_toArray]); (try simp only [List.set_cons_succ]); (try simp only [List.set_cons_zero])
            refine r_flt (RM_refl _) 4 74 #[true, true, true, true, true, false, false, false, false, false, false, false, false, false] (by simp only [List.getElem?_toArray, List.getElem?_cons_succ, List.getElem?_cons_zero]; rfl) (by rfl) (by kernel_rfl) (by kernel_rfl) (by kernel_rfl) (fun _ _ _ _ h => h) rfl (by rfl) ?_
            apply Exists.intro
            apply And.intro
            · intro W hW
              have c := (hS.mod hW n8).cell 2
              simp at c
              go_simp; rfl
            (try simp only [Act.put, List.setIfInBounds_toArray]); (try simp only [List.set_cons_succ]); (try simp only [List.set_cons_zero])
            refine r_flt (RM_refl _) 6 76 #[true, true, true, true, true, false, true, false, false, false, false, false, false, false] (by simp only [List.getElem?_toArray, List.getElem?_cons_succ, List.getElem?_cons_zero]; rfl) (by rfl) (by kernel_rfl) (by kernel_rfl) (by kernel_rfl) (fun _ _ _ _ h => h) rfl (by rfl) ?_
            apply Exists.intro
            apply And.intro
            · intro W hW
              first | (go_simp; with_reducible rfl) | go_simp
            (try simp only [Act.put, List.setIfInBounds_toArray]); (try simp only [List.set_cons_succ]); (try simp only [List.set_cons_zero])
            refine r_flt (RM_refl _) 7 77 #[true, true, true, true, true, false, true, true, false, false, false, false, false, false] (by simp only [List.getElem?_toArray, List.getElem?_cons_succ, List.getElem?_cons_zero]; rfl) (by rfl) (by kernel_rfl) (by kernel_rfl) (by kernel_rfl) (fun _ _ _ _ h => h) rfl (by rfl) ?_
            apply Exists.intro
            apply And.intro
            · intro W hW
              first | (go_simp; with_reducible rfl) | go_simp
            (try simp only [Act.put, List.setIfInBounds_toArray]); (try simp only [List.set_cons_succ]); (try simp only [List.set_cons_zero])
            refine r_flt (RM_refl _) 8 78 #[true, true, true, true, true, false, true, true, true, false, false, false, false, false] (by simp only [List.getElem?_toArray, List.getElem?_cons_succ, List.getElem?_cons_zero]; rfl) (by rfl) (by kernel_rfl) (by kernel_rfl) (by kernel_rfl) (fun _ _ _ _ h => h) rfl (by rfl) ?_
            apply Exists.intro
            apply And.intro
            · intro W hW
              have c := (hS.mod hW n8).cell 1
              simp at c
              go_simp; rfl
            (try simp only [Act.put, List.setIfInBounds_toArray]); (try simp only [List.set_cons_succ]); (try simp only [List.set_cons_zero])
            refine r_flt (RM_refl _) 9 79 #[true, true, true, true, true, false, true, true, true, true, false, false, false, false] (by simp only [List.getElem?_toArray, List.getElem?_cons_succ, List.getElem?_cons_zero]; rfl) (by rfl) (by kernel_rfl) (by kernel_rfl) (by kernel_rfl) (fun _ _ _ _ h => h) rfl (by rfl) ?_
            apply Exists.intro
            apply And.intro
            · intro W hW
              first | (go_simp; with_reducible rfl) | go_simp
            (try simp only [Act.put, List.setIfInBounds_toArray]); (try simp only [List.set_cons_succ]); (try simp only [List.set_cons_zero])
            refine r_flt (RM_refl _) 10 80 #[true, true, true, true, true, false, true, true, true, true, true, false, false, false] (by simp only [List.getElem?_toArray, List.getElem?_cons_succ, List.getElem?_cons_zero]; rfl) (by rfl) (by kernel_rfl) (by kernel_rfl) (by kernel_rfl) (fun _ _ _ _ h => h) rfl (by rfl) ?_
            apply Exists.intro
            apply And.intro
            · intro W hW
              have c := (hS.mod hW n8).cell 2
              simp at c
              go_simp; rfl
            (try simp only [Act.put, List.setIfInBounds_toArray]); (try simp only [List.set_cons_succ]); (try simp only [List.set_cons_zero])
            refine r_one (RM_trans _) 5 (by kernel_rfl) ?_
            refine alt_call 75 #[true, true, true, true, true, true, true, true, true, true, true, false, false, false] (by simp only [List.getElem?_toArray, List.getElem?_cons_succ, List.getElem?_cons_zero]; rfl) (by rfl) rfl (by rfl) (by go_simp; first | exact ⟨rfl, rfl⟩ | rfl) ?_
            with_reducible refine (Nums_any' g _ s s1 s2 _ r).mono ?_
            rintro e wd3 ⟨v3, rfl, o3, r, m⟩
            refine ⟨_, rfl, m.mono (fun _ _ h => .inl h), ?_⟩
            obtain ⟨A3, c3, rfl, _, _⟩ := o3.form
            have hz := q.lt
            have q := q.mod m n1 n2
            have hS := hS.mod m n6
            have bb := bb.thenM m bb.size n2
            (try simp only [Act.put, List.setIfInBounds_toArray]); (try simp only [List.set_cons_succ]); (try simp only [List.set_cons_zero])
            refine r_one (RM_trans _) 11 (by kernel_rfl) ?_
            refine alt_call 81 #[true, true, true, true, true, true, true, true, true, true, true, true, false, false] (by simp only [List.getElem?_toArray, List.getElem?_cons_succ, List.getElem?_cons_zero]; rfl) (by rfl) rfl (by rfl) (by go_simp; first | exact ⟨rfl, rfl⟩ | rfl) ?_
            with_reducible refine (rNums_any B _ s s1 s2 _ q).mono ?_
            rintro e wd4 ⟨v4, rfl, o4, q, m⟩
            refine ⟨_, rfl, m.mono (fun _ _ h => .inr h), ?_⟩
            obtain ⟨A4, c4, rfl, _, _⟩ := o4.form
            have o3 := o3.mod m (fun k hk h => by have h : k = B := h; omega)
            have r := r.mod m n3 n4
            have hS := hS.mod m n7
            have bb := bb.thenM m bb.size n5
            (try simp only [Act.put, List.setIfInBounds_toArray]); (try simp only [List.set_cons_succ]); (try simp only [List.set_cons_zero])
            refine r_one (RM_trans _) 12 (by kernel_rfl) ?_
            refine alt_call 82 #[true, true, true, true, true, true, true, true, true, true, true, true, true, false] (by simp only [List.getElem?_toArray, List.getElem?_cons_succ, List.getElem?_cons_zero]; rfl) (by rfl) rfl (by rfl) (by go_simp; first | exact ⟨rfl, rfl⟩ | rfl) ?_
            with_reducible refine (Ints_yes _ _ A3 A4 _ c3 c4 _ rfl o3.rd o4.rd (by have := rNums_len s1 s2 s; unfold big; omega)).mono ?_
            rintro e wd5 ⟨rfl, b5⟩
            refine ⟨_, rfl, Mod.of_below b5 _, ?_⟩
            have r := r.below b5
            have q := q.below b5
            have bb := bb.thenB' b5
            (try simp only [Act.put, List.setIfInBounds_toArray]); (try simp only [List.set_cons_succ]); (try simp only [List.set_cons_zero])
            refine r_flt (RM_refl _) 13 10 #[true, true, true, true, true, true, true, true, true, true, true, true, true, true] (by simp only [List.getElem?_toArray, List.getElem?_cons_succ, List.getElem?_cons_zero]; rfl) (by rfl) (by kernel_rfl) (by kernel_rfl) (by kernel_rfl) (fun _ _ _ _ h => h) rfl (by rfl) ?_
            apply Exists.intro
            apply And.intro
            · intro W hW
              first | (go_simp; with_reducible rfl) | go_simp
            (try simp only [Act.put, List.setIfInBounds_toArray]); (try simp only [List.set_cons_succ]); (try simp only [List.set_cons_zero])
            refine r_done (by kernel_rfl) ?_
            go_wp2_with fail
            go_meet
            exact ⟨rfl, ⟨_, r, q⟩, bb⟩
          · have c2 := hS.cell 2
            simp at c2
            go_wp2_with fail
            with_reducible refine (Fail_any g _ s _ _ r).mono ?_
            rintro e wd3 ⟨rfl, r, m⟩
            have q := q.mod m n1 n2
            have hS := hS.mod m n6
            have bb := bb.thenM m bb.size n2
            go_wp2_with fail
            with_reducible refine (rFail_any B _ s _ _ q).mono ?_
            rintro e wd4 ⟨rfl, q, m⟩
            have r := r.mod m n3 n4
            have bb := bb.thenM m bb.size n5
            go_wp2_with fail
            go_meet
            exact ⟨rfl, ⟨_, r, q⟩, bb⟩
        case rest =>
        obtain ⟨rfl, ⟨s, r, q⟩, bb⟩ := hcut
        go_wp2_with fail
        refine r_start (R := RB) (by rfl) (n := 21) (L := #[false, false, false, false, false, false, false, false, false, false, false, false, false, false, false, false, false, false, false, false, false]) rfl rfl ?_
        have bd : Below wc.heap.size wc wc.drew := (Below.refl _ _).drew
        have r := r.below bd
        have q := q.below bd
        have bb := bb.thenB' bd
        generalize wc.drew = wd at *
        clear bd
        obtain ⟨Aq, cq, hq1, _⟩ := id q
        refine r_flt RB_refl 0 94 #[true, false, false, false, false, false, false, false, false, false, false, false, false, false, false, false, false, false, false, false, false] (by simp only [List.getElem?_toArray, List.getElem?_cons_zero]; rfl) (by rfl) (by kernel_rfl) (by kernel_rfl) (by kernel_rfl) (fun _ _ _ _ h => h) rfl (by rfl) ?_
        apply Exists.intro
        apply And.intro
        · intro W hW
          first | (go_simp; with_reducible rfl) | go_simp
        (try simp only [Act.put, List.setIfInBounds_toArray]); (try simp only [List.set_cons_succ]); (try simp only [List.set_cons_zero])
        refine r_flt RB_refl 1 95 #[true, true, false, false, false, false, false, false, false, false, false, false, false, false, false, false, false, false, false, false, false] (by simp only [List.getElem?_toArray, List.getElem?_cons_succ, List.getElem?_cons_zero]; rfl) (by rfl) (by kernel_rfl) (by kernel_rfl) (by kernel_rfl) (fun _ _ _ _ h => h) rfl (by rfl) ?_
        apply Exists.intro
        apply And.intro
        · intro W hW
          go_simp; rfl
        (try simp only [Act.put, List.setIfInBounds_toArray]); (try simp only [List.set_cons_succ]); (try simp only [List.set_cons_zero])
        refine r_flt RB_refl 2 96 #[true, true, true, false, false, false, false, false, false, false, false, false, false, false, false, false, false, false, false, false, false] (by simp only [List.getElem?_toArray, List.getElem?_cons_succ, List.getElem?_cons_zero]; rfl) (by rfl) (by kernel_rfl) (by kernel_rfl) (by kernel_rfl) (fun _ _ _ _ h => h) rfl (by rfl) ?_
        apply Exists.intro
        apply And.intro
        · intro W hW
          first | (go_simp; with_reducible rfl) | go_simp
        (try simp only [Act.put, List.setIfInBounds_toArray]); (try simp only [List.set_cons_succ]); (try simp only [List.set_cons_zero])
        refine r_flt RB_refl 3 97 #[true, true, true, true, false, false, false, false, false, false, false, false, false, false, false, false, false, false, false, false, false] (by simp only [List.getElem?_toArray, List.getElem?_cons_succ, List.getElem?_cons_zero]; rfl) (by rfl) (by kernel_rfl) (by kernel_rfl) (by kernel_rfl) (fun _ _ _ _ h => h) rfl (by rfl) ?_
        apply Exists.intro
        apply And.intro
        · intro W hW
          first | (go_simp; with_reducible rfl) | go_simp
        (try simp only [Act.put, List.setIfInBounds_toArray]); (try simp only [List.set_cons_succ]); (try simp only [List.set_cons_zero])
        refine r_flt RB_refl 5 99 #[true, true, true, true, false, true, false, false, false, false, false, false, false, false, false, false, false, false, false, false, false] (by simp only [List.getElem?_toArray, List.getElem?_cons_succ, List.getElem?_cons_zero]; rfl) (by rfl) (by kernel_rfl) (by kernel_rfl) (by kernel_rfl) (fun _ _ _ _ h => h) rfl (by rfl) ?_
        apply Exists.intro
        apply And.intro
        · intro W hW
          first | (go_simp; with_reducible rfl) | go_simp
        (try simp only [Act.put, List.setIfInBounds_toArray]); (try simp only [List.set_cons_succ]); (try simp only [List.set_cons_zero])
        refine r_flt RB_refl 6 100 #[true, true, true, true, false, true, true, false, false, false, false, false, false, false, false, false, false, false, false, false, false] (by simp only [List.getElem?_toArray, List.getElem?_cons_succ, List.getElem?_cons_zero]; rfl) (by rfl) (by kernel_rfl) (by kernel_rfl) (by kernel_rfl) (fun _ _ _ _ h => h) rfl (by rfl) ?_
        apply Exists.intro
        apply And.intro
        · intro W hW
          go_simp; rfl
        (try simp only [Act.put, List.setIfInBounds_toArray]); (try simp only [List.set_cons_succ]); (try simp only [List.set_cons_zero])
        refine r_flt RB_refl 7 101 #[true, true, true, true, false, true, true, true, false, false, false, false, false, false, false, false, false, false, false, false, false] (by simp only [List.getElem?_toArray, List.getElem?_cons_succ, List.getElem?_cons_zero]; rfl) (by rfl) (by kernel_rfl) (by kernel_rfl) (by kernel_rfl) (fun _ _ _ _ h => h) rfl (by rfl) ?_
        apply Exists.intro
        apply And.intro
        · intro W hW
          first | (go_simp; with_reducible rfl) | go_simp
        (try simp only [Act.put, List.setIfInBounds_toArray]); (try simp only [List.set_cons_succ]); (try simp only [List.set_cons_zero])
        refine r_flt RB_refl 8 102 #[true, true, true, true, false, true, true, true, true, false, false, false, false, false, false, false, false, false, false, false, false] (by simp only [List.getElem?_toArray, List.getElem?_cons_succ, List.getElem?_cons_zero]; rfl) (by rfl) (by kernel_rfl) (by kernel_rfl) (by kernel_rfl) (fun _ _ _ _ h => h) rfl (by rfl) ?_
        apply Exists.intro
        apply And.intro
        · intro W hW
          have k := (hq1.below hW).cell 0
          simp at k
          go_simp; rfl
        (try simp only [Act.put, List.setIfInBounds_toArray]); (try simp only [List.set_cons_succ]); (try simp only [List.set_cons_zero])
        refine r_flt RB_refl 9 103 #[true, true, true, true, false, true, true, true, true, true, false, false, false, false, false, false, false, false, false, false, false] (by simp only [List.getElem?_toArray, List.getElem?_cons_succ, List.getElem?_cons_zero]; rfl) (by rfl) (by kernel_rfl) (by kernel_rfl) (by kernel_rfl) (fun _ _ _ _ h => h) rfl (by rfl) ?_
        apply Exists.intro
        apply And.intro
        · intro W hW
          go_simp; rfl
        (try simp only [Act.put, List.setIfInBounds_toArray]); (try simp only [List.set_cons_succ]); (try simp only [List.set_cons_zero])
        refine r_one RB_trans 4 (by kernel_rfl) ?_
        refine alt_call 98 #[true, true, true, true, true, true, true, true, true, true, false, false, false, false, false, false, false, false, false, false, false] (by simp only [List.getElem?_toArray, List.getElem?_cons_succ, List.getElem?_cons_zero]; rfl) (by rfl) rfl (by rfl) (by go_simp; first | exact ⟨rfl, rfl⟩ | rfl) ?_
        with_reducible refine (Left_any g _ s _ r).mono ?_
        rintro e wd3 ⟨rfl, rfl⟩
        refine ⟨_, rfl, RB_refl _, ?_⟩
        (try simp only [Act.put, List.setIfInBounds_toArray]); (try simp only [List.set_cons_succ]); (try simp only [List.set_cons_zero])
        refine r_flt RB_refl 10 104 #[true, true, true, true, true, true, true, true, true, true, true, false, false, false, false, false, false, false, false, false, false] (by simp only [List.getElem?_toArray, List.getElem?_cons_succ, List.getElem?_cons_zero]; rfl) (by rfl) (by kernel_rfl) (by kernel_rfl) (by kernel_rfl) (fun _ _ _ _ h => h) rfl (by rfl) ?_
        apply Exists.intro
        apply And.intro
        · intro W hW
          go_simp; rfl
        (try simp only [Act.put, List.setIfInBounds_toArray]); (try simp only [List.set_cons_succ]); (try simp only [List.set_cons_zero])
        refine r_flt RB_refl 11 105 #[true, true, true, true, true, true, true, true, true, true, true, true, false, false, false, false, false, false, false, false, false] (by simp only [List.getElem?_toArray, List.getElem?_cons_succ, List.getElem?_cons_zero]; rfl) (by rfl) (by kernel_rfl) (by kernel_rfl) (by kernel_rfl) (fun _ _ _ _ h => h) rfl (by rfl) ?_
        apply Exists.intro
        apply And.intro
        · intro W hW
          first | (go_simp; with_reducible rfl) | go_simp
        (try simp only [Act.put, List.setIfInBounds_toArray]); (try simp only [List.set_cons_succ]); (try simp only [List.set_cons_zero])
        refine r_flt RB_refl 12 106 #[true, true, true, true, true, true, true, true, true, true, true, true, true, false, false, false, false, false, false, false, false] (by simp only [List.getElem?_toArray, List.getElem?_cons_succ, List.getElem?_cons_zero]; rfl) (by rfl) (by kernel_rfl) (by kernel_rfl) (by kernel_rfl) (fun _ _ _ _ h => h) rfl (by rfl) ?_
        apply Exists.intro
        apply And.intro
        · intro W hW
          first | (go_simp; with_reducible rfl) | go_simp
        (try simp only [Act.put, List.setIfInBounds_toArray]); (try simp only [List.set_cons_succ]); (try simp only [List.set_cons_zero])
        refine r_flt RB_refl 13 107 #[true, true, true, true, true, true, true, true, true, true, true, true, true, true, false, false, false, false, false, false, false] (by simp only [List.getElem?_toArray, List.getElem?_cons_succ, List.getElem?_cons_zero]; rfl) (by rfl) (by kernel_rfl) (by kernel_rfl) (by kernel_rfl) (fun _ _ _ _ h => h) rfl (by rfl) ?_
        apply Exists.intro
        apply And.intro
        · intro W hW
          first | (go_simp; with_reducible rfl) | go_simp
        (try simp only [Act.put, List.setIfInBounds_toArray]); (try simp only [List.set_cons_succ]); (try simp only [List.set_cons_zero])
        refine r_flt RB_refl 15 109 #[true, true, true, true, true, true, true, true, true, true, true, true, true, true, false, true, false, false, false, false, false] (by simp only [List.getElem?_toArray, List.getElem?_cons_succ, List.getElem?_cons_zero]; rfl) (by rfl) (by kernel_rfl) (by kernel_rfl) (by kernel_rfl) (fun _ _ _ _ h => h) rfl (by rfl) ?_
        apply Exists.intro
        apply And.intro
        · intro W hW
          first | (go_simp; with_reducible rfl) | go_simp
        (try simp only [Act.put, List.setIfInBounds_toArray]); (try simp only [List.set_cons_succ]); (try simp only [List.set_cons_zero])
        refine r_flt RB_refl 16 110 #[true, true, true, true, true, true, true, true, true, true, true, true, true, true, false, true, true, false, false, false, false] (by simp only [List.getElem?_toArray, List.getElem?_cons_succ, List.getElem?_cons_zero]; rfl) (by rfl) (by kernel_rfl) (by kernel_rfl) (by kernel_rfl) (fun _ _ _ _ h => h) rfl (by rfl) ?_
        apply Exists.intro
        apply And.intro
        · intro W hW
          go_simp; rfl
        (try simp only [Act.put, List.setIfInBounds_toArray]); (try simp only [List.set_cons_succ]); (try simp only [List.set_cons_zero])
        refine r_flt RB_refl 17 111 #[true, true, true, true, true, true, true, true, true, true, true, true, true, true, false, true, true, true, false, false, false] (by simp only [List.getElem?_toArray, List.getElem?_cons_succ, List.getElem?_cons_zero]; rfl) (by rfl) (by kernel_rfl) (by kernel_rfl) (by kernel_rfl) (fun _ _ _ _ h => h) rfl (by rfl) ?_
        apply Exists.intro
        apply And.intro
        · intro W hW
          first | (go_simp; with_reducible rfl) | go_simp
        (try simp only [Act.put, List.setIfInBounds_toArray]); (try simp only [List.set_cons_succ]); (try simp only [List.set_cons_zero])
        refine r_flt RB_refl 18 112 #[true, true, true, true, true, true, true, true, true, true, true, true, true, true, false, true, true, true, true, false, false] (by simp only [List.getElem?_toArray, List.getElem?_cons_succ, List.getElem?_cons_zero]; rfl) (by rfl) (by kernel_rfl) (by kernel_rfl) (by kernel_rfl) (fun _ _ _ _ h => h) rfl (by rfl) ?_
        apply Exists.intro
        apply And.intro
        · intro W hW
          have k := (hq1.below hW).cell 1
          simp at k
          go_simp; rfl
        (try simp only [Act.put, List.setIfInBounds_toArray]); (try simp only [List.set_cons_succ]); (try simp only [List.set_cons_zero])
        refine r_one RB_trans 14 (by kernel_rfl) ?_
        refine alt_call 108 #[true, true, true, true, true, true, true, true, true, true, true, true, true, true, true, true, true, true, true, false, false] (by simp only [List.getElem?_toArray, List.getElem?_cons_succ, List.getElem?_cons_zero]; rfl) (by rfl) rfl (by rfl) (by go_simp; first | exact ⟨rfl, rfl⟩ | rfl) ?_
        with_reducible refine (Err_any g _ s _ r).mono ?_
        rintro e wd4 ⟨rfl, rfl⟩
        refine ⟨_, rfl, RB_refl _, ?_⟩
        (try simp only [Act.put, List.setIfInBounds_toArray]); (try simp only [List.set_cons_succ]); (try simp only [List.set_cons_zero])
        refine r_flt RB_refl 19 113 #[true, true, true, true, true, true, true, true, true, true, true, true, true, true, true, true, true, true, true, true, false] (by simp only [List.getElem?_toArray, List.getElem?_cons_succ, List.getElem?_cons_zero]; rfl) (by rfl) (by kernel_rfl) (by kernel_rfl) (by kernel_rfl) (fun _ _ _ _ h => h) rfl (by rfl) ?_
        apply Exists.intro
        apply And.intro
        · intro W hW
          go_simp; rfl
        (try simp only [Act.put, List.setIfInBounds_toArray]); (try simp only [List.set_cons_succ]); (try simp only [List.set_cons_zero])
        refine r_flt RB_refl 20 114 #[true, true, true, true, true, true, true, true, true, true, true, true, true, true, true, true, true, true, true, true, true] (by simp only [List.getElem?_toArray, List.getElem?_cons_succ, List.getElem?_cons_zero]; rfl) (by rfl) (by kernel_rfl) (by kernel_rfl) (by kernel_rfl) (fun _ _ _ _ h => h) rfl (by rfl) ?_
        apply Exists.intro
        apply And.intro
        · intro W hW
          first | (go_simp; with_reducible rfl) | go_simp
        (try simp only [Act.put, List.setIfInBounds_toArray]); (try simp only [List.set_cons_succ]); (try simp only [List.set_cons_zero])
        refine r_done (by kernel_rfl) ?_
        go_wp2_with fail
        go_roundw
        case rel => exact ⟨k + 1, by omega, by go_num, ⟨_, r, q⟩, bb⟩
        case measure => simp [intOf]; omega
      · by_cases hk2 : k < L.length
        focus skip
        rotate_left
        focus skip
        all_goals
        go_wp2_with fail
        refine r_start (R := (RM (fun b => b = g ∨ b = B))) (by rfl) (n := 15) (L := #[false, false, false, false, false, false, false, false, false, false, false, false, false, false, false]) rfl rfl ?_
        have bd : Below wr.heap.size wr wr.drew := (Below.refl _ _).drew
        have r := r.below bd
        have q := q.below bd
        have bb := bb.thenB' bd
        generalize wr.drew = wd at *
        clear bd
        refine r_flt (RM_refl _) 0 115 #[true, false, false, false, false, false, false, false, false, false, false, false, false, false, false] (by simp only [List.getElem?_toArray, List.getElem?_cons_zero]; rfl) (by rfl) (by kernel_rfl) (by kernel_rfl) (by kernel_rfl) (fun _ _ _ _ h => h) rfl (by rfl) ?_
        apply Exists.intro
        apply And.intro
        · intro W hW
          first | (go_simp; with_reducible rfl) | go_simp
        (try simp only [Act.put, List.setIfInBounds_toArray]); (try simp only [List.set_cons_succ]); (try simp only [List.set_cons_zero])
        refine r_flt (RM_refl _) 2 117 #[true, false, true, false, false, false, false, false, false, false, false, false, false, false, false] (by simp only [List.getElem?_toArray, List.getElem?_cons_succ, List.getElem?_cons_zero]; rfl) (by rfl) (by kernel_rfl) (by kernel_rfl) (by kernel_rfl) (fun _ _ _ _ h => h) rfl (by rfl) ?_
        apply Exists.intro
        apply And.intro
        · intro W hW
          first | (go_simp; with_reducible rfl) | go_simp
        (try simp only [Act.put, List.setIfInBounds_toArray]); (try simp only [List.set_cons_succ]); (try simp only [List.set_cons_zero])
        refine r_one (RM_trans _) 1 (by kernel_rfl) ?_
        refine alt_call 116 #[true, true, true, false, false, false, false, false, false, false, false, false, false, false, false] (by simp only [List.getElem?_toArray, List.getElem?_cons_succ, List.getElem?_cons_zero]; rfl) (by rfl) rfl (by rfl) (by go_simp; first | exact ⟨rfl, rfl⟩ | rfl) ?_
        with_reducible refine (End_any g _ s _ r).mono ?_
        rintro e wd3 ⟨rfl, r, m⟩
        refine ⟨_, rfl, m.mono (fun _ _ h => .inl h), ?_⟩
        have q := q.mod m n1 n2
        have bb := bb.thenM m bb.size n2
        (try simp only [Act.put, List.setIfInBounds_toArray]); (try simp only [List.set_cons_succ]); (try simp only [List.set_cons_zero])
        refine r_one (RM_trans _) 3 (by kernel_rfl) ?_
        refine alt_call 118 #[true, true, true, true, false, false, false, false, false, false, false, false, false, false, false] (by simp only [List.getElem?_toArray, List.getElem?_cons_succ, List.getElem?_cons_zero]; rfl) (by rfl) rfl (by rfl) (by go_simp; first | exact ⟨rfl, rfl⟩ | rfl) ?_
        with_reducible refine (rEnd_any B _ s _ q).mono ?_
        rintro e wd4 ⟨rfl, q, m⟩
        refine ⟨_, rfl, m.mono (fun _ _ h => .inr h), ?_⟩
        obtain ⟨Aq, cq, hq1, _⟩ := id q
        have k1 := hq1.cell 1
        simp at k1
        have r := r.mod m n3 n4
        have bb := bb.thenM m bb.size n5
        (try simp only [Act.put, List.setIfInBounds_toArray]); (try simp only [List.set_cons_succ]); (try simp only [List.set_cons_zero])
        refine r_flt (RM_refl _) 4 119 #[true, true, true, true, true, false, false, false, false, false, false, false, false, false, false] (by simp only [List.getElem?_toArray, List.getElem?_cons_succ, List.getElem?_cons_zero]; rfl) (by rfl) (by kernel_rfl) (by kernel_rfl) (by kernel_rfl) (fun _ _ _ _ h => h) rfl (by rfl) ?_
        apply Exists.intro
        apply And.intro
        · intro W hW
          go_simp; rfl
        (try simp only [Act.put, List.setIfInBounds_toArray]); (try simp only [List.set_cons_succ]); (try simp only [List.set_cons_zero])
        refine r_flt (RM_refl _) 5 120 #[true, true, true, true, true, true, false, false, false, false, false, false, false, false, false] (by simp only [List.getElem?_toArray, List.getElem?_cons_succ, List.getElem?_cons_zero]; rfl) (by rfl) (by kernel_rfl) (by kernel_rfl) (by kernel_rfl) (fun _ _ _ _ h => h) rfl (by rfl) ?_
        apply Exists.intro
        apply And.intro
        · intro W hW
          first | (go_simp; with_reducible rfl) | go_simp
        (try simp only [Act.put, List.setIfInBounds_toArray]); (try simp only [List.set_cons_succ]); (try simp only [List.set_cons_zero])
        refine r_flt (RM_refl _) 6 121 #[true, true, true, true, true, true, true, false, false, false, false, false, false, false, false] (by simp only [List.getElem?_toArray, List.getElem?_cons_succ, List.getElem?_cons_zero]; rfl) (by rfl) (by kernel_rfl) (by kernel_rfl) (by kernel_rfl) (fun _ _ _ _ h => h) rfl (by rfl) ?_
        apply Exists.intro
        apply And.intro
        · intro W hW
          first | (go_simp; with_reducible rfl) | go_simp
        (try simp only [Act.put, List.setIfInBounds_toArray]); (try simp only [List.set_cons_succ]); (try simp only [List.set_cons_zero])
        refine r_flt (RM_refl _) 8 123 #[true, true, true, true, true, true, true, false, true, false, false, false, false, false, false] (by simp only [List.getElem?_toArray, List.getElem?_cons_succ, List.getElem?_cons_zero]; rfl) (by rfl) (by kernel_rfl) (by kernel_rfl) (by kernel_rfl) (fun _ _ _ _ h => h) rfl (by rfl) ?_
        apply Exists.intro
        apply And.intro
        · intro W hW
          first | (go_simp; with_reducible rfl) | go_simp
        (try simp only [Act.put, List.setIfInBounds_toArray]); (try simp only [List.set_cons_succ]); (try simp only [List.set_cons_zero])
        refine r_flt (RM_refl _) 9 124 #[true, true, true, true, true, true, true, false, true, true, false, false, false, false, false] (by simp only [List.getElem?_toArray, List.getElem?_cons_succ, List.getElem?_cons_zero]; rfl) (by rfl) (by kernel_rfl) (by kernel_rfl) (by kernel_rfl) (fun _ _ _ _ h => h) rfl (by rfl) ?_
        apply Exists.intro
        apply And.intro
        · intro W hW
          go_simp; rfl
        (try simp only [Act.put, List.setIfInBounds_toArray]); (try simp only [List.set_cons_succ]); (try simp only [List.set_cons_zero])
        refine r_flt (RM_refl _) 10 125 #[true, true, true, true, true, true, true, false, true, true, true, false, false, false, false] (by simp only [List.getElem?_toArray, List.getElem?_cons_succ, List.getElem?_cons_zero]; rfl) (by rfl) (by kernel_rfl) (by kernel_rfl) (by kernel_rfl) (fun _ _ _ _ h => h) rfl (by rfl) ?_
        apply Exists.intro
        apply And.intro
        · intro W hW
          first | (go_simp; with_reducible rfl) | go_simp
        (try simp only [Act.put, List.setIfInBounds_toArray]); (try simp only [List.set_cons_succ]); (try simp only [List.set_cons_zero])
        refine r_two (RM_trans _) 7 11 (by kernel_rfl) ?_ ?_
        ·
          refine alt_call 122 #[true, true, true, true, true, true, true, true, true, true, true, false, false, false, false] (by simp only [List.getElem?_toArray, List.getElem?_cons_succ, List.getElem?_cons_zero]; rfl) (by rfl) rfl (by rfl) (by go_simp; first | exact ⟨rfl, rfl⟩ | rfl) ?_
          with_reducible refine (Err_any g _ _ _ r).mono ?_
          rintro e wd5 ⟨rfl, rfl⟩
          refine ⟨_, rfl, Mod.refl _ _, ?_⟩
          (try simp only [Act.put, List.setIfInBounds_toArray]); (try simp only [List.set_cons_succ]); (try simp only [List.set_cons_zero])
          refine r_one (RM_trans _) 11 (by kernel_rfl) ?_
          refine alt_val 126 #[true, true, true, true, true, true, true, true, true, true, true, true, false, false, false] (by simp only [List.getElem?_toArray, List.getElem?_cons_succ, List.getElem?_cons_zero]; rfl) (by rfl) rfl (by rfl) (by go_simp; first | exact ⟨rfl, rfl⟩ | rfl) ?_ ?_
          · exact Mod.refl _ _
          (try simp only [Act.put, List.setIfInBounds_toArray]); (try simp only [List.set_cons_succ]); (try simp only [List.set_cons_zero])
          refine r_flt (RM_refl _) 12 127 #[true, true, true, true, true, true, true, true, true, true, true, true, true, false, false] (by simp only [List.getElem?_toArray, List.getElem?_cons_succ, List.getElem?_cons_zero]; rfl) (by rfl) (by kernel_rfl) (by kernel_rfl) (by kernel_rfl) (fun _ _ _ _ h => h) rfl (by rfl) ?_
          apply Exists.intro
          apply And.intro
          · intro W hW
            go_simp; rfl
          (try simp only [Act.put, List.setIfInBounds_toArray]); (try simp only [List.set_cons_succ]); (try simp only [List.set_cons_zero])
          refine r_flt (RM_refl _) 13 128 #[true, true, true, true, true, true, true, true, true, true, true, true, true, true, false] (by simp only [List.getElem?_toArray, List.getElem?_cons_succ, List.getElem?_cons_zero]; rfl) (by rfl) (by kernel_rfl) (by kernel_rfl) (by kernel_rfl) (fun _ _ _ _ h => h) rfl (by rfl) ?_
          apply Exists.intro
          apply And.intro
          · intro W hW
            first | (go_simp; with_reducible rfl) | go_simp
          (try simp only [Act.put, List.setIfInBounds_toArray]); (try simp only [List.set_cons_succ]); (try simp only [List.set_cons_zero])
          refine r_flt (RM_refl _) 14 4 #[true, true, true, true, true, true, true, true, true, true, true, true, true, true, true] (by simp only [List.getElem?_toArray, List.getElem?_cons_succ, List.getElem?_cons_zero]; rfl) (by rfl) (by kernel_rfl) (by kernel_rfl) (by kernel_rfl) (fun _ _ _ _ h => h) rfl (by rfl) ?_
          apply Exists.intro
          apply And.intro
          · intro W hW
            first | (go_simp; with_reducible rfl) | go_simp
          (try simp only [Act.put, List.setIfInBounds_toArray]); (try simp only [List.set_cons_succ]); (try simp only [List.set_cons_zero])
          refine r_done (by kernel_rfl) ?_
          go_wp2_with fail
          go_ret
          exact ⟨rfl, bb⟩
        ·
          refine alt_val 126 #[true, true, true, true, true, true, true, false, true, true, true, true, false, false, false] (by simp only [List.getElem?_toArray, List.getElem?_cons_succ, List.getElem?_cons_zero]; rfl) (by rfl) rfl (by rfl) (by go_simp; first | exact ⟨rfl, rfl⟩ | rfl) ?_ ?_
          · exact Mod.refl _ _
          (try simp only [Act.put, List.setIfInBounds_toArray]); (try simp only [List.set_cons_succ]); (try simp only [List.set_cons_zero])
          refine r_one (RM_trans _) 7 (by kernel_rfl) ?_
          refine alt_call 122 #[true, true, true, true, true, true, true, true, true, true, true, true, false, false, false] (by simp only [List.getElem?_toArray, List.getElem?_cons_succ, List.getElem?_cons_zero]; rfl) (by rfl) rfl (by rfl) (by go_simp; first | exact ⟨rfl, rfl⟩ | rfl) ?_
          with_reducible refine (Err_any g _ _ _ r).mono ?_
          rintro e wd5 ⟨rfl, rfl⟩
          refine ⟨_, rfl, Mod.refl _ _, ?_⟩
          (try simp only [Act.put, List.setIfInBounds_toArray]); (try simp only [List.set_cons_succ]); (try simp only [List.set_cons_zero])
          refine r_flt (RM_refl _) 12 127 #[true, true, true, true, true, true, true, true, true, true, true, true, true, false, false] (by simp only [List.getElem?_toArray, List.getElem?_cons_succ, List.getElem?_cons_zero]; rfl) (by rfl) (by kernel_rfl) (by kernel_rfl) (by kernel_rfl) (fun _ _ _ _ h => h) rfl (by rfl) ?_
          apply Exists.intro
          apply And.intro
          · intro W hW
            go_simp; rfl
          (try simp only [Act.put, List.setIfInBounds_toArray]); (try simp only [List.set_cons_succ]); (try simp only [List.set_cons_zero])
          refine r_flt (RM_refl _) 13 128 #[true, true, true, true, true, true, true, true, true, true, true, true, true, true, false] (by simp only [List.getElem?_toArray, List.getElem?_cons_succ, List.getElem?_cons_zero]; rfl) (by rfl) (by kernel_rfl) (by kernel_rfl) (by kernel_rfl) (fun _ _ _ _ h => h) rfl (by rfl) ?_
          apply Exists.intro
          apply And.intro
          · intro W hW
            first | (go_simp; with_reducible rfl) | go_simp
          (try simp only [Act.put, List.setIfInBounds_toArray]); (try simp only [List.set_cons_succ]); (try simp only [List.set_cons_zero])
          refine r_flt (RM_refl _) 14 4 #[true, true, true, true, true, true, true, true, true, true, true, true, true, true, true] (by simp only [List.getElem?_toArray, List.getElem?_cons_succ, List.getElem?_cons_zero]; rfl) (by rfl) (by kernel_rfl) (by kernel_rfl) (by kernel_rfl) (fun _ _ _ _ h => h) rfl (by rfl) ?_
          apply Exists.intro
          apply And.intro
          · intro W hW
            first | (go_simp; with_reducible rfl) | go_simp
          (try simp only [Act.put, List.setIfInBounds_toArray]); (try simp only [List.set_cons_succ]); (try simp only [List.set_cons_zero])
          refine r_done (by kernel_rfl) ?_
          go_wp2_with fail
          go_ret
          exact ⟨rfl, bb⟩
end Go.Proofs.Ytjgafklomndhlaa
