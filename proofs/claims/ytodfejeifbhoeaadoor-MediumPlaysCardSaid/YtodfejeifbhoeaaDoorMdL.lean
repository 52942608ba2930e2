/- A medium under any script beside the document's: the walk. -/
import Derived.Test.YtodfejeifbhoeaaDoorMdK
import Derived.Deep.CutBlock
import Derived.Deep.CutRange
namespace Go.Proofs.YtodfejeifbhoeaaDoor
open Go.RowKit
set_option linter.unusedVariables false

theorem recN_len : ∀ f b, (recN f b).length ≤ f
  | 0, b => Nat.le_refl _
  | f + 1, b => by
    unfold recN
    split
    · exact Nat.succ_le_succ (recN_len f _)
    · exact Nat.zero_le _
theorem recO_len (b : List UInt8) : (recO b).length ≤ b.length + 1 := recN_len _ _
theorem newS_b (room : Int) : (newS room).b = [] := rfl

set_option maxHeartbeats 8000000 in
set_option maxRecDepth 100000 in
theorem plays_walk (w : World) (ht : Tab w) (room : Int) (ir : I64 room) (A : Option Addr) (L : List AV) (c : Nat) (rl : RdL w (Old w) 4 actC A L) (l : L.length ≤ c) (mx : c ≤ 9223372036854775807) (nn : A = none → c = 0)
    (rs : ∀ s ∈ L, I64 s.kind ∧ I64 s.n ∧ RdB w (Old w) s.A s.body ∧ s.body.length ≤ s.c ∧ s.c ≤ 9223372036854775807) :
    Calls Tryd.prog 7 #[.int .i64 room, .slice A L.length c] w fun e w' => e = .returned (.bool true) ∧ Below w.heap.size w w' := by
  go_enter Tryd.func7, Tryd.ntmps7
  go_wp2_with fail
  refine (awake_any w ht).mono ?_
  rintro e w1 ⟨rfl, b1⟩
  go_wp2_with fail
  refine (New_any room w1).mono ?_
  rintro e w2 ⟨rfl, m2, b2⟩
  obtain ⟨g, hg⟩ : ∃ g, g = w1.heap.size := ⟨_, rfl⟩
  rw [← hg] at m2
  rw [← hg]
  have m2 : Med w2 w.heap.size g (.slice none 0 0) (newS room) := Med.low m2 (by have := b1.size; omega)
  have bb := b1.thenB' b2
  clear hg b2 b1
  go_wp2_with fail
  refine (rNew_any room w2).mono ?_
  rintro e w3 ⟨e3, b3⟩
  unfold mW at e3
  subst e3
  have m3 := m2.below b3
  have bb := bb.thenB' b3
  have n4 := below_new w3 (.cells (rowM (newS room) none 0 0) 43)
  have m4 := m3.below n4
  have k4 : RM (w3.alloc (.cells (rowM (newS room) none 0 0) 43)) w.heap.size g w3.heap.size (.slice none 0 0) (newS room) :=
    ⟨bb.size, fun hx => by
      rcases hx with hx | hx
      · obtain ⟨sv, q1, _⟩ := m3
        have := q1.lt
        omega
      · simp [Value.ownBlock] at hx, none, 0, Blk.new w3 _ _, Nat.le_refl _, by omega, RdB.nil⟩
  have bb := bb.thenB' n4
  unfold rowM at m4 k4 bb
  go_wp2_with fail
  generalize w3.alloc (.cells #[.slice none 0 0, .int .i64 (newS room).room, .bool (newS room).up, .int .i64 (cutI (newS room).cut)] 43) = w5 at *
  generalize w3.heap.size = gw at *
  clear m2 m3 b3 n4
  go_loopw [8, 9, 10, 11, 12, 13, 14, 15] (fun i s9 s10 s11 s12 s13 s14 s15 wr => ∃ (j : Nat) (s : MS) (v : Value), j ≤ 40 ∧ i = .int .i64 (j : Int) ∧ s.b.length ≤ 312 * j ∧ Med wr w.heap.size g v s ∧ RM wr w.heap.size g gw v s ∧ Below w.heap.size w wr) (fun i _ _ _ _ _ _ _ _ => 40 - (intOf i).toNat)
  case atStart => exact ⟨0, newS room, _, Nat.zero_le _, rfl, by rw [newS_b]; exact Nat.zero_le _, m4, k4, bb⟩
  case round =>
    clear m4 k4 bb
    obtain ⟨j, s, v, hj, rfl, hsl, hm, hk, bb⟩ := hrel
    by_cases hlt : j < L.length ∧ j < 40
    · obtain ⟨hlt, hlt40⟩ := hlt
      obtain ⟨ad, rfl, c0, c1, c2, c3⟩ := (rl.belowB bb (fun _ h => h)).act hlt
      obtain ⟨i0, i1, rj, rjl, rjm⟩ := rs L[j] (List.getElem_mem hlt)
      have rj := Rd.belowB rj bb (fun _ h => h)
      unfold cI at c0 c1
      unfold cB at c3
      generalize L[j].kind = kd at *
      generalize L[j].n = n at *
      generalize L[j].body = x at *
      generalize L[j].A = Ax at *
      generalize L[j].c = cx at *
      generalize L[j].bit = bt at *
      by_cases h300 : 300 < x.length
      · go_wp2_with fail
        go_ret
        exact ⟨rfl, bb.thenB' (below_new _ _)⟩
      · obtain ⟨z0, hz0, hz2⟩ := and_mask kd 7 (by omega)
        obtain ⟨z, hz, hz3, hz4⟩ : ∃ z : Int, bits .and .i64 kd 7 = z ∧ 0 ≤ z ∧ z ≤ 7 := ⟨z0, hz0, by omega, by omega⟩
        clear hz0 hz2
        go_upto_block 2 with fail
        have hS := Blk.new wr 30 #[.int .i64 kd, .int .i64 n, .slice Ax x.length cx, .int .u8 (bt.toNat : Int)]
        have bn := below_new wr (.cells #[.int .i64 kd, .int .i64 n, .slice Ax x.length cx, .int .u8 (bt.toNat : Int)] 30)
        have hm0 := hm
        have hm := hm.below bn
        have hk := hk.below bn
        have rj := RdB.below rj bn
        have hgx : ¬ Own2 g v wr.heap.size := fun hx => by
          obtain ⟨sv, q1, q2, _⟩ := hm0
          rcases hx with hx | hx
          · have := q1.lt; omega
          · have := own_blk q2 _ hx; omega
        have bb := bb.thenB' bn
        clear c0 c1 c2 c3
        generalize wr.alloc (.cells #[.int .i64 kd, .int .i64 n, .slice Ax x.length cx, .int .u8 (bt.toNat : Int)] 30) = wq at *
        generalize wr.heap.size = bx at *
        clear bn hm0
        have c0 := hS.cell 0
        have c1 := hS.cell 1
        have c2 := hS.cell 2
        have c3 := hS.cell 3
        simp at c0 c1 c2 c3
        go_cut [10, 11] from 23 to 135 (fun v10 v11 wx => ∃ (y : Int) (s' : MS) (v' : Value), v10 = .int .i64 y ∧ v11 = .int .i64 y ∧ s'.b.length ≤ s.b.length + 312 ∧ Med wx w.heap.size g v' s' ∧ RM wx w.heap.size g gw v' s' ∧ Below w.heap.size w wx)
        case first =>
          have hz8 : z = 0 ∨ z = 1 ∨ z = 2 ∨ z = 3 ∨ z = 4 ∨ z = 5 ∨ z = 6 ∨ z = 7 := by omega
          clear hz hz3 hz4
          have ha := Append_any w.heap.size g v s _ Ax cx n x wq hm bb.size rj (by omega) (by omega) (ht.below bb)
          rcases hz8 with rfl | rfl | rfl | rfl | rfl | rfl | rfl | rfl
          focus
            go_wp2_with fail
            refine ha.mono ?_
            clear ha
            rintro e w3 ⟨v3, rfl, m3, x3, q3⟩
            have bw := hm.bel x3 bb.size
            have k3 := hk.turned x3 q3
            have bb3 := bb.trans bw
            have hS3 := hS.mod x3 hgx
            have c0 := hS3.cell 0
            have c1 := hS3.cell 1
            have c2 := hS3.cell 2
            have c3 := hS3.cell 3
            simp at c0 c1 c2 c3
            have rj3 := Rd.belowB rj bw (fun _ h => h)
            obtain ⟨k1, k2, A3, cc3, hB3, hle, hcm, r3⟩ := id k3
            unfold rowM at hB3
            have ra := rAppend_any _ (Old w) A3 Ax cc3 cx s n x w3 r3 (by omega) hle hcm rj3 (by omega)
            unfold mW at ra
            go_wp2_with first
              | (with_reducible show wpList _ _ _ _ _ _
                 refine wpList_load_row rfl 43 (.tmp 7) rfl gw rfl 43 _ (0, 0) _ hB3 Tryd.underlying43 rfl infoW ?_)
            refine ra.mono ?_
            clear ra
            rintro e w4 hap
            obtain ⟨A4, n4, c4, rfl, e4, hc4, hm4, r4, b4⟩ := hap
            obtain ⟨⟨old, ho, hos⟩, kk, mm, b5⟩ := RM.next (s' := (s.app n x).1) m3 k3 bb3.size e4 hc4 hm4 r4 b4
            go_wp2_with first
              | (with_reducible show wpList _ _ _ _ _ _
                 refine wpList_store_row rfl 43 (.tmp 7) (.tmp 62) rfl gw (rowM (s.app n x).1 A4 n4 c4) rfl rfl 43 old ho infoW hos (one4_ok _ _ _ _ _ _) ?_)
            go_meet
            case rel => exact ⟨_, _, v3, rfl, rfl, by have := app_le s n x; omega, mm, kk, bb3.trans b5⟩
          focus
            go_wp2_with fail
            refine ha.mono ?_
            clear ha
            rintro e w3 ⟨v3, rfl, m3, x3, q3⟩
            have bw := hm.bel x3 bb.size
            have k3 := hk.turned x3 q3
            have bb3 := bb.trans bw
            have hS3 := hS.mod x3 hgx
            have c0 := hS3.cell 0
            have c1 := hS3.cell 1
            have c2 := hS3.cell 2
            have c3 := hS3.cell 3
            simp at c0 c1 c2 c3
            have rj3 := Rd.belowB rj bw (fun _ h => h)
            obtain ⟨k1, k2, A3, cc3, hB3, hle, hcm, r3⟩ := id k3
            unfold rowM at hB3
            have ra := rAppend_any _ (Old w) A3 Ax cc3 cx s n x w3 r3 (by omega) hle hcm rj3 (by omega)
            unfold mW at ra
            go_wp2_with first
              | (with_reducible show wpList _ _ _ _ _ _
                 refine wpList_load_row rfl 43 (.tmp 7) rfl gw rfl 43 _ (0, 0) _ hB3 Tryd.underlying43 rfl infoW ?_)
            refine ra.mono ?_
            clear ra
            rintro e w4 hap
            obtain ⟨A4, n4, c4, rfl, e4, hc4, hm4, r4, b4⟩ := hap
            obtain ⟨⟨old, ho, hos⟩, kk, mm, b5⟩ := RM.next (s' := (s.app n x).1) m3 k3 bb3.size e4 hc4 hm4 r4 b4
            go_wp2_with first
              | (with_reducible show wpList _ _ _ _ _ _
                 refine wpList_store_row rfl 43 (.tmp 7) (.tmp 62) rfl gw (rowM (s.app n x).1 A4 n4 c4) rfl rfl 43 old ho infoW hos (one4_ok _ _ _ _ _ _) ?_)
            go_meet
            case rel => exact ⟨_, _, v3, rfl, rfl, by have := app_le s n x; omega, mm, kk, bb3.trans b5⟩
          focus
            go_wp2_with fail
            refine ha.mono ?_
            clear ha
            rintro e w3 ⟨v3, rfl, m3, x3, q3⟩
            have bw := hm.bel x3 bb.size
            have k3 := hk.turned x3 q3
            have bb3 := bb.trans bw
            have hS3 := hS.mod x3 hgx
            have c0 := hS3.cell 0
            have c1 := hS3.cell 1
            have c2 := hS3.cell 2
            have c3 := hS3.cell 3
            simp at c0 c1 c2 c3
            have rj3 := Rd.belowB rj bw (fun _ h => h)
            obtain ⟨k1, k2, A3, cc3, hB3, hle, hcm, r3⟩ := id k3
            unfold rowM at hB3
            have ra := rAppend_any _ (Old w) A3 Ax cc3 cx s n x w3 r3 (by omega) hle hcm rj3 (by omega)
            unfold mW at ra
            go_wp2_with first
              | (with_reducible show wpList _ _ _ _ _ _
                 refine wpList_load_row rfl 43 (.tmp 7) rfl gw rfl 43 _ (0, 0) _ hB3 Tryd.underlying43 rfl infoW ?_)
            refine ra.mono ?_
            clear ra
            rintro e w4 hap
            obtain ⟨A4, n4, c4, rfl, e4, hc4, hm4, r4, b4⟩ := hap
            obtain ⟨⟨old, ho, hos⟩, kk, mm, b5⟩ := RM.next (s' := (s.app n x).1) m3 k3 bb3.size e4 hc4 hm4 r4 b4
            go_wp2_with first
              | (with_reducible show wpList _ _ _ _ _ _
                 refine wpList_store_row rfl 43 (.tmp 7) (.tmp 62) rfl gw (rowM (s.app n x).1 A4 n4 c4) rfl rfl 43 old ho infoW hos (one4_ok _ _ _ _ _ _) ?_)
            go_meet
            case rel => exact ⟨_, _, v3, rfl, rfl, by have := app_le s n x; omega, mm, kk, bb3.trans b5⟩
          focus
            go_wp2_with fail
            refine ha.mono ?_
            clear ha
            rintro e w3 ⟨v3, rfl, m3, x3, q3⟩
            have bw := hm.bel x3 bb.size
            have k3 := hk.turned x3 q3
            have bb3 := bb.trans bw
            have hS3 := hS.mod x3 hgx
            have c0 := hS3.cell 0
            have c1 := hS3.cell 1
            have c2 := hS3.cell 2
            have c3 := hS3.cell 3
            simp at c0 c1 c2 c3
            have rj3 := Rd.belowB rj bw (fun _ h => h)
            obtain ⟨k1, k2, A3, cc3, hB3, hle, hcm, r3⟩ := id k3
            unfold rowM at hB3
            have ra := rAppend_any _ (Old w) A3 Ax cc3 cx s n x w3 r3 (by omega) hle hcm rj3 (by omega)
            unfold mW at ra
            go_wp2_with first
              | (with_reducible show wpList _ _ _ _ _ _
                 refine wpList_load_row rfl 43 (.tmp 7) rfl gw rfl 43 _ (0, 0) _ hB3 Tryd.underlying43 rfl infoW ?_)
            refine ra.mono ?_
            clear ra
            rintro e w4 hap
            obtain ⟨A4, n4, c4, rfl, e4, hc4, hm4, r4, b4⟩ := hap
            obtain ⟨⟨old, ho, hos⟩, kk, mm, b5⟩ := RM.next (s' := (s.app n x).1) m3 k3 bb3.size e4 hc4 hm4 r4 b4
            go_wp2_with first
              | (with_reducible show wpList _ _ _ _ _ _
                 refine wpList_store_row rfl 43 (.tmp 7) (.tmp 62) rfl gw (rowM (s.app n x).1 A4 n4 c4) rfl rfl 43 old ho infoW hos (one4_ok _ _ _ _ _ _) ?_)
            go_meet
            case rel => exact ⟨_, _, v3, rfl, rfl, by have := app_le s n x; omega, mm, kk, bb3.trans b5⟩
          · go_wp2_with fail
            refine (Cut_any w.heap.size g v s n wq hm bb.size).mono ?_
            rintro e w3 ⟨rfl, m3, x3⟩
            have q3 : Same2 wq v v := .inl rfl
            have bw := hm.bel x3 bb.size
            have k3 := hk.turned x3 q3
            have bb3 := bb.trans bw
            have hS3 := hS.mod x3 hgx
            have c0 := hS3.cell 0
            have c1 := hS3.cell 1
            have c2 := hS3.cell 2
            have c3 := hS3.cell 3
            simp at c0 c1 c2 c3
            have rj3 := Rd.belowB rj bw (fun _ h => h)
            obtain ⟨k1, k2, A3, cc3, hB3, hle, hcm, r3⟩ := id k3
            unfold rowM at hB3
            have ra := rSet_S _ s A3 cc3 n w3 r3 hle hcm
            unfold mW at ra
            go_wp2_with first
              | (with_reducible show wpList _ _ _ _ _ _
                 refine wpList_load_row rfl 43 (.tmp 7) rfl gw rfl 43 _ (0, 0) _ hB3 Tryd.underlying43 rfl infoW ?_)
            refine ra.mono ?_
            clear ra
            rintro e w4 hap
            obtain ⟨A4, n4, c4, e0, e4, hc4, hm4, r4, b4⟩ := hap
            unfold mW at e0
            subst e0
            obtain ⟨⟨old, ho, hos⟩, kk, mm, b5⟩ := RM.next (s' := (s.set n)) m3 k3 bb3.size e4 hc4 hm4 r4 b4
            go_wp2_with first
              | (with_reducible show wpList _ _ _ _ _ _
                 refine wpList_store_row rfl 43 (.tmp 7) (.tmp 73) rfl gw (rowM (s.set n) A4 n4 c4) rfl rfl 43 old ho infoW hos (one4_ok _ _ _ _ _ _) ?_)
            go_meet
            case rel => exact ⟨0, _, v, rfl, rfl, by rw [set_b]; omega, mm, kk, bb3.trans b5⟩
          · go_wp2_with fail
            refine (Crash_any w.heap.size g v s wq hm).mono ?_
            rintro e w3 ⟨rfl, m3, x3⟩
            have q3 : Same2 wq v v := .inl rfl
            have bw := hm.bel x3 bb.size
            have k3 := hk.turned x3 q3
            have bb3 := bb.trans bw
            have hS3 := hS.mod x3 hgx
            have c0 := hS3.cell 0
            have c1 := hS3.cell 1
            have c2 := hS3.cell 2
            have c3 := hS3.cell 3
            simp at c0 c1 c2 c3
            have rj3 := Rd.belowB rj bw (fun _ h => h)
            obtain ⟨k1, k2, A3, cc3, hB3, hle, hcm, r3⟩ := id k3
            unfold rowM at hB3
            have ra := rCrash_S _ s A3 cc3 w3 r3 hle hcm
            unfold mW at ra
            go_wp2_with first
              | (with_reducible show wpList _ _ _ _ _ _
                 refine wpList_load_row rfl 43 (.tmp 7) rfl gw rfl 43 _ (0, 0) _ hB3 Tryd.underlying43 rfl infoW ?_)
            refine ra.mono ?_
            clear ra
            rintro e w4 hap
            obtain ⟨A4, n4, c4, e0, e4, hc4, hm4, r4, b4⟩ := hap
            unfold mW at e0
            subst e0
            obtain ⟨⟨old, ho, hos⟩, kk, mm, b5⟩ := RM.next (s' := s.crash) m3 k3 bb3.size e4 hc4 hm4 r4 b4
            go_wp2_with first
              | (with_reducible show wpList _ _ _ _ _ _
                 refine wpList_store_row rfl 43 (.tmp 7) (.tmp 79) rfl gw (rowM s.crash A4 n4 c4) rfl rfl 43 old ho infoW hos (one4_ok _ _ _ _ _ _) ?_)
            go_meet
            case rel => exact ⟨0, _, v, rfl, rfl, by show s.b.length ≤ _; omega, mm, kk, bb3.trans b5⟩
          · go_wp2_with fail
            refine (Boot_any w.heap.size g v s wq hm (by omega) (ht.below bb)).mono ?_
            rintro e w3 ⟨v3, rfl, m3, x3, q3⟩
            have bw := hm.bel x3 bb.size
            have k3 := hk.turned x3 q3
            have bb3 := bb.trans bw
            have hS3 := hS.mod x3 hgx
            have c0 := hS3.cell 0
            have c1 := hS3.cell 1
            have c2 := hS3.cell 2
            have c3 := hS3.cell 3
            simp at c0 c1 c2 c3
            have rj3 := Rd.belowB rj bw (fun _ h => h)
            obtain ⟨k1, k2, A3, cc3, hB3, hle, hcm, r3⟩ := id k3
            unfold rowM at hB3
            have ra := rBoot_S _ s A3 cc3 w3 r3 (by omega) hle hcm
            unfold mW at ra
            go_wp2_with first
              | (with_reducible show wpList _ _ _ _ _ _
                 refine wpList_load_row rfl 43 (.tmp 7) rfl gw rfl 43 _ (0, 0) _ hB3 Tryd.underlying43 rfl infoW ?_)
            refine ra.mono ?_
            clear ra
            rintro e w4 hap
            obtain ⟨A4, n4, c4, e0, e4, hc4, hm4, r4, b4⟩ := hap
            unfold mW at e0
            subst e0
            obtain ⟨⟨old, ho, hos⟩, kk, mm, b5⟩ := RM.next (s' := s.boot) m3 k3 bb3.size e4 hc4 hm4 r4 b4
            go_wp2_with first
              | (with_reducible show wpList _ _ _ _ _ _
                 refine wpList_store_row rfl 43 (.tmp 7) (.tmp 85) rfl gw (rowM s.boot A4 n4 c4) rfl rfl 43 old ho infoW hos (one4_ok _ _ _ _ _ _) ?_)
            go_meet
            case rel => exact ⟨0, _, v3, rfl, rfl, by have := boot_le s; omega, mm, kk, bb3.trans b5⟩
          · go_wp2_with fail
            refine (Spoil_S w.heap.size g v s n bt wq hm (by omega) i1).mono ?_
            rintro e w3 ⟨rfl, m3, x3⟩
            have q3 : Same2 wq v v := .inl rfl
            have bw := hm.bel x3 bb.size
            have k3 := hk.turned x3 q3
            have bb3 := bb.trans bw
            have hS3 := hS.mod x3 hgx
            have c0 := hS3.cell 0
            have c1 := hS3.cell 1
            have c2 := hS3.cell 2
            have c3 := hS3.cell 3
            simp at c0 c1 c2 c3
            have rj3 := Rd.belowB rj bw (fun _ h => h)
            obtain ⟨k1, k2, A3, cc3, hB3, hle, hcm, r3⟩ := id k3
            unfold rowM at hB3
            have ra := rSpoil_S _ s A3 cc3 n bt w3 r3 (by omega) hle hcm i1
            unfold mW at ra
            go_wp2_with first
              | (with_reducible show wpList _ _ _ _ _ _
                 refine wpList_load_row rfl 43 (.tmp 7) rfl gw rfl 43 _ (0, 0) _ hB3 Tryd.underlying43 rfl infoW ?_)
            refine ra.mono ?_
            clear ra
            rintro e w4 hap
            obtain ⟨A4, n4, c4, e0, e4, hc4, hm4, r4, b4⟩ := hap
            unfold mW at e0
            subst e0
            obtain ⟨⟨old, ho, hos⟩, kk, mm, b5⟩ := RM.next (s' := (s.spoilR n bt)) m3 k3 bb3.size e4 hc4 hm4 r4 b4
            go_wp2_with first
              | (with_reducible show wpList _ _ _ _ _ _
                 refine wpList_store_row rfl 43 (.tmp 7) (.tmp 99) rfl gw (rowM (s.spoilR n bt) A4 n4 c4) rfl rfl 43 old ho infoW hos (one4_ok _ _ _ _ _ _) ?_)
            go_meet
            case rel => exact ⟨0, _, v, rfl, rfl, by rw [spoilR_le]; omega, mm, kk, bb3.trans b5⟩
        case rest =>
          clear hm hk bb hS c0 c1 c2 c3 rj hgx hz hz3 hz4
          obtain ⟨y, s', v', rfl, rfl, hsl2, hm, hk, bb⟩ := hcut
          have hl6 : s'.b.length ≤ 13000 := by omega
          have hsl3 : s'.b.length ≤ 312 * (j + 1) := by omega
          clear hsl hsl2
          go_wp2_with fail
          refine (Records_any w.heap.size g v' s' _ hm (by omega) (ht.below bb)).mono ?_
          rintro e w3 ⟨v1, v2, LB, rfl, o1, o2, hLB, hrows, b3⟩
          have hm := hm.below b3
          have hk := hk.below b3
          have bb := bb.thenB' b3
          obtain ⟨k1, k2, A3, cc3, hB3, hle, hcm, r3⟩ := id hk
          have rr := rRecords_any _ A3 cc3 s' w3 r3 (by omega) hle hcm
          unfold rowM at hB3
          unfold mW at rr
          go_wp2_with first
            | (with_reducible show wpList _ _ _ _ _ _
               refine wpList_load_row rfl 43 (.tmp 7) rfl gw rfl 43 _ (0, 0) _ hB3 Tryd.underlying43 rfl infoW ?_)
          refine rr.mono ?_
          clear rr
          rintro e w4 ⟨v3, v4, LC, rfl, o3, o4, hLC, hrows2, b4⟩
          have hm := hm.below b4
          have hk := hk.below b4
          have hB3 := Blk.below hB3 b4
          have bb := bb.thenB' b4
          obtain ⟨n, hn⟩ : ∃ n, n = (recO s'.b).length := ⟨_, rfl⟩
          have hn6 : n ≤ 13001 := by rw [hn]; exact Nat.le_trans (recO_len _) (by omega)
          have hlb : LB.length = n := by have := congrArg List.length hLB; simpa [hn] using this
          have hlc : LC.length = n := by have := congrArg List.length hLC; simpa [hn] using this
          obtain ⟨A1, n1, c1, rfl, e1⟩ : ∃ A k c, v1 = .slice A k c ∧ Hid (k = n) := by
            obtain ⟨A, c, e, _, _⟩ := own_form o1
            exact ⟨A, _, c, e, Lib.hid (by rw [List.length_map, hn])⟩
          obtain ⟨A3', n3, c3, rfl, e3⟩ : ∃ A k c, v3 = .slice A k c ∧ Hid (k = n) := by
            obtain ⟨A, c, e, _, _⟩ := own_form o3
            exact ⟨A, _, c, e, Lib.hid (by rw [List.length_map, hn])⟩
          obtain ⟨A2, n2, c2, rfl, e2⟩ := OwnS.form o2
          obtain ⟨A4, n4, c4, rfl, e4⟩ := OwnS.form o4
          obtain rfl := e1.out
          obtain rfl := e3.out
          obtain rfl : n2 = n3 := e2.out.trans hlb
          obtain rfl : n4 = n2 := e4.out.trans hlc
          have r1 : RdI _ _ A1 ((recO s'.b).map fun p : Int × List UInt8 => p.1) := Rd.below (OwnI.rd' o1) b4
          have r2 := OwnS.rdL (own_below o2 b4)
          have r3' : RdI _ _ A3' ((recO s'.b).map fun p : Int × List UInt8 => p.1) := OwnI.rd' o3
          have r4' := OwnS.rdL o4
          have HN := Lib.hid hn
          have HLB := Lib.hid hlb
          have HLC := Lib.hid hlc
          clear hn hlb hlc o1 o2 o3 o4 e1 e2 e3 e4 b3 r3 hle
          go_wp2_with fail
          refine r_start (R := RB) (by rfl) (n := 26) (L := #[false, false, false, false, false, false, false, false, false, false, false, false, false, false, false, false, false, false, false, false, false, false, false, false, false, false]) rfl rfl ?_
          have bd : Below w4.heap.size w4 w4.drew := (Below.refl _ _).drew
          have hm := hm.below bd
          have hk := hk.below bd
          have hB3 := Blk.below hB3 bd
          have bb := bb.thenB' bd
          have r1 := RdI.below r1 bd
          have r2 := RdL.below r2 bd
          have r3' := RdI.below r3' bd
          have r4' := RdL.below r4' bd
          have q2 : ∀ t : BV, t ∈ LB → RdB w4.drew (fun k => wc.heap.size ≤ k) t.A t.l := fun t ht => RdB.below (RdB.below (hrows t ht) b4) bd
          have q4 : ∀ t : BV, t ∈ LC → RdB w4.drew (DM w.heap.size g gw v') t.A t.l := fun t ht => RdB.below (hrows2 t ht) bd
          generalize w4.drew = wd1 at *
          clear bd b4
          refine r_flt RB_refl 0 110 #[true, false, false, false, false, false, false, false, false, false, false, false, false, false, false, false, false, false, false, false, false, false, false, false, false, false] (by simp only [List.getElem?_toArray, List.getElem?_cons_zero]; rfl) (by rfl) (by kernel_rfl) (by kernel_rfl) (by kernel_rfl) (fun _ _ _ _ h => h) rfl (by rfl) ?_
          apply Exists.intro
          apply And.intro
          · intro W hW
            first | (go_simp; with_reducible rfl) | go_simp
          (try simp only [Act.put, List.setIfInBounds_toArray]); (try simp only [List.set_cons_succ]); (try simp only [List.set_cons_zero])
          refine r_flt RB_refl 1 111 #[true, true, false, false, false, false, false, false, false, false, false, false, false, false, false, false, false, false, false, false, false, false, false, false, false, false] (by simp only [List.getElem?_toArray, List.getElem?_cons_succ, List.getElem?_cons_zero]; rfl) (by rfl) (by kernel_rfl) (by kernel_rfl) (by kernel_rfl) (fun _ _ _ _ h => h) rfl (by rfl) ?_
          apply Exists.intro
          apply And.intro
          · intro W hW
            first | (go_simp; with_reducible rfl) | go_simp
          (try simp only [Act.put, List.setIfInBounds_toArray]); (try simp only [List.set_cons_succ]); (try simp only [List.set_cons_zero])
          refine r_flt RB_refl 2 112 #[true, true, true, false, false, false, false, false, false, false, false, false, false, false, false, false, false, false, false, false, false, false, false, false, false, false] (by simp only [List.getElem?_toArray, List.getElem?_cons_succ, List.getElem?_cons_zero]; rfl) (by rfl) (by kernel_rfl) (by kernel_rfl) (by kernel_rfl) (fun _ _ _ _ h => h) rfl (by rfl) ?_
          apply Exists.intro
          apply And.intro
          · intro W hW
            first | (go_simp; with_reducible rfl) | go_simp
          (try simp only [Act.put, List.setIfInBounds_toArray]); (try simp only [List.set_cons_succ]); (try simp only [List.set_cons_zero])
          refine r_flt RB_refl 3 113 #[true, true, true, true, false, false, false, false, false, false, false, false, false, false, false, false, false, false, false, false, false, false, false, false, false, false] (by simp only [List.getElem?_toArray, List.getElem?_cons_succ, List.getElem?_cons_zero]; rfl) (by rfl) (by kernel_rfl) (by kernel_rfl) (by kernel_rfl) (fun _ _ _ _ h => h) rfl (by rfl) ?_
          apply Exists.intro
          apply And.intro
          · intro W hW
            first | (go_simp; with_reducible rfl) | go_simp
          (try simp only [Act.put, List.setIfInBounds_toArray]); (try simp only [List.set_cons_succ]); (try simp only [List.set_cons_zero])
          refine r_flt RB_refl 4 114 #[true, true, true, true, true, false, false, false, false, false, false, false, false, false, false, false, false, false, false, false, false, false, false, false, false, false] (by simp only [List.getElem?_toArray, List.getElem?_cons_succ, List.getElem?_cons_zero]; rfl) (by rfl) (by kernel_rfl) (by kernel_rfl) (by kernel_rfl) (fun _ _ _ _ h => h) rfl (by rfl) ?_
          apply Exists.intro
          apply And.intro
          · intro W hW
            first | (go_simp; with_reducible rfl) | go_simp
          (try simp only [Act.put, List.setIfInBounds_toArray]); (try simp only [List.set_cons_succ]); (try simp only [List.set_cons_zero])
          refine r_flt RB_refl 6 116 #[true, true, true, true, true, false, true, false, false, false, false, false, false, false, false, false, false, false, false, false, false, false, false, false, false, false] (by simp only [List.getElem?_toArray, List.getElem?_cons_succ, List.getElem?_cons_zero]; rfl) (by rfl) (by kernel_rfl) (by kernel_rfl) (by kernel_rfl) (fun _ _ _ _ h => h) rfl (by rfl) ?_
          apply Exists.intro
          apply And.intro
          · intro W hW
            first | (go_simp; with_reducible rfl) | go_simp
          (try simp only [Act.put, List.setIfInBounds_toArray]); (try simp only [List.set_cons_succ]); (try simp only [List.set_cons_zero])
          refine r_flt RB_refl 7 117 #[true, true, true, true, true, false, true, true, false, false, false, false, false, false, false, false, false, false, false, false, false, false, false, false, false, false] (by simp only [List.getElem?_toArray, List.getElem?_cons_succ, List.getElem?_cons_zero]; rfl) (by rfl) (by kernel_rfl) (by kernel_rfl) (by kernel_rfl) (fun _ _ _ _ h => h) rfl (by rfl) ?_
          apply Exists.intro
          apply And.intro
          · intro W hW
            have c := (Blk.below hB3 hW).cell 2
            simp at c
            go_simp; rfl
          (try simp only [Act.put, List.setIfInBounds_toArray]); (try simp only [List.set_cons_succ]); (try simp only [List.set_cons_zero])
          refine r_one RB_trans 5 (by kernel_rfl) ?_
          refine alt_call 115 #[true, true, true, true, true, true, true, true, false, false, false, false, false, false, false, false, false, false, false, false, false, false, false, false, false, false] (by simp only [List.getElem?_toArray, List.getElem?_cons_succ, List.getElem?_cons_zero]; rfl) (by rfl) rfl (by rfl) (by go_simp; first | exact ⟨rfl, rfl⟩ | rfl) ?_
          with_reducible refine (Up_any w.heap.size g v' s' wd1 hm).mono ?_
          rintro e wd2 ⟨rfl, rfl⟩
          refine ⟨_, rfl, RB_refl _, ?_⟩
          (try simp only [Act.put, List.setIfInBounds_toArray]); (try simp only [List.set_cons_succ]); (try simp only [List.set_cons_zero])
          refine r_flt RB_refl 8 118 #[true, true, true, true, true, true, true, true, true, false, false, false, false, false, false, false, false, false, false, false, false, false, false, false, false, false] (by simp only [List.getElem?_toArray, List.getElem?_cons_succ, List.getElem?_cons_zero]; rfl) (by rfl) (by kernel_rfl) (by kernel_rfl) (by kernel_rfl) (fun _ _ _ _ h => h) rfl (by rfl) ?_
          apply Exists.intro
          apply And.intro
          · intro W hW
            first | (go_simp; with_reducible rfl) | go_simp
          (try simp only [Act.put, List.setIfInBounds_toArray]); (try simp only [List.set_cons_succ]); (try simp only [List.set_cons_zero])
          refine r_flt RB_refl 9 119 #[true, true, true, true, true, true, true, true, true, true, false, false, false, false, false, false, false, false, false, false, false, false, false, false, false, false] (by simp only [List.getElem?_toArray, List.getElem?_cons_succ, List.getElem?_cons_zero]; rfl) (by rfl) (by kernel_rfl) (by kernel_rfl) (by kernel_rfl) (fun _ _ _ _ h => h) rfl (by rfl) ?_
          apply Exists.intro
          apply And.intro
          · intro W hW
            first | (go_simp; with_reducible rfl) | go_simp
          (try simp only [Act.put, List.setIfInBounds_toArray]); (try simp only [List.set_cons_succ]); (try simp only [List.set_cons_zero])
          refine r_flt RB_refl 10 120 #[true, true, true, true, true, true, true, true, true, true, true, false, false, false, false, false, false, false, false, false, false, false, false, false, false, false] (by simp only [List.getElem?_toArray, List.getElem?_cons_succ, List.getElem?_cons_zero]; rfl) (by rfl) (by kernel_rfl) (by kernel_rfl) (by kernel_rfl) (fun _ _ _ _ h => h) rfl (by rfl) ?_
          apply Exists.intro
          apply And.intro
          · intro W hW
            first | (go_simp; with_reducible rfl) | go_simp
          (try simp only [Act.put, List.setIfInBounds_toArray]); (try simp only [List.set_cons_succ]); (try simp only [List.set_cons_zero])
          refine r_flt RB_refl 11 121 #[true, true, true, true, true, true, true, true, true, true, true, true, false, false, false, false, false, false, false, false, false, false, false, false, false, false] (by simp only [List.getElem?_toArray, List.getElem?_cons_succ, List.getElem?_cons_zero]; rfl) (by rfl) (by kernel_rfl) (by kernel_rfl) (by kernel_rfl) (fun _ _ _ _ h => h) rfl (by rfl) ?_
          apply Exists.intro
          apply And.intro
          · intro W hW
            first | (go_simp; with_reducible rfl) | go_simp
          (try simp only [Act.put, List.setIfInBounds_toArray]); (try simp only [List.set_cons_succ]); (try simp only [List.set_cons_zero])
          refine r_flt RB_refl 13 123 #[true, true, true, true, true, true, true, true, true, true, true, true, false, true, false, false, false, false, false, false, false, false, false, false, false, false] (by simp only [List.getElem?_toArray, List.getElem?_cons_succ, List.getElem?_cons_zero]; rfl) (by rfl) (by kernel_rfl) (by kernel_rfl) (by kernel_rfl) (fun _ _ _ _ h => h) rfl (by rfl) ?_
          apply Exists.intro
          apply And.intro
          · intro W hW
            first | (go_simp; with_reducible rfl) | go_simp
          (try simp only [Act.put, List.setIfInBounds_toArray]); (try simp only [List.set_cons_succ]); (try simp only [List.set_cons_zero])
          refine r_flt RB_refl 14 124 #[true, true, true, true, true, true, true, true, true, true, true, true, false, true, true, false, false, false, false, false, false, false, false, false, false, false] (by simp only [List.getElem?_toArray, List.getElem?_cons_succ, List.getElem?_cons_zero]; rfl) (by rfl) (by kernel_rfl) (by kernel_rfl) (by kernel_rfl) (fun _ _ _ _ h => h) rfl (by rfl) ?_
          apply Exists.intro
          apply And.intro
          · intro W hW
            have c := (Blk.below hB3 hW).cell 0
            simp at c
            go_simp; rfl
          (try simp only [Act.put, List.setIfInBounds_toArray]); (try simp only [List.set_cons_succ]); (try simp only [List.set_cons_zero])
          refine r_flt RB_refl 15 125 #[true, true, true, true, true, true, true, true, true, true, true, true, false, true, true, true, false, false, false, false, false, false, false, false, false, false] (by simp only [List.getElem?_toArray, List.getElem?_cons_succ, List.getElem?_cons_zero]; rfl) (by rfl) (by kernel_rfl) (by kernel_rfl) (by kernel_rfl) (fun _ _ _ _ h => h) rfl (by rfl) ?_
          apply Exists.intro
          apply And.intro
          · intro W hW
            first | (go_simp; with_reducible rfl) | go_simp
          (try simp only [Act.put, List.setIfInBounds_toArray]); (try simp only [List.set_cons_succ]); (try simp only [List.set_cons_zero])
          refine r_one RB_trans 12 (by kernel_rfl) ?_
          refine alt_call 122 #[true, true, true, true, true, true, true, true, true, true, true, true, true, true, true, true, false, false, false, false, false, false, false, false, false, false] (by simp only [List.getElem?_toArray, List.getElem?_cons_succ, List.getElem?_cons_zero]; rfl) (by rfl) rfl (by rfl) (by go_simp; first | exact ⟨rfl, rfl⟩ | rfl) ?_
          with_reducible refine (Len_any w.heap.size g v' s' wd1 hm).mono ?_
          rintro e wd2 ⟨rfl, rfl⟩
          refine ⟨_, rfl, RB_refl _, ?_⟩
          (try simp only [Act.put, List.setIfInBounds_toArray]); (try simp only [List.set_cons_succ]); (try simp only [List.set_cons_zero])
          refine r_flt RB_refl 16 126 #[true, true, true, true, true, true, true, true, true, true, true, true, true, true, true, true, true, false, false, false, false, false, false, false, false, false] (by simp only [List.getElem?_toArray, List.getElem?_cons_succ, List.getElem?_cons_zero]; rfl) (by rfl) (by kernel_rfl) (by kernel_rfl) (by kernel_rfl) (fun _ _ _ _ h => h) rfl (by rfl) ?_
          apply Exists.intro
          apply And.intro
          · intro W hW
            first | (go_simp; with_reducible rfl) | go_simp
          (try simp only [Act.put, List.setIfInBounds_toArray]); (try simp only [List.set_cons_succ]); (try simp only [List.set_cons_zero])
          refine r_flt RB_refl 17 127 #[true, true, true, true, true, true, true, true, true, true, true, true, true, true, true, true, true, true, false, false, false, false, false, false, false, false] (by simp only [List.getElem?_toArray, List.getElem?_cons_succ, List.getElem?_cons_zero]; rfl) (by rfl) (by kernel_rfl) (by kernel_rfl) (by kernel_rfl) (fun _ _ _ _ h => h) rfl (by rfl) ?_
          apply Exists.intro
          apply And.intro
          · intro W hW
            first | (go_simp; with_reducible rfl) | go_simp
          (try simp only [Act.put, List.setIfInBounds_toArray]); (try simp only [List.set_cons_succ]); (try simp only [List.set_cons_zero])
          refine r_flt RB_refl 18 128 #[true, true, true, true, true, true, true, true, true, true, true, true, true, true, true, true, true, true, true, false, false, false, false, false, false, false] (by simp only [List.getElem?_toArray, List.getElem?_cons_succ, List.getElem?_cons_zero]; rfl) (by rfl) (by kernel_rfl) (by kernel_rfl) (by kernel_rfl) (fun _ _ _ _ h => h) rfl (by rfl) ?_
          apply Exists.intro
          apply And.intro
          · intro W hW
            first | (go_simp; with_reducible rfl) | go_simp
          (try simp only [Act.put, List.setIfInBounds_toArray]); (try simp only [List.set_cons_succ]); (try simp only [List.set_cons_zero])
          refine r_flt RB_refl 19 129 #[true, true, true, true, true, true, true, true, true, true, true, true, true, true, true, true, true, true, true, true, false, false, false, false, false, false] (by simp only [List.getElem?_toArray, List.getElem?_cons_succ, List.getElem?_cons_zero]; rfl) (by rfl) (by kernel_rfl) (by kernel_rfl) (by kernel_rfl) (fun _ _ _ _ h => h) rfl (by rfl) ?_
          apply Exists.intro
          apply And.intro
          · intro W hW
            first | (go_simp; with_reducible rfl) | go_simp
          (try simp only [Act.put, List.setIfInBounds_toArray]); (try simp only [List.set_cons_succ]); (try simp only [List.set_cons_zero])
          refine r_flt RB_refl 20 130 #[true, true, true, true, true, true, true, true, true, true, true, true, true, true, true, true, true, true, true, true, true, false, false, false, false, false] (by simp only [List.getElem?_toArray, List.getElem?_cons_succ, List.getElem?_cons_zero]; rfl) (by rfl) (by kernel_rfl) (by kernel_rfl) (by kernel_rfl) (fun _ _ _ _ h => h) rfl (by rfl) ?_
          apply Exists.intro
          apply And.intro
          · intro W hW
            first | (go_simp; with_reducible rfl) | go_simp
          (try simp only [Act.put, List.setIfInBounds_toArray]); (try simp only [List.set_cons_succ]); (try simp only [List.set_cons_zero])
          refine r_flt RB_refl 21 131 #[true, true, true, true, true, true, true, true, true, true, true, true, true, true, true, true, true, true, true, true, true, true, false, false, false, false] (by simp only [List.getElem?_toArray, List.getElem?_cons_succ, List.getElem?_cons_zero]; rfl) (by rfl) (by kernel_rfl) (by kernel_rfl) (by kernel_rfl) (fun _ _ _ _ h => h) rfl (by rfl) ?_
          apply Exists.intro
          apply And.intro
          · intro W hW
            first | (go_simp; with_reducible rfl) | go_simp
          (try simp only [Act.put, List.setIfInBounds_toArray]); (try simp only [List.set_cons_succ]); (try simp only [List.set_cons_zero])
          refine r_flt RB_refl 22 132 #[true, true, true, true, true, true, true, true, true, true, true, true, true, true, true, true, true, true, true, true, true, true, true, false, false, false] (by simp only [List.getElem?_toArray, List.getElem?_cons_succ, List.getElem?_cons_zero]; rfl) (by rfl) (by kernel_rfl) (by kernel_rfl) (by kernel_rfl) (fun _ _ _ _ h => h) rfl (by rfl) ?_
          apply Exists.intro
          apply And.intro
          · intro W hW
            first | (go_simp; with_reducible rfl) | go_simp
          (try simp only [Act.put, List.setIfInBounds_toArray]); (try simp only [List.set_cons_succ]); (try simp only [List.set_cons_zero])
          refine r_one RB_trans 23 (by kernel_rfl) ?_
          refine alt_call 133 #[true, true, true, true, true, true, true, true, true, true, true, true, true, true, true, true, true, true, true, true, true, true, true, true, false, false] (by simp only [List.getElem?_toArray, List.getElem?_cons_succ, List.getElem?_cons_zero]; rfl) (by rfl) rfl (by rfl) (by go_simp; first | exact ⟨rfl, rfl⟩ | rfl) ?_
          with_reducible refine (Same_yes n4 c1 c2 c3 c4 A1 A2 A3' A4 ((recO s'.b).map fun p : Int × List UInt8 => p.1) LB LC _ _ _ _ _ _ wd1 (by rw [List.length_map, HN.out]) HLB.out HLC.out (by omega) r1 r3' r2 r4' q2 q4 (hLB.trans hLC.symm)).mono ?_
          rintro e wd2 ⟨rfl, b5⟩
          have hm := hm.below b5
          have hk := hk.below b5
          have bb := bb.thenB' b5
          refine ⟨_, rfl, b5, ?_⟩
          (try simp only [Act.put, List.setIfInBounds_toArray]); (try simp only [List.set_cons_succ]); (try simp only [List.set_cons_zero])
          refine r_flt RB_refl 24 134 #[true, true, true, true, true, true, true, true, true, true, true, true, true, true, true, true, true, true, true, true, true, true, true, true, true, false] (by simp only [List.getElem?_toArray, List.getElem?_cons_succ, List.getElem?_cons_zero]; rfl) (by rfl) (by kernel_rfl) (by kernel_rfl) (by kernel_rfl) (fun _ _ _ _ h => h) rfl (by rfl) ?_
          apply Exists.intro
          apply And.intro
          · intro W hW
            first | (go_simp; with_reducible rfl) | go_simp
          (try simp only [Act.put, List.setIfInBounds_toArray]); (try simp only [List.set_cons_succ]); (try simp only [List.set_cons_zero])
          refine r_flt RB_refl 25 135 #[true, true, true, true, true, true, true, true, true, true, true, true, true, true, true, true, true, true, true, true, true, true, true, true, true, true] (by simp only [List.getElem?_toArray, List.getElem?_cons_succ, List.getElem?_cons_zero]; rfl) (by rfl) (by kernel_rfl) (by kernel_rfl) (by kernel_rfl) (fun _ _ _ _ h => h) rfl (by rfl) ?_
          apply Exists.intro
          apply And.intro
          · intro W hW
            first | (go_simp; with_reducible rfl) | go_simp
          (try simp only [Act.put, List.setIfInBounds_toArray]); (try simp only [List.set_cons_succ]); (try simp only [List.set_cons_zero])
          refine r_done (by kernel_rfl) ?_
          go_wp2_with fail
          go_roundw
          case rel => exact ⟨j + 1, s', v', by omega, by go_num, hsl3, hm, hk, bb⟩
          case measure => simp [intOf] <;> omega
    · by_cases h1 : j < L.length
      focus
        have h2 : ¬ j < 40 := fun h => hlt ⟨h1, h⟩
      rotate_left
      focus skip
      all_goals
        clear hlt
        go_wp2_with fail
        go_ret
        exact ⟨rfl, bb⟩
end Go.Proofs.YtodfejeifbhoeaaDoor
