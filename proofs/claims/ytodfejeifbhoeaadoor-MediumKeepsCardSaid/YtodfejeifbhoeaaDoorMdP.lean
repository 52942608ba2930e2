/- What is behind a boot is what was written: the walk. -/
import Derived.Test.YtodfejeifbhoeaaDoorMdO
import Derived.Deep.CutBlock
import Derived.Deep.CutRange
namespace Go.Proofs.YtodfejeifbhoeaaDoor
open Go.RowKit
set_option linter.unusedVariables false

def KI (P : List (Nat × List UInt8)) : List Int := P.map fun p => (p.1 : Int)
def BI (P : List (Nat × List UInt8)) : List (List UInt8) := P.map fun p => p.2
theorem recK {s : MS} {P : List (Nat × List UInt8)} (h : Keeps s P) : (recO s.b).map (fun p : Int × List UInt8 => p.1) = KI P := by
  rw [h.recs, List.map_map]; rfl
theorem recB {s : MS} {P : List (Nat × List UInt8)} (h : Keeps s P) : (recO s.b).map (fun p : Int × List UInt8 => p.2) = BI P := by
  rw [h.recs, List.map_map]; rfl
/-- The rows that Records tells. -/
theorem Records_P (base g : Nat) (v : Value) (s : MS) (P : List (Nat × List UInt8)) (w : World) (h : Med w base g v s) (hk : Keeps s P) (hP : P.length ≤ 41) (ht : Tab w) :
    Calls Tryd.prog 17 #[.pointer (some ⟨g, 0, none⟩)] w fun e w' => ∃ (A1 A2 : Option Addr) (c1 c2 : Nat) (L : List BV), e = .returned (.tuple #[.slice A1 P.length c1, .slice A2 P.length c2]) ∧ L.length = P.length ∧ RdI w' (w.heap.size ≤ ·) A1 (KI P) ∧ RdL w' (w.heap.size ≤ ·) 1 rowCB A2 L ∧ L.map (·.l) = BI P ∧ (∀ t : BV, t ∈ L → RdB w' (fun k => w.heap.size ≤ k) t.A t.l) ∧ Below w.heap.size w w' := by
  have hl := hk.len
  refine (Records_any base g v s w h (by omega) ht).mono ?_
  rintro e w' ⟨v1, v2, L, rfl, o1, o2, hL, hr, b⟩
  have o1 : OwnI w' w.heap.size v1 (KI P) := by rw [← recK hk]; exact o1
  have hL : L.map (·.l) = BI P := hL.trans (recB hk)
  have hlen : L.length = P.length := by have := congrArg List.length hL; simpa [BI] using this
  obtain ⟨A2, n2, c2, rfl, e2⟩ := OwnS.form o2
  obtain ⟨A1, c1, rfl, _, _⟩ := own_form o1
  have hn : (KI P).length = P.length := by unfold KI; simp
  have e2 := e2.out
  rw [hlen] at e2
  subst e2
  have r1 := OwnI.rd' o1
  rw [hn]
  exact ⟨A1, A2, c1, c2, L, rfl, hlen, Rd.imp r1 (fun _ _ h => h.1) (by decide), OwnS.rdL o2, hL, hr, b⟩
/-- The two rows of Records, and the two that were kept, are the same. -/
theorem Same_P (P : List (Nat × List UInt8)) (A1 A2 : Option Addr) (c1 c2 : Nat) (L L' : List BV) (D1 D2 D3 : Nat → Prop) (w wr : World) (g : Nat) (v ks bs : Value) (hP : P.length ≤ 41) (r1 : RdI wr D1 A1 (KI P)) (r2 : RdL wr D2 1 rowCB A2 L) (hL : L.map (·.l) = BI P) (q : ∀ t : BV, t ∈ L → RdB wr D3 t.A t.l)
    (h : Rows3 w wr g v ks bs (KI P) L') (hL' : L'.map (·.l) = BI P) :
    Calls Tryd.prog 18 #[.slice A1 P.length c1, .slice A2 P.length c2, ks, bs] wr fun e w' => e = .returned (.bool true) ∧ Below wr.heap.size wr w' := by
  obtain ⟨h1, h2, h3, h4, h5, h6, h7⟩ := h
  have hlen : L.length = P.length := by have := congrArg List.length hL; simpa [BI] using this
  have hlen' : L'.length = P.length := by have := congrArg List.length hL'; simpa [BI] using this
  have hn : (KI P).length = P.length := by unfold KI; simp
  obtain ⟨A4, n4, c4, rfl, e4⟩ := OwnS.form h2
  obtain ⟨A3, c3, rfl, _, _⟩ := own_form h1
  have e4 := e4.out
  rw [hlen'] at e4
  subst e4
  rw [hn]
  exact Same_yes P.length c1 c2 c3 c4 A1 A2 A3 A4 (KI P) L L' D1 D2 _ _ D3 (Old w) wr hn hlen hlen' (by omega) r1 (OwnI.rd' h1) r2 (OwnS.rdL h2) q (fun t ht => Rd.belowB (h3 t ht) h7 (fun _ h => h)) (hL.trans hL'.symm)
theorem and255 (n : Int) : ∃ k : Nat, bits .and .i64 n 255 = (k : Int) ∧ k ≤ 255 := and_mask n 255 (by decide)

set_option maxHeartbeats 8000000 in
set_option maxRecDepth 100000 in
theorem keeps_walk (w : World) (ht : Tab w) (A : Option Addr) (L0 : List AV) (c : Nat) (rl : RdL w (Old w) 4 actC A L0) (l : L0.length ≤ c) (mx : c ≤ 9223372036854775807) (nn : A = none → c = 0)
    (rs : ∀ s ∈ L0, I64 s.kind ∧ I64 s.n ∧ RdB w (Old w) s.A s.body ∧ s.body.length ≤ s.c ∧ s.c ≤ 9223372036854775807) :
    Calls Tryd.prog 3 #[.slice A L0.length c] w fun e w' => e = .returned (.bool true) ∧ Below w.heap.size w w' := by
  go_enter Tryd.func3, Tryd.ntmps3
  go_wp2_with fail
  refine (awake_any w ht).mono ?_
  rintro e w1 ⟨rfl, b1⟩
  go_wp2_with fail
  refine (New_any 1048576 w1).mono ?_
  rintro e w2 ⟨rfl, m2, b2⟩
  obtain ⟨g, hg⟩ : ∃ g, g = w1.heap.size := ⟨_, rfl⟩
  rw [← hg] at m2
  rw [← hg]
  have m2 : Med w2 w.heap.size g (.slice none 0 0) (newS 1048576) := Med.low m2 (by have := b1.size; omega)
  have bb := b1.thenB' b2
  have k2 : Rows3 w w2 g (.slice none 0 0) (.slice none 0 0) (.slice none 0 0) (KI []) [] :=
    ⟨OwnI.nil, World.ownsRow_nil _ _ _ _, fun t ht => by simp at ht, fun k hk => by simp [Value.ownBlock] at hk, fun k hk => by simp [Value.ownBlock] at hk, fun k hk => by simp [Value.ownBlock] at hk, bb⟩
  clear hg b2 b1 bb
  go_wp2_with fail
  go_loopw [5, 6, 7, 8, 9, 10, 11, 12, 13, 14, 15] (fun ks bs i s8 s9 s10 s11 s12 s13 s14 s15 wr => ∃ (j : Nat) (P : List (Nat × List UInt8)) (s : MS) (v : Value) (L : List BV), j ≤ 40 ∧ i = .int .i64 (j : Int) ∧ P.length ≤ j ∧ Hid (Keeps s P) ∧ Hid (L.map (·.l) = BI P) ∧ Med wr w.heap.size g v s ∧ Rows3 w wr g v ks bs (KI P) L) (fun _ _ i _ _ _ _ _ _ _ _ _ => 40 - (intOf i).toNat)
  case atStart => exact ⟨0, [], newS 1048576, _, [], Nat.zero_le _, rfl, Nat.le_refl _, Lib.hid Keeps.new, Lib.hid rfl, m2, k2⟩
  case round =>
    clear m2 k2
    obtain ⟨j, P, s, v, L, hj, rfl, hPj, HK, HL, hm, h3⟩ := hrel
    have bb := h3.2.2.2.2.2.2
    by_cases hlt : j < L0.length ∧ j < 40
    · obtain ⟨hlt, hlt40⟩ := hlt
      obtain ⟨ad, rfl, c0, c1, c2, c3⟩ := (rl.belowB bb (fun _ h => h)).act hlt
      obtain ⟨i0, i1, rj0, rjl, rjm⟩ := rs L0[j] (List.getElem_mem hlt)
      have rj := Rd.belowB rj0 bb (fun _ h => h)
      unfold cI at c0 c1
      unfold cB at c3
      generalize L0[j].kind = kd at *
      generalize L0[j].n = n at *
      generalize L0[j].body = x at *
      generalize L0[j].A = Ax at *
      generalize L0[j].c = cx at *
      generalize L0[j].bit = bt at *
      by_cases h300 : 300 < x.length
      · go_wp2_with fail
        go_ret
        exact ⟨rfl, bb.thenB' (below_new _ _)⟩
      · obtain ⟨z0, hz0, hz2⟩ := and_mask kd 7 (by omega)
        obtain ⟨z, hz, hz3, hz4⟩ : ∃ z : Int, bits .and .i64 kd 7 = z ∧ 0 ≤ z ∧ z ≤ 7 := ⟨z0, hz0, by omega, by omega⟩
        clear hz0 hz2
        go_upto_block 2 with fail
        have hS := Blk.new wr 30 #[.int .i64 kd, .int .i64 n, .slice Ax x.length cx, .int .u8 (bt.toNat : Int)]
        have bn := below_new wr (.cells #[.int .i64 kd, .int .i64 n, .slice Ax x.length cx, .int .u8 (bt.toNat : Int)] 30)
        have hgx : ¬ Own2 g v wr.heap.size := fun hx => by
          rcases hx with hx | hx
          · have := hm.lt.1; omega
          · have := hm.lt.2 _ hx; omega
        have hkb := own_blk h3.1
        have h3 := h3.below hm bn
        have hm := hm.below bn
        have rj := RdB.below rj bn
        have bb := bb.thenB' bn
        clear c0 c1 c2 c3
        generalize wr.alloc (.cells #[.int .i64 kd, .int .i64 n, .slice Ax x.length cx, .int .u8 (bt.toNat : Int)] 30) = wq at *
        generalize wr.heap.size = bx at *
        clear bn
        have c0 := hS.cell 0
        have c1 := hS.cell 1
        have c2 := hS.cell 2
        have c3 := hS.cell 3
        simp at c0 c1 c2 c3
        go_cut [5, 6, 9, 10, 11, 12, 13] from 22 to 155 (fun ks' bs' v9 v10 v11 v12 v13 wx => ∃ (P' : List (Nat × List UInt8)) (s' : MS) (v' : Value) (L' : List BV), P'.length ≤ P.length + 1 ∧ Hid (Keeps s' P') ∧ Hid (L'.map (·.l) = BI P') ∧ Med wx w.heap.size g v' s' ∧ Rows3 w wx g v' ks' bs' (KI P') L')
        case first =>
          have hz8 : (z = 0 ∨ z = 1 ∨ z = 2 ∨ z = 3) ∨ z = 4 ∨ z = 5 ∨ z = 6 ∨ z = 7 := by omega
          clear hz3 hz4
          obtain ⟨k, hk255, hkl⟩ := and255 n
          obtain ⟨m, hmP⟩ : ∃ m, P.length = m := ⟨_, rfl⟩
          have HM := Lib.hid hmP
          have HWM : Hid (IntKind.i64.wrap ((m : Int) + 1) = (m : Int) + 1) := by unfold Hid; rw [IntKind.wrap_i64]; omega
          have hm40 : m ≤ 40 := by omega
          have HLm : Hid (L.length = m) := by unfold Hid; have := congrArg List.length HL.out; simpa [BI, hmP] using this
          have ha := Append_any w.heap.size g v s _ Ax cx (k : Int) x wq hm bb.size rj (by omega) (by have := HK.out.len; omega) (ht.below bb)
          obtain ⟨hcn, hca⟩ := HK.out.app_ k x hkl (by omega) (by omega)
          obtain ⟨A3, d3, e3, _, _⟩ := own_form h3.1
          rw [show (KI P).length = m by unfold KI; rw [List.length_map, hmP]] at e3
          subst e3
          clear hmP
          generalize s.app (k : Int) x = r at *
          obtain ⟨s1, y⟩ := r
          simp only at ha hcn hca
          rcases hz8 with hz3 | rfl | rfl | rfl | rfl
          · have z4 : (z == 4) = false := by simp; omega
            have z5 : (z == 5) = false := by simp; omega
            have z6 : (z == 6) = false := by simp; omega
            have HZ := Lib.hid hz3
            clear hz3
            go_upto_if 57 with fail
            go_cut [57] from 22 to 61 (fun t wx => t = .bool true ∧ wq = wx)
            case first =>
              rcases HZ.out with rfl | rfl | rfl | rfl
              all_goals
                clear ha
                go_wp2_with fail
                go_meet
                case rel => exact ⟨rfl, rfl⟩
            case rest =>
              obtain ⟨rfl, rfl⟩ := hcut
              go_wp2_with fail
              refine (Up_any w.heap.size g v s wq hm).mono ?_
              rintro e w3 ⟨rfl, rfl⟩
              go_wp2_with fail
              refine ha.mono ?_
              clear ha
              rintro e w3 ⟨v3, rfl, m3, x3, q3⟩
              have h3 := h3.turned hm m3 x3 q3 hcn
              have hS3 := hS.mod x3 hgx
              have rj3 := Rd.belowB rj (hm.bel x3 bb.size) (fun _ h => h)
              clear x3 q3 hm bb hS rj
              rcases hca with ⟨hy, hup, hk1⟩ | ⟨hy, hk1⟩
              · have HK1 := Lib.hid hk1
                have hl2 : (P ++ [(k, x)]).length = m + 1 := by rw [List.length_append, HM.out]; rfl
                have hrc := Records_P w.heap.size g v3 s1 _ w3 m3 hk1 (by omega) (ht.below h3.2.2.2.2.2.2)
                rw [hl2] at hrc
                rw [hup]
                clear hk1 hl2 hup
                go_wp2_with fail
                refine hrc.mono ?_
                clear hrc
                rintro e w4 ⟨A1, A2, d1, d2, LB, rfl, hLB, r1, r2, hLb, hrows, b4⟩
                have h3 := h3.below m3 b4
                have m3 := m3.below b4
                have hS4 := Blk.below hS3 b4
                have c1 := hS4.cell 1
                have c2 := hS4.cell 2
                simp at c1 c2
                have rj4 := Rd.below rj3 b4
                have hKl : m < (KI (P ++ [(k, x)])).length := by unfold KI; rw [List.length_map, List.length_append, ← HM.out]; exact Nat.lt_succ_self _
                obtain ⟨ad1, rfl, _, hk1⟩ := r1.at_ hKl
                have e1 : (KI (P ++ [(k, x)]))[m] = (k : Int) := by
                  have : (KI (P ++ [(k, x)]))[m]? = some (k : Int) := by unfold KI; rw [List.getElem?_map, List.getElem?_append_right (by rw [HM.out]; exact Nat.le_refl _), HM.out, Nat.sub_self]; rfl
                  rw [List.getElem?_eq_getElem hKl] at this
                  exact Option.some.inj this
                rw [e1] at hk1
                have hLl : m < LB.length := by omega
                obtain ⟨ad2, rfl, hk5⟩ := r2.bv hLl
                have e2 : LB[m].l = x := by
                  have h0 := congrArg (fun z => z[m]?) hLb
                  simp only [List.getElem?_map, List.getElem?_eq_getElem hLl, Option.map_some] at h0
                  unfold BI at h0
                  rw [List.getElem?_map, List.getElem?_append_right (by rw [HM.out]; exact Nat.le_refl _), HM.out, Nat.sub_self] at h0
                  exact Option.some.inj h0
                have hrow := hrows _ (List.getElem_mem hLl)
                rw [e2] at hk5 hrow
                generalize LB[m].A = Ay at *
                generalize LB[m].c = cy at *
                have hm1 : (m : Int) < (m : Int) + 1 := by omega
                have HNE : Hid (((m : Int) + 1 == (m : Int) + 1) = true) := by unfold Hid; simp
                have hm2 : ((m + 1 : Nat) : Int) = (m : Int) + 1 := by omega
                have hl1 : (KI P).length + [(k : Int)].length ≤ big := by unfold KI; rw [List.length_map, HM.out]; unfold big; simp only [List.length_singleton]; omega
                have hl2 : L.length ≤ 1000000 := by rw [HLm.out]; omega
                clear e1 e2 r1 r2 hrows hLb hLB hLl hKl b4
                go_wp2_with fail
                refine r_start (R := RB) (by rfl) (n := 37) (L := #[false, false, false, false, false, false, false, false, false, false, false, false, false, false, false, false, false, false, false, false, false, false, false, false, false, false, false, false, false, false, false, false, false, false, false, false, false]) rfl rfl ?_
                have bd : Below w4.heap.size w4 w4.drew := (Below.refl _ _).drew
                have h3 := h3.below m3 bd
                have m3 := m3.below bd
                have hS4 := Blk.below hS4 bd
                have c1 := cell_below c1 bd
                have c2 := cell_below c2 bd
                have hk1 := cell_below hk1 bd
                have hk5 := cell_below hk5 bd
                have rj4 := Rd.below rj4 bd
                have hrow := Rd.below hrow bd
                generalize w4.drew = wd1 at *
                clear bd
                refine r_flt RB_refl 0 76 #[true, false, false, false, false, false, false, false, false, false, false, false, false, false, false, false, false, false, false, false, false, false, false, false, false, false, false, false, false, false, false, false, false, false, false, false, false] (by simp only [List.getElem?_toArray, List.getElem?_cons_zero]; rfl) (by rfl) (by kernel_rfl) (by kernel_rfl) (by kernel_rfl) (fun _ _ _ _ h => h) rfl (by rfl) ?_
                apply Exists.intro
                apply And.intro
                · intro W hW
                  first | (go_simp; with_reducible rfl) | go_simp
                (try simp only [Act.put, List.setIfInBounds_toArray]); (try simp only [List.set_cons_succ]); (try simp only [List.set_cons_zero])
                refine r_flt RB_refl 1 77 #[true, true, false, false, false, false, false, false, false, false, false, false, false, false, false, false, false, false, false, false, false, false, false, false, false, false, false, false, false, false, false, false, false, false, false, false, false] (by simp only [List.getElem?_toArray, List.getElem?_cons_succ, List.getElem?_cons_zero]; rfl) (by rfl) (by kernel_rfl) (by kernel_rfl) (by kernel_rfl) (fun _ _ _ _ h => h) rfl (by rfl) ?_
                apply Exists.intro
                apply And.intro
                · intro W hW
                  first | (go_simp; with_reducible rfl) | go_simp
                (try simp only [Act.put, List.setIfInBounds_toArray]); (try simp only [List.set_cons_succ]); (try simp only [List.set_cons_zero])
                refine r_flt RB_refl 2 78 #[true, true, true, false, false, false, false, false, false, false, false, false, false, false, false, false, false, false, false, false, false, false, false, false, false, false, false, false, false, false, false, false, false, false, false, false, false] (by simp only [List.getElem?_toArray, List.getElem?_cons_succ, List.getElem?_cons_zero]; rfl) (by rfl) (by kernel_rfl) (by kernel_rfl) (by kernel_rfl) (fun _ _ _ _ h => h) rfl (by rfl) ?_
                apply Exists.intro
                apply And.intro
                · intro W hW
                  first | (go_simp; with_reducible rfl) | go_simp
                (try simp only [Act.put, List.setIfInBounds_toArray]); (try simp only [List.set_cons_succ]); (try simp only [List.set_cons_zero])
                refine r_flt RB_refl 3 79 #[true, true, true, true, false, false, false, false, false, false, false, false, false, false, false, false, false, false, false, false, false, false, false, false, false, false, false, false, false, false, false, false, false, false, false, false, false] (by simp only [List.getElem?_toArray, List.getElem?_cons_succ, List.getElem?_cons_zero]; rfl) (by rfl) (by kernel_rfl) (by kernel_rfl) (by kernel_rfl) (fun _ _ _ _ h => h) rfl (by rfl) ?_
                apply Exists.intro
                apply And.intro
                · intro W hW
                  first | (go_simp; with_reducible rfl) | go_simp
                (try simp only [Act.put, List.setIfInBounds_toArray]); (try simp only [List.set_cons_succ]); (try simp only [List.set_cons_zero])
                refine r_flt RB_refl 4 80 #[true, true, true, true, true, false, false, false, false, false, false, false, false, false, false, false, false, false, false, false, false, false, false, false, false, false, false, false, false, false, false, false, false, false, false, false, false] (by simp only [List.getElem?_toArray, List.getElem?_cons_succ, List.getElem?_cons_zero]; rfl) (by rfl) (by kernel_rfl) (by kernel_rfl) (by kernel_rfl) (fun _ _ _ _ h => h) rfl (by rfl) ?_
                apply Exists.intro
                apply And.intro
                · intro W hW
                  go_simp; first | (rw [HWM.out]; done) | (rw [HWM.out]; rfl)
                (try simp only [Act.put, List.setIfInBounds_toArray]); (try simp only [List.set_cons_succ]); (try simp only [List.set_cons_zero])
                refine r_flt RB_refl 5 81 #[true, true, true, true, true, true, false, false, false, false, false, false, false, false, false, false, false, false, false, false, false, false, false, false, false, false, false, false, false, false, false, false, false, false, false, false, false] (by simp only [List.getElem?_toArray, List.getElem?_cons_succ, List.getElem?_cons_zero]; rfl) (by rfl) (by kernel_rfl) (by kernel_rfl) (by kernel_rfl) (fun _ _ _ _ h => h) rfl (by rfl) ?_
                apply Exists.intro
                apply And.intro
                · intro W hW
                  go_simp; rfl
                (try simp only [Act.put, List.setIfInBounds_toArray]); (try simp only [List.set_cons_succ]); (try simp only [List.set_cons_zero])
                refine r_flt RB_refl 6 82 #[true, true, true, true, true, true, true, false, false, false, false, false, false, false, false, false, false, false, false, false, false, false, false, false, false, false, false, false, false, false, false, false, false, false, false, false, false] (by simp only [List.getElem?_toArray, List.getElem?_cons_succ, List.getElem?_cons_zero]; rfl) (by rfl) (by kernel_rfl) (by kernel_rfl) (by kernel_rfl) (fun _ _ _ _ h => h) rfl (by rfl) ?_
                apply Exists.intro
                apply And.intro
                · intro W hW
                  first | (go_simp; with_reducible rfl) | go_simp
                (try simp only [Act.put, List.setIfInBounds_toArray]); (try simp only [List.set_cons_succ]); (try simp only [List.set_cons_zero])
                refine r_flt RB_refl 7 83 #[true, true, true, true, true, true, true, true, false, false, false, false, false, false, false, false, false, false, false, false, false, false, false, false, false, false, false, false, false, false, false, false, false, false, false, false, false] (by simp only [List.getElem?_toArray, List.getElem?_cons_succ, List.getElem?_cons_zero]; rfl) (by rfl) (by kernel_rfl) (by kernel_rfl) (by kernel_rfl) (fun _ _ _ _ h => h) rfl (by rfl) ?_
                apply Exists.intro
                apply And.intro
                · intro W hW
                  first | (go_simp; with_reducible rfl) | go_simp
                (try simp only [Act.put, List.setIfInBounds_toArray]); (try simp only [List.set_cons_succ]); (try simp only [List.set_cons_zero])
                refine r_flt RB_refl 8 84 #[true, true, true, true, true, true, true, true, true, false, false, false, false, false, false, false, false, false, false, false, false, false, false, false, false, false, false, false, false, false, false, false, false, false, false, false, false] (by simp only [List.getElem?_toArray, List.getElem?_cons_succ, List.getElem?_cons_zero]; rfl) (by rfl) (by kernel_rfl) (by kernel_rfl) (by kernel_rfl) (fun _ _ _ _ h => h) rfl (by rfl) ?_
                apply Exists.intro
                apply And.intro
                · intro W hW
                  first | (go_simp; with_reducible rfl) | go_simp
                (try simp only [Act.put, List.setIfInBounds_toArray]); (try simp only [List.set_cons_succ]); (try simp only [List.set_cons_zero])
                refine r_flt RB_refl 9 85 #[true, true, true, true, true, true, true, true, true, true, false, false, false, false, false, false, false, false, false, false, false, false, false, false, false, false, false, false, false, false, false, false, false, false, false, false, false] (by simp only [List.getElem?_toArray, List.getElem?_cons_succ, List.getElem?_cons_zero]; rfl) (by rfl) (by kernel_rfl) (by kernel_rfl) (by kernel_rfl) (fun _ _ _ _ h => h) rfl (by rfl) ?_
                apply Exists.intro
                apply And.intro
                · intro W hW
                  first | (go_simp; with_reducible rfl) | go_simp
                (try simp only [Act.put, List.setIfInBounds_toArray]); (try simp only [List.set_cons_succ]); (try simp only [List.set_cons_zero])
                refine r_flt RB_refl 10 86 #[true, true, true, true, true, true, true, true, true, true, true, false, false, false, false, false, false, false, false, false, false, false, false, false, false, false, false, false, false, false, false, false, false, false, false, false, false] (by simp only [List.getElem?_toArray, List.getElem?_cons_succ, List.getElem?_cons_zero]; rfl) (by rfl) (by kernel_rfl) (by kernel_rfl) (by kernel_rfl) (fun _ _ _ _ h => h) rfl (by rfl) ?_
                apply Exists.intro
                apply And.intro
                · intro W hW
                  first | (go_simp; with_reducible rfl) | go_simp
                (try simp only [Act.put, List.setIfInBounds_toArray]); (try simp only [List.set_cons_succ]); (try simp only [List.set_cons_zero])
                refine r_flt RB_refl 11 87 #[true, true, true, true, true, true, true, true, true, true, true, true, false, false, false, false, false, false, false, false, false, false, false, false, false, false, false, false, false, false, false, false, false, false, false, false, false] (by simp only [List.getElem?_toArray, List.getElem?_cons_succ, List.getElem?_cons_zero]; rfl) (by rfl) (by kernel_rfl) (by kernel_rfl) (by kernel_rfl) (fun _ _ _ _ h => h) rfl (by rfl) ?_
                apply Exists.intro
                apply And.intro
                · intro W hW
                  first | (go_simp; with_reducible rfl) | go_simp
                (try simp only [Act.put, List.setIfInBounds_toArray]); (try simp only [List.set_cons_succ]); (try simp only [List.set_cons_zero])
                refine r_flt RB_refl 12 88 #[true, true, true, true, true, true, true, true, true, true, true, true, true, false, false, false, false, false, false, false, false, false, false, false, false, false, false, false, false, false, false, false, false, false, false, false, false] (by simp only [List.getElem?_toArray, List.getElem?_cons_succ, List.getElem?_cons_zero]; rfl) (by rfl) (by kernel_rfl) (by kernel_rfl) (by kernel_rfl) (fun _ _ _ _ h => h) rfl (by rfl) ?_
                apply Exists.intro
                apply And.intro
                · intro W hW
                  first | (go_simp; with_reducible rfl) | go_simp
                (try simp only [Act.put, List.setIfInBounds_toArray]); (try simp only [List.set_cons_succ]); (try simp only [List.set_cons_zero])
                refine r_flt RB_refl 13 89 #[true, true, true, true, true, true, true, true, true, true, true, true, true, true, false, false, false, false, false, false, false, false, false, false, false, false, false, false, false, false, false, false, false, false, false, false, false] (by simp only [List.getElem?_toArray, List.getElem?_cons_succ, List.getElem?_cons_zero]; rfl) (by rfl) (by kernel_rfl) (by kernel_rfl) (by kernel_rfl) (fun _ _ _ _ h => h) rfl (by rfl) ?_
                apply Exists.intro
                apply And.intro
                · intro W hW
                  first | (go_simp; with_reducible rfl) | go_simp
                (try simp only [Act.put, List.setIfInBounds_toArray]); (try simp only [List.set_cons_succ]); (try simp only [List.set_cons_zero])
                refine r_flt RB_refl 14 90 #[true, true, true, true, true, true, true, true, true, true, true, true, true, true, true, false, false, false, false, false, false, false, false, false, false, false, false, false, false, false, false, false, false, false, false, false, false] (by simp only [List.getElem?_toArray, List.getElem?_cons_succ, List.getElem?_cons_zero]; rfl) (by rfl) (by kernel_rfl) (by kernel_rfl) (by kernel_rfl) (fun _ _ _ _ h => h) rfl (by rfl) ?_
                apply Exists.intro
                apply And.intro
                · intro W hW
                  first | (go_simp; with_reducible rfl) | go_simp
                (try simp only [Act.put, List.setIfInBounds_toArray]); (try simp only [List.set_cons_succ]); (try simp only [List.set_cons_zero])
                refine r_flt RB_refl 15 91 #[true, true, true, true, true, true, true, true, true, true, true, true, true, true, true, true, false, false, false, false, false, false, false, false, false, false, false, false, false, false, false, false, false, false, false, false, false] (by simp only [List.getElem?_toArray, List.getElem?_cons_succ, List.getElem?_cons_zero]; rfl) (by rfl) (by kernel_rfl) (by kernel_rfl) (by kernel_rfl) (fun _ _ _ _ h => h) rfl (by rfl) ?_
                apply Exists.intro
                apply And.intro
                · intro W hW
                  first | (go_simp; with_reducible rfl) | go_simp
                (try simp only [Act.put, List.setIfInBounds_toArray]); (try simp only [List.set_cons_succ]); (try simp only [List.set_cons_zero])
                refine r_flt RB_refl 16 92 #[true, true, true, true, true, true, true, true, true, true, true, true, true, true, true, true, true, false, false, false, false, false, false, false, false, false, false, false, false, false, false, false, false, false, false, false, false] (by simp only [List.getElem?_toArray, List.getElem?_cons_succ, List.getElem?_cons_zero]; rfl) (by rfl) (by kernel_rfl) (by kernel_rfl) (by kernel_rfl) (fun _ _ _ _ h => h) rfl (by rfl) ?_
                apply Exists.intro
                apply And.intro
                · intro W hW
                  first | (go_simp; with_reducible rfl) | go_simp
                (try simp only [Act.put, List.setIfInBounds_toArray]); (try simp only [List.set_cons_succ]); (try simp only [List.set_cons_zero])
                refine r_flt RB_refl 17 93 #[true, true, true, true, true, true, true, true, true, true, true, true, true, true, true, true, true, true, false, false, false, false, false, false, false, false, false, false, false, false, false, false, false, false, false, false, false] (by simp only [List.getElem?_toArray, List.getElem?_cons_succ, List.getElem?_cons_zero]; rfl) (by rfl) (by kernel_rfl) (by kernel_rfl) (by kernel_rfl) (fun _ _ _ _ h => h) rfl (by rfl) ?_
                apply Exists.intro
                apply And.intro
                · intro W hW
                  go_simp; rfl
                (try simp only [Act.put, List.setIfInBounds_toArray]); (try simp only [List.set_cons_succ]); (try simp only [List.set_cons_zero])
                refine r_flt RB_refl 18 94 #[true, true, true, true, true, true, true, true, true, true, true, true, true, true, true, true, true, true, true, false, false, false, false, false, false, false, false, false, false, false, false, false, false, false, false, false, false] (by simp only [List.getElem?_toArray, List.getElem?_cons_succ, List.getElem?_cons_zero]; rfl) (by rfl) (by kernel_rfl) (by kernel_rfl) (by kernel_rfl) (fun _ _ _ _ h => h) rfl (by rfl) ?_
                apply Exists.intro
                apply And.intro
                · intro W hW
                  have q := cell_below hk1 hW
                  go_simp; rfl
                (try simp only [Act.put, List.setIfInBounds_toArray]); (try simp only [List.set_cons_succ]); (try simp only [List.set_cons_zero])
                refine r_flt RB_refl 19 95 #[true, true, true, true, true, true, true, true, true, true, true, true, true, true, true, true, true, true, true, true, false, false, false, false, false, false, false, false, false, false, false, false, false, false, false, false, false] (by simp only [List.getElem?_toArray, List.getElem?_cons_succ, List.getElem?_cons_zero]; rfl) (by rfl) (by kernel_rfl) (by kernel_rfl) (by kernel_rfl) (fun _ _ _ _ h => h) rfl (by rfl) ?_
                apply Exists.intro
                apply And.intro
                · intro W hW
                  first | (go_simp; with_reducible rfl) | go_simp
                (try simp only [Act.put, List.setIfInBounds_toArray]); (try simp only [List.set_cons_succ]); (try simp only [List.set_cons_zero])
                refine r_flt RB_refl 20 96 #[true, true, true, true, true, true, true, true, true, true, true, true, true, true, true, true, true, true, true, true, true, false, false, false, false, false, false, false, false, false, false, false, false, false, false, false, false] (by simp only [List.getElem?_toArray, List.getElem?_cons_succ, List.getElem?_cons_zero]; rfl) (by rfl) (by kernel_rfl) (by kernel_rfl) (by kernel_rfl) (fun _ _ _ _ h => h) rfl (by rfl) ?_
                apply Exists.intro
                apply And.intro
                · intro W hW
                  have q := cell_below c1 hW
                  go_simp; rfl
                (try simp only [Act.put, List.setIfInBounds_toArray]); (try simp only [List.set_cons_succ]); (try simp only [List.set_cons_zero])
                refine r_flt RB_refl 21 97 #[true, true, true, true, true, true, true, true, true, true, true, true, true, true, true, true, true, true, true, true, true, true, false, false, false, false, false, false, false, false, false, false, false, false, false, false, false] (by simp only [List.getElem?_toArray, List.getElem?_cons_succ, List.getElem?_cons_zero]; rfl) (by rfl) (by kernel_rfl) (by kernel_rfl) (by kernel_rfl) (fun _ _ _ _ h => h) rfl (by rfl) ?_
                apply Exists.intro
                apply And.intro
                · intro W hW
                  first | (go_simp; with_reducible rfl) | go_simp
                (try simp only [Act.put, List.setIfInBounds_toArray]); (try simp only [List.set_cons_succ]); (try simp only [List.set_cons_zero])
                refine r_flt RB_refl 22 98 #[true, true, true, true, true, true, true, true, true, true, true, true, true, true, true, true, true, true, true, true, true, true, true, false, false, false, false, false, false, false, false, false, false, false, false, false, false] (by simp only [List.getElem?_toArray, List.getElem?_cons_succ, List.getElem?_cons_zero]; rfl) (by rfl) (by kernel_rfl) (by kernel_rfl) (by kernel_rfl) (fun _ _ _ _ h => h) rfl (by rfl) ?_
                apply Exists.intro
                apply And.intro
                · intro W hW
                  first | (go_simp; with_reducible rfl) | go_simp
                (try simp only [Act.put, List.setIfInBounds_toArray]); (try simp only [List.set_cons_succ]); (try simp only [List.set_cons_zero])
                refine r_flt RB_refl 23 99 #[true, true, true, true, true, true, true, true, true, true, true, true, true, true, true, true, true, true, true, true, true, true, true, true, false, false, false, false, false, false, false, false, false, false, false, false, false] (by simp only [List.getElem?_toArray, List.getElem?_cons_succ, List.getElem?_cons_zero]; rfl) (by rfl) (by kernel_rfl) (by kernel_rfl) (by kernel_rfl) (fun _ _ _ _ h => h) rfl (by rfl) ?_
                apply Exists.intro
                apply And.intro
                · intro W hW
                  first | (go_simp; with_reducible rfl) | go_simp
                (try simp only [Act.put, List.setIfInBounds_toArray]); (try simp only [List.set_cons_succ]); (try simp only [List.set_cons_zero])
                refine r_flt RB_refl 24 100 #[true, true, true, true, true, true, true, true, true, true, true, true, true, true, true, true, true, true, true, true, true, true, true, true, true, false, false, false, false, false, false, false, false, false, false, false, false] (by simp only [List.getElem?_toArray, List.getElem?_cons_succ, List.getElem?_cons_zero]; rfl) (by rfl) (by kernel_rfl) (by kernel_rfl) (by kernel_rfl) (fun _ _ _ _ h => h) rfl (by rfl) ?_
                apply Exists.intro
                apply And.intro
                · intro W hW
                  first | (go_simp; with_reducible rfl) | go_simp
                (try simp only [Act.put, List.setIfInBounds_toArray]); (try simp only [List.set_cons_succ]); (try simp only [List.set_cons_zero])
                refine r_flt RB_refl 25 101 #[true, true, true, true, true, true, true, true, true, true, true, true, true, true, true, true, true, true, true, true, true, true, true, true, true, true, false, false, false, false, false, false, false, false, false, false, false] (by simp only [List.getElem?_toArray, List.getElem?_cons_succ, List.getElem?_cons_zero]; rfl) (by rfl) (by kernel_rfl) (by kernel_rfl) (by kernel_rfl) (fun _ _ _ _ h => h) rfl (by rfl) ?_
                apply Exists.intro
                apply And.intro
                · intro W hW
                  first | (go_simp; with_reducible rfl) | go_simp
                (try simp only [Act.put, List.setIfInBounds_toArray]); (try simp only [List.set_cons_succ]); (try simp only [List.set_cons_zero])
                refine r_flt RB_refl 26 102 #[true, true, true, true, true, true, true, true, true, true, true, true, true, true, true, true, true, true, true, true, true, true, true, true, true, true, true, false, false, false, false, false, false, false, false, false, false] (by simp only [List.getElem?_toArray, List.getElem?_cons_succ, List.getElem?_cons_zero]; rfl) (by rfl) (by kernel_rfl) (by kernel_rfl) (by kernel_rfl) (fun _ _ _ _ h => h) rfl (by rfl) ?_
                apply Exists.intro
                apply And.intro
                · intro W hW
                  first | (go_simp; with_reducible rfl) | go_simp
                (try simp only [Act.put, List.setIfInBounds_toArray]); (try simp only [List.set_cons_succ]); (try simp only [List.set_cons_zero])
                refine r_flt RB_refl 27 103 #[true, true, true, true, true, true, true, true, true, true, true, true, true, true, true, true, true, true, true, true, true, true, true, true, true, true, true, true, false, false, false, false, false, false, false, false, false] (by simp only [List.getElem?_toArray, List.getElem?_cons_succ, List.getElem?_cons_zero]; rfl) (by rfl) (by kernel_rfl) (by kernel_rfl) (by kernel_rfl) (fun _ _ _ _ h => h) rfl (by rfl) ?_
                apply Exists.intro
                apply And.intro
                · intro W hW
                  first | (go_simp; with_reducible rfl) | go_simp
                (try simp only [Act.put, List.setIfInBounds_toArray]); (try simp only [List.set_cons_succ]); (try simp only [List.set_cons_zero])
                refine r_flt RB_refl 28 104 #[true, true, true, true, true, true, true, true, true, true, true, true, true, true, true, true, true, true, true, true, true, true, true, true, true, true, true, true, true, false, false, false, false, false, false, false, false] (by simp only [List.getElem?_toArray, List.getElem?_cons_succ, List.getElem?_cons_zero]; rfl) (by rfl) (by kernel_rfl) (by kernel_rfl) (by kernel_rfl) (fun _ _ _ _ h => h) rfl (by rfl) ?_
                apply Exists.intro
                apply And.intro
                · intro W hW
                  go_simp; rfl
                (try simp only [Act.put, List.setIfInBounds_toArray]); (try simp only [List.set_cons_succ]); (try simp only [List.set_cons_zero])
                refine r_flt RB_refl 29 105 #[true, true, true, true, true, true, true, true, true, true, true, true, true, true, true, true, true, true, true, true, true, true, true, true, true, true, true, true, true, true, false, false, false, false, false, false, false] (by simp only [List.getElem?_toArray, List.getElem?_cons_succ, List.getElem?_cons_zero]; rfl) (by rfl) (by kernel_rfl) (by kernel_rfl) (by kernel_rfl) (fun _ _ _ _ h => h) rfl (by rfl) ?_
                apply Exists.intro
                apply And.intro
                · intro W hW
                  have q := cell_below hk5 hW
                  go_simp; rfl
                (try simp only [Act.put, List.setIfInBounds_toArray]); (try simp only [List.set_cons_succ]); (try simp only [List.set_cons_zero])
                refine r_flt RB_refl 30 106 #[true, true, true, true, true, true, true, true, true, true, true, true, true, true, true, true, true, true, true, true, true, true, true, true, true, true, true, true, true, true, true, false, false, false, false, false, false] (by simp only [List.getElem?_toArray, List.getElem?_cons_succ, List.getElem?_cons_zero]; rfl) (by rfl) (by kernel_rfl) (by kernel_rfl) (by kernel_rfl) (fun _ _ _ _ h => h) rfl (by rfl) ?_
                apply Exists.intro
                apply And.intro
                · intro W hW
                  have q := str_rd (c := cy) (Rd.below hrow hW) rfl
                  go_simp; rfl
                (try simp only [Act.put, List.setIfInBounds_toArray]); (try simp only [List.set_cons_succ]); (try simp only [List.set_cons_zero])
                refine r_flt RB_refl 31 107 #[true, true, true, true, true, true, true, true, true, true, true, true, true, true, true, true, true, true, true, true, true, true, true, true, true, true, true, true, true, true, true, true, false, false, false, false, false] (by simp only [List.getElem?_toArray, List.getElem?_cons_succ, List.getElem?_cons_zero]; rfl) (by rfl) (by kernel_rfl) (by kernel_rfl) (by kernel_rfl) (fun _ _ _ _ h => h) rfl (by rfl) ?_
                apply Exists.intro
                apply And.intro
                · intro W hW
                  first | (go_simp; with_reducible rfl) | go_simp
                (try simp only [Act.put, List.setIfInBounds_toArray]); (try simp only [List.set_cons_succ]); (try simp only [List.set_cons_zero])
                refine r_flt RB_refl 32 108 #[true, true, true, true, true, true, true, true, true, true, true, true, true, true, true, true, true, true, true, true, true, true, true, true, true, true, true, true, true, true, true, true, true, false, false, false, false] (by simp only [List.getElem?_toArray, List.getElem?_cons_succ, List.getElem?_cons_zero]; rfl) (by rfl) (by kernel_rfl) (by kernel_rfl) (by kernel_rfl) (fun _ _ _ _ h => h) rfl (by rfl) ?_
                apply Exists.intro
                apply And.intro
                · intro W hW
                  have q := cell_below c2 hW
                  go_simp; rfl
                (try simp only [Act.put, List.setIfInBounds_toArray]); (try simp only [List.set_cons_succ]); (try simp only [List.set_cons_zero])
                refine r_flt RB_refl 33 109 #[true, true, true, true, true, true, true, true, true, true, true, true, true, true, true, true, true, true, true, true, true, true, true, true, true, true, true, true, true, true, true, true, true, true, false, false, false] (by simp only [List.getElem?_toArray, List.getElem?_cons_succ, List.getElem?_cons_zero]; rfl) (by rfl) (by kernel_rfl) (by kernel_rfl) (by kernel_rfl) (fun _ _ _ _ h => h) rfl (by rfl) ?_
                apply Exists.intro
                apply And.intro
                · intro W hW
                  have q := str_rd (c := cx) (Rd.below rj4 hW) rfl
                  go_simp; rfl
                (try simp only [Act.put, List.setIfInBounds_toArray]); (try simp only [List.set_cons_succ]); (try simp only [List.set_cons_zero])
                refine r_flt RB_refl 34 110 #[true, true, true, true, true, true, true, true, true, true, true, true, true, true, true, true, true, true, true, true, true, true, true, true, true, true, true, true, true, true, true, true, true, true, true, false, false] (by simp only [List.getElem?_toArray, List.getElem?_cons_succ, List.getElem?_cons_zero]; rfl) (by rfl) (by kernel_rfl) (by kernel_rfl) (by kernel_rfl) (fun _ _ _ _ h => h) rfl (by rfl) ?_
                apply Exists.intro
                apply And.intro
                · intro W hW
                  first | (go_simp; with_reducible rfl) | go_simp
                (try simp only [Act.put, List.setIfInBounds_toArray]); (try simp only [List.set_cons_succ]); (try simp only [List.set_cons_zero])
                refine r_flt RB_refl 35 111 #[true, true, true, true, true, true, true, true, true, true, true, true, true, true, true, true, true, true, true, true, true, true, true, true, true, true, true, true, true, true, true, true, true, true, true, true, false] (by simp only [List.getElem?_toArray, List.getElem?_cons_succ, List.getElem?_cons_zero]; rfl) (by rfl) (by kernel_rfl) (by kernel_rfl) (by kernel_rfl) (fun _ _ _ _ h => h) rfl (by rfl) ?_
                apply Exists.intro
                apply And.intro
                · intro W hW
                  first | (go_simp; with_reducible rfl) | go_simp
                (try simp only [Act.put, List.setIfInBounds_toArray]); (try simp only [List.set_cons_succ]); (try simp only [List.set_cons_zero])
                refine r_flt RB_refl 36 13 #[true, true, true, true, true, true, true, true, true, true, true, true, true, true, true, true, true, true, true, true, true, true, true, true, true, true, true, true, true, true, true, true, true, true, true, true, true] (by simp only [List.getElem?_toArray, List.getElem?_cons_succ, List.getElem?_cons_zero]; rfl) (by rfl) (by kernel_rfl) (by kernel_rfl) (by kernel_rfl) (fun _ _ _ _ h => h) rfl (by rfl) ?_
                apply Exists.intro
                apply And.intro
                · intro W hW
                  first | (go_simp; with_reducible rfl) | go_simp
                (try simp only [Act.put, List.setIfInBounds_toArray]); (try simp only [List.set_cons_succ]); (try simp only [List.set_cons_zero])
                refine r_done (by kernel_rfl) ?_
                rcases hy with rfl | rfl
                all_goals
                  have nL := below_new wd1 (.cells #[.int .i64 (k : Int)] 3)
                  have h3L := h3.below m3 nL
                  have m3L := m3.below nL
                  have hSL := Blk.below hS4 nL
                  have sz := h3L.2.2.2.2.2.2.size
                  go_wp2_with first
                    | (at_builtin
                       refine wpList_appI rfl (.tmp 134) (.tmp 138) rfl w.heap.size _ (KI P) rfl h3L.1 _ (some ⟨wd1.heap.size, 0, none⟩) 1 1 [(k : Int)] rfl rfl (rd_newI wd1 _) hl1 sz ?_
                       intro vk w5 h5 x5
                       obtain ⟨k5, m5⟩ := h3L.grow1 m3L x5 h5
                       have c2 := (hSL.grown x5.grown (fun e => by have := hkb _ e.symm; omega)).cell 2
                       simp at c2
                       have nM := below_new w5 (.cells #[cS ⟨Ax, x, cx⟩] 28)
                       have k5M := k5.below m5 nM
                       have m5M := m5.below nM
                       have szM := k5M.2.2.2.2.2.2.size)
                    | (at_builtin
                       refine wpList_appS rfl (.tmp 140) (.tmp 143) rfl w.heap.size _ L rfl k5M.2.1 _ (some ⟨w5.heap.size, 0, none⟩) 1 ⟨Ax, x, cx⟩ rfl (rd_newS w5 ⟨Ax, x, cx⟩) hl2 szM ?_
                       intro vb w6 h6 x6
                       obtain ⟨k6, m6⟩ := k5M.grow2 m5M x6 h6 (fun t ht => by
                         rcases List.mem_append.1 ht with h | h
                         · exact h3.2.2.1 t h
                         · obtain rfl : t = ⟨Ax, x, cx⟩ := by simpa using h
                           exact rj0))
                  go_meet
                  case rel => exact ⟨P ++ [(k, x)], s1, v3, L ++ [⟨Ax, x, cx⟩], by rw [List.length_append]; exact Nat.le_refl _, HK1, Lib.hid (by rw [List.map_append, HL.out]; unfold BI; rw [List.map_append]; rfl), m6, by unfold KI; rw [List.map_append]; exact k6⟩
              · have HK1 := Lib.hid hk1
                have hrc := Records_P w.heap.size g v3 s1 _ w3 m3 hk1 (by omega) (ht.below h3.2.2.2.2.2.2)
                rw [HM.out] at hrc
                obtain rfl := hy
                clear hk1
                go_wp2_with fail
                refine hrc.mono ?_
                clear hrc
                rintro e w4 ⟨A1, A2, d1, d2, LB, rfl, hLB, r1, r2, hLb, hrows, b4⟩
                have h3 := h3.below m3 b4
                have m3 := m3.below b4
                have hS4 := Blk.below hS3 b4
                have c1 := hS4.cell 1
                have c2 := hS4.cell 2
                simp at c1 c2
                have HNE : Hid (((m : Int) == (m : Int) + 1) = false) := by unfold Hid; simp; omega
                clear r1 r2 hrows hLb hLB b4
                go_wp2_with fail
                refine r_start (R := RB) (by rfl) (n := 37) (L := #[false, false, false, false, false, false, false, false, false, false, false, false, false, false, false, false, false, false, false, false, false, false, false, false, false, false, false, false, false, false, false, false, false, false, false, false, false]) rfl rfl ?_
                have bd : Below w4.heap.size w4 w4.drew := (Below.refl _ _).drew
                have h3 := h3.below m3 bd
                have m3 := m3.below bd
                have hS4 := Blk.below hS4 bd
                have c1 := cell_below c1 bd
                have c2 := cell_below c2 bd
                generalize w4.drew = wd1 at *
                clear bd
                refine r_flt RB_refl 0 76 #[true, false, false, false, false, false, false, false, false, false, false, false, false, false, false, false, false, false, false, false, false, false, false, false, false, false, false, false, false, false, false, false, false, false, false, false, false] (by simp only [List.getElem?_toArray, List.getElem?_cons_zero]; rfl) (by rfl) (by kernel_rfl) (by kernel_rfl) (by kernel_rfl) (fun _ _ _ _ h => h) rfl (by rfl) ?_
                apply Exists.intro
                apply And.intro
                · intro W hW
                  first | (go_simp; with_reducible rfl) | go_simp
                (try simp only [Act.put, List.setIfInBounds_toArray]); (try simp only [List.set_cons_succ]); (try simp only [List.set_cons_zero])
                refine r_flt RB_refl 1 77 #[true, true, false, false, false, false, false, false, false, false, false, false, false, false, false, false, false, false, false, false, false, false, false, false, false, false, false, false, false, false, false, false, false, false, false, false, false] (by simp only [List.getElem?_toArray, List.getElem?_cons_succ, List.getElem?_cons_zero]; rfl) (by rfl) (by kernel_rfl) (by kernel_rfl) (by kernel_rfl) (fun _ _ _ _ h => h) rfl (by rfl) ?_
                apply Exists.intro
                apply And.intro
                · intro W hW
                  first | (go_simp; with_reducible rfl) | go_simp
                (try simp only [Act.put, List.setIfInBounds_toArray]); (try simp only [List.set_cons_succ]); (try simp only [List.set_cons_zero])
                refine r_flt RB_refl 2 78 #[true, true, true, false, false, false, false, false, false, false, false, false, false, false, false, false, false, false, false, false, false, false, false, false, false, false, false, false, false, false, false, false, false, false, false, false, false] (by simp only [List.getElem?_toArray, List.getElem?_cons_succ, List.getElem?_cons_zero]; rfl) (by rfl) (by kernel_rfl) (by kernel_rfl) (by kernel_rfl) (fun _ _ _ _ h => h) rfl (by rfl) ?_
                apply Exists.intro
                apply And.intro
                · intro W hW
                  first | (go_simp; with_reducible rfl) | go_simp
                (try simp only [Act.put, List.setIfInBounds_toArray]); (try simp only [List.set_cons_succ]); (try simp only [List.set_cons_zero])
                refine r_flt RB_refl 3 79 #[true, true, true, true, false, false, false, false, false, false, false, false, false, false, false, false, false, false, false, false, false, false, false, false, false, false, false, false, false, false, false, false, false, false, false, false, false] (by simp only [List.getElem?_toArray, List.getElem?_cons_succ, List.getElem?_cons_zero]; rfl) (by rfl) (by kernel_rfl) (by kernel_rfl) (by kernel_rfl) (fun _ _ _ _ h => h) rfl (by rfl) ?_
                apply Exists.intro
                apply And.intro
                · intro W hW
                  first | (go_simp; with_reducible rfl) | go_simp
                (try simp only [Act.put, List.setIfInBounds_toArray]); (try simp only [List.set_cons_succ]); (try simp only [List.set_cons_zero])
                refine r_flt RB_refl 4 80 #[true, true, true, true, true, false, false, false, false, false, false, false, false, false, false, false, false, false, false, false, false, false, false, false, false, false, false, false, false, false, false, false, false, false, false, false, false] (by simp only [List.getElem?_toArray, List.getElem?_cons_succ, List.getElem?_cons_zero]; rfl) (by rfl) (by kernel_rfl) (by kernel_rfl) (by kernel_rfl) (fun _ _ _ _ h => h) rfl (by rfl) ?_
                apply Exists.intro
                apply And.intro
                · intro W hW
                  go_simp; first | (rw [HWM.out]; done) | (rw [HWM.out]; rfl)
                (try simp only [Act.put, List.setIfInBounds_toArray]); (try simp only [List.set_cons_succ]); (try simp only [List.set_cons_zero])
                refine r_flt RB_refl 5 81 #[true, true, true, true, true, true, false, false, false, false, false, false, false, false, false, false, false, false, false, false, false, false, false, false, false, false, false, false, false, false, false, false, false, false, false, false, false] (by simp only [List.getElem?_toArray, List.getElem?_cons_succ, List.getElem?_cons_zero]; rfl) (by rfl) (by kernel_rfl) (by kernel_rfl) (by kernel_rfl) (fun _ _ _ _ h => h) rfl (by rfl) ?_
                apply Exists.intro
                apply And.intro
                · intro W hW
                  first | (go_simp; done) | (go_simp; rw [HNE.out]; done) | (go_simp; rw [HNE.out]; rfl)
                (try simp only [Act.put, List.setIfInBounds_toArray]); (try simp only [List.set_cons_succ]); (try simp only [List.set_cons_zero])
                refine r_flt RB_refl 6 82 #[true, true, true, true, true, true, true, false, false, false, false, false, false, false, false, false, false, false, false, false, false, false, false, false, false, false, false, false, false, false, false, false, false, false, false, false, false] (by simp only [List.getElem?_toArray, List.getElem?_cons_succ, List.getElem?_cons_zero]; rfl) (by rfl) (by kernel_rfl) (by kernel_rfl) (by kernel_rfl) (fun _ _ _ _ h => h) rfl (by rfl) ?_
                apply Exists.intro
                apply And.intro
                · intro W hW
                  first | (go_simp; with_reducible rfl) | go_simp
                (try simp only [Act.put, List.setIfInBounds_toArray]); (try simp only [List.set_cons_succ]); (try simp only [List.set_cons_zero])
                refine r_skip RB_refl 7 83 #[true, true, true, true, true, true, true, true, false, false, false, false, false, false, false, false, false, false, false, false, false, false, false, false, false, false, false, false, false, false, false, false, false, false, false, false, false] (by simp only [List.getElem?_toArray, List.getElem?_cons_succ, List.getElem?_cons_zero]; rfl) (by rfl) (by kernel_rfl) (by kernel_rfl) (by kernel_rfl) (fun _ _ _ _ h => h) rfl (by rfl) ?_
                (try simp only [Act.put, List.setIfInBounds_toArray]); (try simp only [List.set_cons_succ]); (try simp only [List.set_cons_zero])
                refine r_skip RB_refl 8 84 #[true, true, true, true, true, true, true, true, true, false, false, false, false, false, false, false, false, false, false, false, false, false, false, false, false, false, false, false, false, false, false, false, false, false, false, false, false] (by simp only [List.getElem?_toArray, List.getElem?_cons_succ, List.getElem?_cons_zero]; rfl) (by rfl) (by kernel_rfl) (by kernel_rfl) (by kernel_rfl) (fun _ _ _ _ h => h) rfl (by rfl) ?_
                (try simp only [Act.put, List.setIfInBounds_toArray]); (try simp only [List.set_cons_succ]); (try simp only [List.set_cons_zero])
                refine r_skip RB_refl 9 85 #[true, true, true, true, true, true, true, true, true, true, false, false, false, false, false, false, false, false, false, false, false, false, false, false, false, false, false, false, false, false, false, false, false, false, false, false, false] (by simp only [List.getElem?_toArray, List.getElem?_cons_succ, List.getElem?_cons_zero]; rfl) (by rfl) (by kernel_rfl) (by kernel_rfl) (by kernel_rfl) (fun _ _ _ _ h => h) rfl (by rfl) ?_
                (try simp only [Act.put, List.setIfInBounds_toArray]); (try simp only [List.set_cons_succ]); (try simp only [List.set_cons_zero])
                refine r_skip RB_refl 10 86 #[true, true, true, true, true, true, true, true, true, true, true, false, false, false, false, false, false, false, false, false, false, false, false, false, false, false, false, false, false, false, false, false, false, false, false, false, false] (by simp only [List.getElem?_toArray, List.getElem?_cons_succ, List.getElem?_cons_zero]; rfl) (by rfl) (by kernel_rfl) (by kernel_rfl) (by kernel_rfl) (fun _ _ _ _ h => h) rfl (by rfl) ?_
                (try simp only [Act.put, List.setIfInBounds_toArray]); (try simp only [List.set_cons_succ]); (try simp only [List.set_cons_zero])
                refine r_skip RB_refl 11 87 #[true, true, true, true, true, true, true, true, true, true, true, true, false, false, false, false, false, false, false, false, false, false, false, false, false, false, false, false, false, false, false, false, false, false, false, false, false] (by simp only [List.getElem?_toArray, List.getElem?_cons_succ, List.getElem?_cons_zero]; rfl) (by rfl) (by kernel_rfl) (by kernel_rfl) (by kernel_rfl) (fun _ _ _ _ h => h) rfl (by rfl) ?_
                (try simp only [Act.put, List.setIfInBounds_toArray]); (try simp only [List.set_cons_succ]); (try simp only [List.set_cons_zero])
                refine r_flt RB_refl 12 88 #[true, true, true, true, true, true, true, true, true, true, true, true, true, false, false, false, false, false, false, false, false, false, false, false, false, false, false, false, false, false, false, false, false, false, false, false, false] (by simp only [List.getElem?_toArray, List.getElem?_cons_succ, List.getElem?_cons_zero]; rfl) (by rfl) (by kernel_rfl) (by kernel_rfl) (by kernel_rfl) (fun _ _ _ _ h => h) rfl (by rfl) ?_
                apply Exists.intro
                apply And.intro
                · intro W hW
                  first | (go_simp; with_reducible rfl) | go_simp
                (try simp only [Act.put, List.setIfInBounds_toArray]); (try simp only [List.set_cons_succ]); (try simp only [List.set_cons_zero])
                refine r_flt RB_refl 13 89 #[true, true, true, true, true, true, true, true, true, true, true, true, true, true, false, false, false, false, false, false, false, false, false, false, false, false, false, false, false, false, false, false, false, false, false, false, false] (by simp only [List.getElem?_toArray, List.getElem?_cons_succ, List.getElem?_cons_zero]; rfl) (by rfl) (by kernel_rfl) (by kernel_rfl) (by kernel_rfl) (fun _ _ _ _ h => h) rfl (by rfl) ?_
                apply Exists.intro
                apply And.intro
                · intro W hW
                  first | (go_simp; with_reducible rfl) | go_simp
                (try simp only [Act.put, List.setIfInBounds_toArray]); (try simp only [List.set_cons_succ]); (try simp only [List.set_cons_zero])
                refine r_skip RB_refl 14 90 #[true, true, true, true, true, true, true, true, true, true, true, true, true, true, true, false, false, false, false, false, false, false, false, false, false, false, false, false, false, false, false, false, false, false, false, false, false] (by simp only [List.getElem?_toArray, List.getElem?_cons_succ, List.getElem?_cons_zero]; rfl) (by rfl) (by kernel_rfl) (by kernel_rfl) (by kernel_rfl) (fun _ _ _ _ h => h) rfl (by rfl) ?_
                (try simp only [Act.put, List.setIfInBounds_toArray]); (try simp only [List.set_cons_succ]); (try simp only [List.set_cons_zero])
                refine r_skip RB_refl 15 91 #[true, true, true, true, true, true, true, true, true, true, true, true, true, true, true, true, false, false, false, false, false, false, false, false, false, false, false, false, false, false, false, false, false, false, false, false, false] (by simp only [List.getElem?_toArray, List.getElem?_cons_succ, List.getElem?_cons_zero]; rfl) (by rfl) (by kernel_rfl) (by kernel_rfl) (by kernel_rfl) (fun _ _ _ _ h => h) rfl (by rfl) ?_
                (try simp only [Act.put, List.setIfInBounds_toArray]); (try simp only [List.set_cons_succ]); (try simp only [List.set_cons_zero])
                refine r_skip RB_refl 16 92 #[true, true, true, true, true, true, true, true, true, true, true, true, true, true, true, true, true, false, false, false, false, false, false, false, false, false, false, false, false, false, false, false, false, false, false, false, false] (by simp only [List.getElem?_toArray, List.getElem?_cons_succ, List.getElem?_cons_zero]; rfl) (by rfl) (by kernel_rfl) (by kernel_rfl) (by kernel_rfl) (fun _ _ _ _ h => h) rfl (by rfl) ?_
                (try simp only [Act.put, List.setIfInBounds_toArray]); (try simp only [List.set_cons_succ]); (try simp only [List.set_cons_zero])
                refine r_skip RB_refl 17 93 #[true, true, true, true, true, true, true, true, true, true, true, true, true, true, true, true, true, true, false, false, false, false, false, false, false, false, false, false, false, false, false, false, false, false, false, false, false] (by simp only [List.getElem?_toArray, List.getElem?_cons_succ, List.getElem?_cons_zero]; rfl) (by rfl) (by kernel_rfl) (by kernel_rfl) (by kernel_rfl) (fun _ _ _ _ h => h) rfl (by rfl) ?_
                (try simp only [Act.put, List.setIfInBounds_toArray]); (try simp only [List.set_cons_succ]); (try simp only [List.set_cons_zero])
                refine r_skip RB_refl 18 94 #[true, true, true, true, true, true, true, true, true, true, true, true, true, true, true, true, true, true, true, false, false, false, false, false, false, false, false, false, false, false, false, false, false, false, false, false, false] (by simp only [List.getElem?_toArray, List.getElem?_cons_succ, List.getElem?_cons_zero]; rfl) (by rfl) (by kernel_rfl) (by kernel_rfl) (by kernel_rfl) (fun _ _ _ _ h => h) rfl (by rfl) ?_
                (try simp only [Act.put, List.setIfInBounds_toArray]); (try simp only [List.set_cons_succ]); (try simp only [List.set_cons_zero])
                refine r_skip RB_refl 19 95 #[true, true, true, true, true, true, true, true, true, true, true, true, true, true, true, true, true, true, true, true, false, false, false, false, false, false, false, false, false, false, false, false, false, false, false, false, false] (by simp only [List.getElem?_toArray, List.getElem?_cons_succ, List.getElem?_cons_zero]; rfl) (by rfl) (by kernel_rfl) (by kernel_rfl) (by kernel_rfl) (fun _ _ _ _ h => h) rfl (by rfl) ?_
                (try simp only [Act.put, List.setIfInBounds_toArray]); (try simp only [List.set_cons_succ]); (try simp only [List.set_cons_zero])
                refine r_skip RB_refl 20 96 #[true, true, true, true, true, true, true, true, true, true, true, true, true, true, true, true, true, true, true, true, true, false, false, false, false, false, false, false, false, false, false, false, false, false, false, false, false] (by simp only [List.getElem?_toArray, List.getElem?_cons_succ, List.getElem?_cons_zero]; rfl) (by rfl) (by kernel_rfl) (by kernel_rfl) (by kernel_rfl) (fun _ _ _ _ h => h) rfl (by rfl) ?_
                (try simp only [Act.put, List.setIfInBounds_toArray]); (try simp only [List.set_cons_succ]); (try simp only [List.set_cons_zero])
                refine r_skip RB_refl 21 97 #[true, true, true, true, true, true, true, true, true, true, true, true, true, true, true, true, true, true, true, true, true, true, false, false, false, false, false, false, false, false, false, false, false, false, false, false, false] (by simp only [List.getElem?_toArray, List.getElem?_cons_succ, List.getElem?_cons_zero]; rfl) (by rfl) (by kernel_rfl) (by kernel_rfl) (by kernel_rfl) (fun _ _ _ _ h => h) rfl (by rfl) ?_
                (try simp only [Act.put, List.setIfInBounds_toArray]); (try simp only [List.set_cons_succ]); (try simp only [List.set_cons_zero])
                refine r_skip RB_refl 22 98 #[true, true, true, true, true, true, true, true, true, true, true, true, true, true, true, true, true, true, true, true, true, true, true, false, false, false, false, false, false, false, false, false, false, false, false, false, false] (by simp only [List.getElem?_toArray, List.getElem?_cons_succ, List.getElem?_cons_zero]; rfl) (by rfl) (by kernel_rfl) (by kernel_rfl) (by kernel_rfl) (fun _ _ _ _ h => h) rfl (by rfl) ?_
                (try simp only [Act.put, List.setIfInBounds_toArray]); (try simp only [List.set_cons_succ]); (try simp only [List.set_cons_zero])
                refine r_flt RB_refl 23 99 #[true, true, true, true, true, true, true, true, true, true, true, true, true, true, true, true, true, true, true, true, true, true, true, true, false, false, false, false, false, false, false, false, false, false, false, false, false] (by simp only [List.getElem?_toArray, List.getElem?_cons_succ, List.getElem?_cons_zero]; rfl) (by rfl) (by kernel_rfl) (by kernel_rfl) (by kernel_rfl) (fun _ _ _ _ h => h) rfl (by rfl) ?_
                apply Exists.intro
                apply And.intro
                · intro W hW
                  first | (go_simp; with_reducible rfl) | go_simp
                (try simp only [Act.put, List.setIfInBounds_toArray]); (try simp only [List.set_cons_succ]); (try simp only [List.set_cons_zero])
                refine r_flt RB_refl 24 100 #[true, true, true, true, true, true, true, true, true, true, true, true, true, true, true, true, true, true, true, true, true, true, true, true, true, false, false, false, false, false, false, false, false, false, false, false, false] (by simp only [List.getElem?_toArray, List.getElem?_cons_succ, List.getElem?_cons_zero]; rfl) (by rfl) (by kernel_rfl) (by kernel_rfl) (by kernel_rfl) (fun _ _ _ _ h => h) rfl (by rfl) ?_
                apply Exists.intro
                apply And.intro
                · intro W hW
                  first | (go_simp; with_reducible rfl) | go_simp
                (try simp only [Act.put, List.setIfInBounds_toArray]); (try simp only [List.set_cons_succ]); (try simp only [List.set_cons_zero])
                refine r_skip RB_refl 25 101 #[true, true, true, true, true, true, true, true, true, true, true, true, true, true, true, true, true, true, true, true, true, true, true, true, true, true, false, false, false, false, false, false, false, false, false, false, false] (by simp only [List.getElem?_toArray, List.getElem?_cons_succ, List.getElem?_cons_zero]; rfl) (by rfl) (by kernel_rfl) (by kernel_rfl) (by kernel_rfl) (fun _ _ _ _ h => h) rfl (by rfl) ?_
                (try simp only [Act.put, List.setIfInBounds_toArray]); (try simp only [List.set_cons_succ]); (try simp only [List.set_cons_zero])
                refine r_skip RB_refl 26 102 #[true, true, true, true, true, true, true, true, true, true, true, true, true, true, true, true, true, true, true, true, true, true, true, true, true, true, true, false, false, false, false, false, false, false, false, false, false] (by simp only [List.getElem?_toArray, List.getElem?_cons_succ, List.getElem?_cons_zero]; rfl) (by rfl) (by kernel_rfl) (by kernel_rfl) (by kernel_rfl) (fun _ _ _ _ h => h) rfl (by rfl) ?_
                (try simp only [Act.put, List.setIfInBounds_toArray]); (try simp only [List.set_cons_succ]); (try simp only [List.set_cons_zero])
                refine r_skip RB_refl 27 103 #[true, true, true, true, true, true, true, true, true, true, true, true, true, true, true, true, true, true, true, true, true, true, true, true, true, true, true, true, false, false, false, false, false, false, false, false, false] (by simp only [List.getElem?_toArray, List.getElem?_cons_succ, List.getElem?_cons_zero]; rfl) (by rfl) (by kernel_rfl) (by kernel_rfl) (by kernel_rfl) (fun _ _ _ _ h => h) rfl (by rfl) ?_
                (try simp only [Act.put, List.setIfInBounds_toArray]); (try simp only [List.set_cons_succ]); (try simp only [List.set_cons_zero])
                refine r_skip RB_refl 28 104 #[true, true, true, true, true, true, true, true, true, true, true, true, true, true, true, true, true, true, true, true, true, true, true, true, true, true, true, true, true, false, false, false, false, false, false, false, false] (by simp only [List.getElem?_toArray, List.getElem?_cons_succ, List.getElem?_cons_zero]; rfl) (by rfl) (by kernel_rfl) (by kernel_rfl) (by kernel_rfl) (fun _ _ _ _ h => h) rfl (by rfl) ?_
                (try simp only [Act.put, List.setIfInBounds_toArray]); (try simp only [List.set_cons_succ]); (try simp only [List.set_cons_zero])
                refine r_skip RB_refl 29 105 #[true, true, true, true, true, true, true, true, true, true, true, true, true, true, true, true, true, true, true, true, true, true, true, true, true, true, true, true, true, true, false, false, false, false, false, false, false] (by simp only [List.getElem?_toArray, List.getElem?_cons_succ, List.getElem?_cons_zero]; rfl) (by rfl) (by kernel_rfl) (by kernel_rfl) (by kernel_rfl) (fun _ _ _ _ h => h) rfl (by rfl) ?_
                (try simp only [Act.put, List.setIfInBounds_toArray]); (try simp only [List.set_cons_succ]); (try simp only [List.set_cons_zero])
                refine r_skip RB_refl 30 106 #[true, true, true, true, true, true, true, true, true, true, true, true, true, true, true, true, true, true, true, true, true, true, true, true, true, true, true, true, true, true, true, false, false, false, false, false, false] (by simp only [List.getElem?_toArray, List.getElem?_cons_succ, List.getElem?_cons_zero]; rfl) (by rfl) (by kernel_rfl) (by kernel_rfl) (by kernel_rfl) (fun _ _ _ _ h => h) rfl (by rfl) ?_
                (try simp only [Act.put, List.setIfInBounds_toArray]); (try simp only [List.set_cons_succ]); (try simp only [List.set_cons_zero])
                refine r_skip RB_refl 31 107 #[true, true, true, true, true, true, true, true, true, true, true, true, true, true, true, true, true, true, true, true, true, true, true, true, true, true, true, true, true, true, true, true, false, false, false, false, false] (by simp only [List.getElem?_toArray, List.getElem?_cons_succ, List.getElem?_cons_zero]; rfl) (by rfl) (by kernel_rfl) (by kernel_rfl) (by kernel_rfl) (fun _ _ _ _ h => h) rfl (by rfl) ?_
                (try simp only [Act.put, List.setIfInBounds_toArray]); (try simp only [List.set_cons_succ]); (try simp only [List.set_cons_zero])
                refine r_skip RB_refl 32 108 #[true, true, true, true, true, true, true, true, true, true, true, true, true, true, true, true, true, true, true, true, true, true, true, true, true, true, true, true, true, true, true, true, true, false, false, false, false] (by simp only [List.getElem?_toArray, List.getElem?_cons_succ, List.getElem?_cons_zero]; rfl) (by rfl) (by kernel_rfl) (by kernel_rfl) (by kernel_rfl) (fun _ _ _ _ h => h) rfl (by rfl) ?_
                (try simp only [Act.put, List.setIfInBounds_toArray]); (try simp only [List.set_cons_succ]); (try simp only [List.set_cons_zero])
                refine r_skip RB_refl 33 109 #[true, true, true, true, true, true, true, true, true, true, true, true, true, true, true, true, true, true, true, true, true, true, true, true, true, true, true, true, true, true, true, true, true, true, false, false, false] (by simp only [List.getElem?_toArray, List.getElem?_cons_succ, List.getElem?_cons_zero]; rfl) (by rfl) (by kernel_rfl) (by kernel_rfl) (by kernel_rfl) (fun _ _ _ _ h => h) rfl (by rfl) ?_
                (try simp only [Act.put, List.setIfInBounds_toArray]); (try simp only [List.set_cons_succ]); (try simp only [List.set_cons_zero])
                refine r_skip RB_refl 34 110 #[true, true, true, true, true, true, true, true, true, true, true, true, true, true, true, true, true, true, true, true, true, true, true, true, true, true, true, true, true, true, true, true, true, true, true, false, false] (by simp only [List.getElem?_toArray, List.getElem?_cons_succ, List.getElem?_cons_zero]; rfl) (by rfl) (by kernel_rfl) (by kernel_rfl) (by kernel_rfl) (fun _ _ _ _ h => h) rfl (by rfl) ?_
                (try simp only [Act.put, List.setIfInBounds_toArray]); (try simp only [List.set_cons_succ]); (try simp only [List.set_cons_zero])
                refine r_flt RB_refl 35 111 #[true, true, true, true, true, true, true, true, true, true, true, true, true, true, true, true, true, true, true, true, true, true, true, true, true, true, true, true, true, true, true, true, true, true, true, true, false] (by simp only [List.getElem?_toArray, List.getElem?_cons_succ, List.getElem?_cons_zero]; rfl) (by rfl) (by kernel_rfl) (by kernel_rfl) (by kernel_rfl) (fun _ _ _ _ h => h) rfl (by rfl) ?_
                apply Exists.intro
                apply And.intro
                · intro W hW
                  first | (go_simp; with_reducible rfl) | go_simp
                (try simp only [Act.put, List.setIfInBounds_toArray]); (try simp only [List.set_cons_succ]); (try simp only [List.set_cons_zero])
                refine r_flt RB_refl 36 13 #[true, true, true, true, true, true, true, true, true, true, true, true, true, true, true, true, true, true, true, true, true, true, true, true, true, true, true, true, true, true, true, true, true, true, true, true, true] (by simp only [List.getElem?_toArray, List.getElem?_cons_succ, List.getElem?_cons_zero]; rfl) (by rfl) (by kernel_rfl) (by kernel_rfl) (by kernel_rfl) (fun _ _ _ _ h => h) rfl (by rfl) ?_
                apply Exists.intro
                apply And.intro
                · intro W hW
                  first | (go_simp; with_reducible rfl) | go_simp
                (try simp only [Act.put, List.setIfInBounds_toArray]); (try simp only [List.set_cons_succ]); (try simp only [List.set_cons_zero])
                refine r_done (by kernel_rfl) ?_
                go_wp2_with fail
                all_goals
                  go_meet
                  case rel => exact ⟨P, s1, v3, L, by omega, HK1, HL, m3, h3⟩
          · go_wp2_with fail
            refine (Cut_new w.heap.size g v s n wq hm bb.size).mono ?_
            rintro e w3 ⟨rfl, m3, x3, f3⟩
            have k3 := h3.cut hm x3 f3
            go_wp2_with fail
            go_meet
            case rel => exact ⟨P, s.set n, v, L, by omega, Lib.hid (HK.out.set_ n), HL, m3, k3⟩
          · go_wp2_with fail
            refine (Crash_any w.heap.size g v s wq hm).mono ?_
            rintro e w3 ⟨rfl, m3, x3⟩
            have k3 := h3.turned hm m3 x3 (.inl rfl) rfl
            go_wp2_with fail
            go_meet
            case rel => exact ⟨P, s.crash, v, L, by omega, Lib.hid HK.out.crash_, HL, m3, k3⟩
          · go_wp2_with fail
            refine (Boot_any w.heap.size g v s wq hm (by have := HK.out.len; omega) (ht.below bb)).mono ?_
            rintro e w3 ⟨v3, rfl, m3, x3, q3⟩
            have k3 := h3.turned hm m3 x3 q3 rfl
            go_wp2_with fail
            go_meet
            case rel => exact ⟨P, s.boot, v3, L, by omega, Lib.hid HK.out.boot_, HL, m3, k3⟩
          · go_wp2_with fail
            go_meet
            case rel => exact ⟨P, s, v, L, by omega, HK, HL, hm, h3⟩
        case rest =>
          clear hm h3 hS c0 c1 c2 c3 rj hgx hz hz3 hz4 HK HL bb
          obtain ⟨P', s', v', L', hP', HK, HL, hm, h3⟩ := hcut
          have hP1 : P'.length ≤ j + 1 := by omega
          clear hPj hP'
          go_wp2_with fail
          refine (Records_P w.heap.size g v' s' P' _ hm HK.out (by omega) (ht.below h3.2.2.2.2.2.2)).mono ?_
          rintro e w3 ⟨A1, A2, c1, c2, LB, rfl, hLB, r1, r2, hLb, hrows, b3⟩
          have h3 := h3.below hm b3
          have hm := hm.below b3
          have hsm := Same_P P' A1 A2 c1 c2 LB L' _ _ _ w w3 g v' _ _ (by omega) r1 r2 hLb hrows h3 HL.out
          clear r1 r2 hLb hrows b3 hLB
          go_wp2_with fail
          refine hsm.mono ?_
          clear hsm
          rintro e w4 ⟨rfl, b4⟩
          have h3 := h3.below hm b4
          have hm := hm.below b4
          go_wp2_with fail
          go_roundw
          case rel => exact ⟨j + 1, P', s', v', L', by omega, by go_num, by omega, HK, HL, hm, h3⟩
          case measure => simp [intOf] <;> omega
    · have hk2 := HK.out.boot_
      have hbt := Boot_any w.heap.size g v s wr hm (by have := HK.out.len; omega) (ht.below bb)
      have hP41 : P.length ≤ 41 := by omega
      by_cases h1 : j < L0.length
      focus
        have h2 : ¬ j < 40 := fun h => hlt ⟨h1, h⟩
      rotate_left
      focus skip
      all_goals
        clear hlt
        go_wp2_with fail
        refine hbt.mono ?_
        clear hbt
        rintro e w3 ⟨v3, rfl, m3, x3, q3⟩
        have h3 := h3.turned hm m3 x3 q3 rfl
        go_wp2_with fail
        refine (Records_P w.heap.size g v3 s.boot P _ m3 hk2 hP41 (ht.below h3.2.2.2.2.2.2)).mono ?_
        rintro e w4 ⟨A1, A2, c1, c2, LB, rfl, hLB, r1, r2, hLb, hrows, b4⟩
        have h3 := h3.below m3 b4
        have m3 := m3.below b4
        have hsm := Same_P P A1 A2 c1 c2 LB L _ _ _ w w4 g v3 _ _ hP41 r1 r2 hLb hrows h3 HL.out
        clear r1 r2 hLb hrows b4 hLB
        go_wp2_with fail
        refine hsm.mono ?_
        clear hsm
        rintro e w5 ⟨rfl, b5⟩
        have h3 := h3.below m3 b5
        have m3 := m3.below b5
        have hu := Up_any w.heap.size g v3 s.boot w5 m3
        go_wp2_with fail
        refine hu.mono ?_
        clear hu
        rintro e w6 ⟨rfl, rfl⟩
        go_wp2_with fail
        go_ret
        exact ⟨rfl, h3.2.2.2.2.2.2⟩
end Go.Proofs.YtodfejeifbhoeaaDoor
