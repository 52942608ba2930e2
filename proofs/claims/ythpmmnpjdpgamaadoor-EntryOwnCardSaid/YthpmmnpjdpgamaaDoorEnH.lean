/- The law EntryOwn: the walk. -/
import Derived.Test.YthpmmnpjdpgamaaDoorEnE
import Derived.Test.YthpmmnpjdpgamaaDoorFrBits
namespace Go.Proofs.YthpmmnpjdpgamaaDoor
open Go.RowKit
set_option linter.unusedVariables false

theorem own_lt {w : World} {base n c : Nat} {A : Option Addr} {bs : List UInt8} (h : OwnB w base (.slice A n c) bs) : ∀ g, A = some ⟨g, 0, none⟩ → g < w.heap.size := by
  intro g hg
  rcases h.2 with ⟨hv, _⟩ | ⟨g', cap, cur, hv, _, hg', _⟩
  · injection hv with hA
    rw [hA] at hg
    cases hg
  · injection hv with hA
    rw [hA] at hg
    injection hg with hg
    injection hg with hg
    subst hg
    rcases Nat.lt_or_ge g' w.heap.size with h1 | h1
    · exact h1
    · rw [Array.getElem?_eq_none h1] at hg'; cases hg'
theorem alt_none {P : Program} {ops : Array Oper} {Q : Exit → Act → World → Prop} {R : World → World → Prop} {i fuel : Nat} {o : Oper} {L : Array Bool} {a : Act} {w : World} (L' : Array Bool) (ho : ops[i]? = some o) (hd : o.dst = none) (hl : L.setIfInBounds i true = L') (hw : Region.wanted o (yielded ops a.tmps) = true) {w' : World}
    (hrun : (execOp a.eval o).run P w = .ok .skip w') (h1 : R w w') (h : wpR P ops R Q fuel L' a w') : Alt P ops R Q fuel L a w i := by
  subst hl
  unfold Alt wpOp
  simp only [ho, hw, if_true]
  refine .inl ?_
  unfold Oper.wp
  rw [hrun]
  exact ⟨h1, by rw [hd]; exact h⟩
/-- Clean's entry has a row of its own. -/
theorem clean_own {w : World} {v : Value} {e : E7} (h : EnY w v e) (hl : e.data.length ≤ big) (ht : T7 w) :
    Calls Tryd.prog 13 #[v] w fun r w' => ∃ cs A n c, r = .returned (.agg cs) ∧ cs.size = 7 ∧ cs.all (·.oneCell') = true ∧ cs[6]? = some (.slice A n c) ∧ Hid (n = (cleanO e).data.length) ∧ n ≤ c ∧ OwnB w' w.heap.size (.slice A n c) (cleanO e).data ∧ Below w.heap.size w w' := by
  obtain ⟨A, c, rfl, h2, h3, h4⟩ := h
  refine (Clean_any e _ A c w h2 hl ht.2.1).mono ?_
  rintro r w' ⟨A', c', rfl, ho, hb⟩
  refine ⟨_, A', _, c', rfl, rfl, by simp [enA, Value.oneCell'], rfl, rfl, ?_, ho, hb⟩
  obtain ⟨A9, c9, h1, h2, h3⟩ := OwnB.form ho
  injection h1 with h4 h5 h6
  omega

set_option maxHeartbeats 8000000 in
set_option maxRecDepth 100000 in
theorem eown_walk (e : E7) (v : Value) (w : World) (hy : EnY w v e) (ht : T7 w) :
    Calls Tryd.prog 8 #[v] w fun r w' => r = .returned (.bool true) ∧ Below w.heap.size w w' := by
  have ht0 := ht
  obtain ⟨cs, rfl, q0, a0⟩ := hy.agg
  have bb := below_new w (.cells cs 24)
  have hB := Blk.new w 24 cs
  have hy := hy.below bb
  have ht := ht.below bb
  obtain ⟨A, c, h6, r6, l6, m6⟩ := hy.data
  go_enter Tryd.func8, Tryd.ntmps8
  go_wp2_with fail
  refine (awake_any7 _ ht.1 ht.2.1 ht.2.2).mono ?_
  rintro e1 w1 ⟨rfl, b1⟩
  have hB := hB.below b1
  have hy := hy.below b1
  have ht := ht.below b1
  have bb := bb.thenB' b1
  have r6 : RdB w1 (· < w1.heap.size) A e.data := Rd.imp (RdB.below r6 b1) (fun b hb _ => hb) (by decide)
  have c6 := hB.cell 6
  rw [h6] at c6
  have s6 := str_rd (c := c) r6 rfl
  have hg0 : w.heap.size < w1.heap.size := hB.lt
  clear b1
  by_cases hl : 1000 < e.data.length
  focus
    go_wp2_with fail
    go_ret
    exact ⟨rfl, bb⟩
  have hlb : e.data.length ≤ big := by unfold big; omega
  have HCl := fun W (hy : EnY W (.agg cs) e) (ht : T7 W) => clean_own hy hlb ht
  have HP := fun W (hy : EnY W (.agg cs) e) (ht : T7 W) => hy.pack hlb ht
  have hcl : (cleanO e).data.length ≤ 1000 := by
    show (if _ then _ else _ : List UInt8).length ≤ 1000
    split
    · omega
    · exact Nat.zero_le _
  have hpl : (packO e).length ≤ 8300 := by
    unfold packO
    split
    · exact Nat.le_trans (makeO_len _ _) (by omega)
    · exact Nat.zero_le _
  generalize hdd : (cleanO e).data = dd at *
  generalize hpe : packO e = pe at *
  clear hdd hpe
  go_wp2_with first
    | (with_reducible show wpList _ _ _ _ _ _
       refine wpList_load_row rfl 24 (.tmp 1) rfl w.heap.size rfl 24 cs (0, 0) _ hB Tryd.underlying24 rfl (by rw [q0]; exact infoEn7) ?_)
  refine (HCl _ hy ht).mono ?_
  clear HCl
  rintro e1 w2 ⟨cs2, A2, n2, c2, rfl, q2, a2, k6, E2, l2, o2, b2⟩
  have hlt2 := own_lt o2
  have hs2 := b2.size
  have hz2 := Blk.new w2 24 z7
  unfold z7 at hz2
  have hn2 : n2 ≤ 1000 := by rw [E2.out]; exact hcl
  go_wp2_with first
    | (with_reducible show wpList _ _ _ _ _ _
       refine wpList_rowB rfl 24 (.tmp 5) (.tmp 20) rfl w2.heap.size 24 _ cs2 rfl rfl hz2 (by rw [q2]; exact infoEn7) (by rw [q2]; rfl) a2 ?_
       intro z2 B2 m2
       have b3 := new7 m2
       have r2 := RowB.of_own (OwnB.below o2 b3)
       have b4 : Below w1.heap.size w1 z2 := b2.thenB' b3
       clear o2 m2 hz2 b2)
  have hk : w2.heap.size < z2.heap.size := B2.lt
  go_loopw [6] (fun i wr => ∃ (j : Nat) (L : List UInt8), j ≤ n2 ∧ Hid (L.length = n2) ∧ i = .int .i64 (j : Int) ∧ RowB wr w1.heap.size A2 L ∧ Blk wr w2.heap.size 24 cs2 ∧ Below w1.heap.size w1 wr) (fun i _ => n2 - (intOf i).toNat)
  case atStart => exact ⟨0, dd, Nat.zero_le _, Lib.hid E2.out.symm, rfl, r2, B2, b4⟩
  case round =>
    clear r2 B2 b4 b3 hk
    obtain ⟨j, L, hj, HL, rfl, r2, B2, b4⟩ := hrel
    have k2 := B2.cell 6
    rw [k6] at k2
    by_cases hlt : j < n2
    · have hjL : j < L.length := by rw [HL.out]; exact hlt
      obtain ⟨g, hg, hg1, -, -, -, -⟩ := r2.store hjL
      have hgt := hlt2 g hg
      subst hg
      go_wp2_with fail
      refine r_start (R := RG g) (by rfl) (n := 11) (L := #[false, false, false, false, false, false, false, false, false, false, false]) rfl rfl ?_
      have bd : Below wr.heap.size wr wr.drew := (Below.refl _ _).drew
      have r2 := r2.below bd
      have B2 := B2.below bd
      have b4 := b4.drew
      generalize wr.drew = wd at *
      clear bd k2
      obtain ⟨g', hg', -, hg2, hcell, hfr, hst⟩ := r2.store hjL
      obtain rfl : g = g' := by
        injection hg' with hg'
        injection hg' with hg'
      have hx8 : bits .xor .u8 (L[j].toNat : Int) 255 = ((L[j] ^^^ 255).toNat : Int) := xor8 L[j] 255
      have r4 := hst (L[j] ^^^ 255)
      have HL2 : Hid ((L.set j (L[j] ^^^ 255)).length = n2) := by unfold Hid; rw [List.length_set]; exact HL.out
      generalize L.set j (L[j] ^^^ 255) = L2 at *
      generalize L[j] ^^^ 255 = d at *
      have b5 := below_store (k := j) b4 hg1 (.int .u8 (d.toNat : Int))
      have m5 : Mod (· = g) wd (wd.setCell ⟨g, j, none⟩ (.int .u8 (d.toNat : Int))) := (Mod.refl (· = g) wd).setG j _
      have hne : ¬ (w2.heap.size = g) := by omega
      have B5 : Blk (wd.setCell ⟨g, j, none⟩ (.int .u8 (d.toNat : Int))) w2.heap.size 24 cs2 := B2.mod m5 hne
      generalize L[j] = x at *
      clear hst
      refine r_flt (RG_refl g) 0 28 #[true, false, false, false, false, false, false, false, false, false, false] (by simp only [List.getElem?_toArray, List.getElem?_cons_zero]; rfl) (by rfl) (by kernel_rfl) (by kernel_rfl) (by kernel_rfl) (fun _ _ _ _ h => h) rfl (by rfl) ?_
      apply Exists.intro
      apply And.intro
      · intro W hW
        first | (go_simp; with_reducible rfl) | go_simp
      (try simp only [Act.put, List.setIfInBounds_toArray]); (try simp only [List.set_cons_succ]); (try simp only [List.set_cons_zero])
      refine r_flt (RG_refl g) 1 29 #[true, true, false, false, false, false, false, false, false, false, false] (by simp only [List.getElem?_toArray, List.getElem?_cons_succ, List.getElem?_cons_zero]; rfl) (by rfl) (by kernel_rfl) (by kernel_rfl) (by kernel_rfl) (fun _ _ _ _ h => h) rfl (by rfl) ?_
      apply Exists.intro
      apply And.intro
      · intro W hW
        have k2 := (B2.mod hW hne).cell 6
        rw [k6] at k2
        first | (go_simp; with_reducible rfl) | go_simp
      (try simp only [Act.put, List.setIfInBounds_toArray]); (try simp only [List.set_cons_succ]); (try simp only [List.set_cons_zero])
      refine r_flt (RG_refl g) 2 30 #[true, true, true, false, false, false, false, false, false, false, false] (by simp only [List.getElem?_toArray, List.getElem?_cons_succ, List.getElem?_cons_zero]; rfl) (by rfl) (by kernel_rfl) (by kernel_rfl) (by kernel_rfl) (fun _ _ _ _ h => h) rfl (by rfl) ?_
      apply Exists.intro
      apply And.intro
      · intro W hW
        first | (go_simp; with_reducible rfl) | go_simp
      (try simp only [Act.put, List.setIfInBounds_toArray]); (try simp only [List.set_cons_succ]); (try simp only [List.set_cons_zero])
      refine r_flt (RG_refl g) 3 31 #[true, true, true, true, false, false, false, false, false, false, false] (by simp only [List.getElem?_toArray, List.getElem?_cons_succ, List.getElem?_cons_zero]; rfl) (by rfl) (by kernel_rfl) (by kernel_rfl) (by kernel_rfl) (fun _ _ _ _ h => h) rfl (by rfl) ?_
      apply Exists.intro
      apply And.intro
      · intro W hW
        first | (go_simp; with_reducible rfl) | go_simp
      (try simp only [Act.put, List.setIfInBounds_toArray]); (try simp only [List.set_cons_succ]); (try simp only [List.set_cons_zero])
      refine r_flt (RG_refl g) 4 32 #[true, true, true, true, true, false, false, false, false, false, false] (by simp only [List.getElem?_toArray, List.getElem?_cons_succ, List.getElem?_cons_zero]; rfl) (by rfl) (by kernel_rfl) (by kernel_rfl) (by kernel_rfl) (fun _ _ _ _ h => h) rfl (by rfl) ?_
      apply Exists.intro
      apply And.intro
      · intro W hW
        have k2 := (B2.mod hW hne).cell 6
        rw [k6] at k2
        first | (go_simp; with_reducible rfl) | go_simp
      (try simp only [Act.put, List.setIfInBounds_toArray]); (try simp only [List.set_cons_succ]); (try simp only [List.set_cons_zero])
      refine r_flt (RG_refl g) 5 33 #[true, true, true, true, true, true, false, false, false, false, false] (by simp only [List.getElem?_toArray, List.getElem?_cons_succ, List.getElem?_cons_zero]; rfl) (by rfl) (by kernel_rfl) (by kernel_rfl) (by kernel_rfl) (fun _ _ _ _ h => h) rfl (by rfl) ?_
      apply Exists.intro
      apply And.intro
      · intro W hW
        first | (go_simp; with_reducible rfl) | go_simp
      (try simp only [Act.put, List.setIfInBounds_toArray]); (try simp only [List.set_cons_succ]); (try simp only [List.set_cons_zero])
      refine r_flt (RG_refl g) 6 34 #[true, true, true, true, true, true, true, false, false, false, false] (by simp only [List.getElem?_toArray, List.getElem?_cons_succ, List.getElem?_cons_zero]; rfl) (by rfl) (by kernel_rfl) (by kernel_rfl) (by kernel_rfl) (fun _ _ _ _ h => h) rfl (by rfl) ?_
      apply Exists.intro
      apply And.intro
      · intro W hW
        first | (go_simp; with_reducible rfl) | go_simp
      (try simp only [Act.put, List.setIfInBounds_toArray]); (try simp only [List.set_cons_succ]); (try simp only [List.set_cons_zero])
      refine r_one (RG_trans g) 7 (by kernel_rfl) ?_
      refine alt_val 35 #[true, true, true, true, true, true, true, true, false, false, false] (by simp only [List.getElem?_toArray, List.getElem?_cons_succ, List.getElem?_cons_zero]; rfl) (by rfl) rfl (by rfl) (by go_simp; first | exact ⟨rfl, rfl⟩ | rfl) ?_ ?_
      · exact RG_refl _ _
      (try simp only [Act.put, List.setIfInBounds_toArray]); (try simp only [List.set_cons_succ]); (try simp only [List.set_cons_zero])
      refine r_flt (RG_refl g) 8 36 #[true, true, true, true, true, true, true, true, true, false, false] (by simp only [List.getElem?_toArray, List.getElem?_cons_succ, List.getElem?_cons_zero]; rfl) (by rfl) (by kernel_rfl) (by kernel_rfl) (by kernel_rfl) (fun _ _ _ _ h => h) rfl (by rfl) ?_
      apply Exists.intro
      apply And.intro
      · intro W hW
        first | (go_simp; with_reducible rfl) | go_simp
      (try simp only [Act.put, List.setIfInBounds_toArray]); (try simp only [List.set_cons_succ]); (try simp only [List.set_cons_zero])
      refine r_flt (RG_refl g) 9 37 #[true, true, true, true, true, true, true, true, true, true, false] (by simp only [List.getElem?_toArray, List.getElem?_cons_succ, List.getElem?_cons_zero]; rfl) (by rfl) (by kernel_rfl) (by kernel_rfl) (by kernel_rfl) (fun _ _ _ _ h => h) rfl (by rfl) ?_
      apply Exists.intro
      apply And.intro
      · intro W hW
        first | (go_simp; with_reducible rfl) | go_simp
      (try simp only [Act.put, List.setIfInBounds_toArray]); (try simp only [List.set_cons_succ]); (try simp only [List.set_cons_zero])
      refine r_one (RG_trans g) 10 (by kernel_rfl) ?_
      refine alt_none #[true, true, true, true, true, true, true, true, true, true, true] (by simp only [List.getElem?_toArray, List.getElem?_cons_succ, List.getElem?_cons_zero]; rfl) (by rfl) rfl (by rfl) (by go_simp; first | exact ⟨rfl, rfl⟩ | rfl) ?_ ?_
      · exact m5
      (try simp only [Act.put, List.setIfInBounds_toArray]); (try simp only [List.set_cons_succ]); (try simp only [List.set_cons_zero])
      refine r_done (by kernel_rfl) ?_
      go_wp2_with fail
      go_roundw
      case rel => exact ⟨j + 1, L2, by omega, HL2, by go_num, r4, B5, b5⟩
      case measure => simp [intOf] <;> omega
    · have hB3 : Blk wr w.heap.size 24 cs := (b4.block _ hg0).trans hB
      have ht3 : T7 wr := ht.below b4
      have hy3 := hy.below b4
      have r63 := r6.below b4
      have bb3 := bb.thenB' b4
      clear r2 B2 hB ht hy
      go_wp2_with first
        | (with_reducible show wpList _ _ _ _ _ _
           refine wpList_load_row rfl 24 (.tmp 1) rfl w.heap.size rfl 24 cs (0, 0) _ hB3 Tryd.underlying24 rfl (by rw [q0]; exact infoEn7) ?_)
      refine (HP _ hy3 ht3).mono ?_
      clear HP
      rintro e1 w4 ⟨v4, rfl, o4, b6⟩
      obtain ⟨A4, n4, c4, rfl, E4, l4, m4⟩ := OwnB.form' o4
      have r4 := RowB.of_own o4
      have hn4 : n4 ≤ 8300 := by rw [E4.out]; exact hpl
      have hs3 : w1.heap.size ≤ wr.heap.size := b4.size
      clear o4
      go_wp2_with fail
      go_loopw [8] (fun i wq => ∃ (j : Nat) (L : List UInt8), j ≤ n4 ∧ Hid (L.length = n4) ∧ i = .int .i64 (j : Int) ∧ RowB wq wr.heap.size A4 L ∧ Below wr.heap.size wr wq) (fun i _ => n4 - (intOf i).toNat)
      case atStart => exact ⟨0, pe, Nat.zero_le _, Lib.hid E4.out.symm, rfl, r4, b6⟩
      case round =>
        clear r4 b6
        obtain ⟨i, L, hi, HL, rfl, r4, b6⟩ := hrel
        by_cases hlt4 : i < n4
        · have hjL : i < L.length := by rw [HL.out]; exact hlt4
          obtain ⟨g, hg, hg1, hg2, hcell, hfr, hst⟩ := r4.store hjL
          subst hg
          have r5 := hst 0
          have HL2 : Hid ((L.set i 0).length = n4) := by unfold Hid; rw [List.length_set]; exact HL.out
          generalize L.set i 0 = L2 at *
          have b7 := below_store (k := i) b6 hg1 (.int .u8 ((0 : UInt8).toNat : Int))
          generalize L[i] = x at *
          clear hst
          go_wp2_with fail
          go_roundw
          case rel => exact ⟨i + 1, L2, by omega, HL2, by go_num, r5, b7⟩
          case measure => simp [intOf] <;> omega
        · have hB5 := hB3.below b6
          have c65 := hB5.cell 6
          rw [h6] at c65
          have s65 := str_rd (c := c) (r63.below b6) rfl
          have bb5 := bb3.thenB' b6
          go_wp2_with fail
          go_ret
          exact ⟨rfl, bb5⟩
end Go.Proofs.YthpmmnpjdpgamaaDoor
