/- Whether two images are the same: the code. -/
import Derived.Test.YtcdodchjgadcoaaAb3
namespace Go.Proofs.Ytcdodchjgadcoaa
open Go.RowKit
set_option linter.unusedVariables false

set_option maxHeartbeats 4000000 in
set_option maxRecDepth 100000 in
theorem cloS_any (D D' : Nat → Prop) (s t : CpV) (w : World) (hs : CpR w D s) (ht : CpR w D' t) :
    Calls Try.prog 42 #[.agg #[.int .i64 s.id, .slice s.A s.m.length s.c], .agg #[.int .i64 t.id, .slice t.A t.m.length t.c]] w fun e w' => e = .returned (.bool (decide (s.id = t.id) && decide (s.m = t.m))) ∧ Below w.heap.size w w' := by
  obtain ⟨rs, _, _⟩ := hs
  obtain ⟨rt, _, _⟩ := ht
  obtain ⟨id, A, x, c⟩ := s
  obtain ⟨id', A', x', c'⟩ := t
  dsimp only at *
  have bb := (below_new w (.cells #[.int .i64 id, .slice A x.length c] 47)).thenB' (below_new (w.alloc (.cells #[.int .i64 id, .slice A x.length c] 47)) (.cells #[.int .i64 id', .slice A' x'.length c'] 47))
  by_cases h : id = id'
  · subst h
    have hq := bEqual_any D D' A A' c c' x x' _ (rs.below bb) (rt.below bb)
    rw [decide_eq_true rfl, Bool.true_and]
    generalize decide (x = x') = y at *
    go_enter Try.func42, Try.ntmps42
    go_wp2_with fail
    refine hq.mono ?_
    clear hq
    rintro e w2 ⟨rfl, b2⟩
    cases y
    all_goals
      go_wp2_with fail
      go_ret
      exact ⟨rfl, bb.thenB' b2⟩
  · rw [decide_eq_false h, Bool.false_and]
    have hb : (id == id') = false := by simp [h]
    clear h
    go_enter Try.func42, Try.ntmps42
    go_wp2_with fail
    go_ret
    exact ⟨rfl, bb⟩

set_option maxHeartbeats 8000000 in
set_option maxRecDepth 100000 in
theorem eqf_any (D D' : Nat → Prop) (A A' : Option Addr) (c c' : Nat) (L L' : List CpV) (w : World) (hS : RdL w D 2 cpC A L) (hS' : RdL w D' 2 cpC A' L') (hl : L.length ≤ 9223372036854775807) (hl' : L'.length ≤ 9223372036854775807) (hrs : ∀ s ∈ L, CpR w D s) (hrs' : ∀ s ∈ L', CpR w D' s) :
    Calls Try.prog 44 #[.slice A L.length c, .slice A' L'.length c', .func (.func 42) #[] #[]] w fun e w' => e = .returned (.bool (decide (L.length = L'.length) && sameC (pureC L) (pureC L'))) ∧ Below w.heap.size w w' := by
  have hent : ∀ (args : Array Value) (w : World), (callFunc 42 args).run Try.prog w = .ok (.enter 42 args) w := Go.Proofs.enters_of Try.func42 (by kernel_rfl) rfl
  by_cases h : L.length = L'.length
  rotate_left
  · have hb : (((L.length : Nat) : Int) != ((L'.length : Nat) : Int)) = true := by simp; omega
    rw [decide_eq_false h, Bool.false_and]
    clear h
    go_enter Try.func44, Try.ntmps44
    go_wp2_with fail
    go_ret
    exact ⟨rfl, Below.refl _ _⟩
  have hb : (((L.length : Nat) : Int) != ((L'.length : Nat) : Int)) = false := by simp; omega
  rw [decide_eq_true h, Bool.true_and]
  have HL := Lib.hid h
  clear h
  have HS0 : Hid (sameC (pureC L) (pureC L') = sameC (pureC L) (pureC L')) := rfl
  obtain ⟨M, hM⟩ : ∃ M, sameC (pureC L) (pureC L') = M := ⟨_, rfl⟩
  have HS : Hid (sameC (pureC L) (pureC L') = M) := hM
  rw [hM]
  clear hM HS0
  go_enter Try.func44, Try.ntmps44
  go_wp2_with fail
  go_loopw [7, 8, 9, 17] (fun s7 s8 s9 i wr => ∃ (k : Nat), k ≤ L.length ∧ i = .int .i64 (k : Int) ∧ Hid (sameC ((pureC L).drop k) ((pureC L').drop k) = M) ∧ Below w.heap.size w wr) (fun _ _ _ i _ => L.length - (intOf i).toNat)
  case atStart => exact ⟨0, Nat.zero_le _, rfl, HS, Below.refl _ _⟩
  case round =>
    clear HS
    obtain ⟨k, hk, rfl, HS, bb⟩ := hrel
    have hS := hS.below bb
    have hS' := hS'.below bb
    have hrs := fun s hs => (hrs s hs).below bb
    have hrs' := fun s hs => (hrs' s hs).below bb
    by_cases hlt : k < L.length
    · have hlt' : k < L'.length := by rw [← HL.out]; exact hlt
      have hkL : (k : Int) < (L.length : Int) := by omega
      have hkL' : (k : Int) < (L'.length : Int) := by omega
      obtain ⟨ad, rfl, d0, d1⟩ := hS.cp hlt
      obtain ⟨ad', rfl, d0', d1'⟩ := hS'.cp hlt'
      have rk := hrs L[k] (List.getElem_mem hlt)
      have rk' := hrs' L'[k] (List.getElem_mem hlt')
      have bn := (below_new wr (.cells #[.int .i64 L[k].id, .slice L[k].A L[k].m.length L[k].c] 47)).thenB' (below_new (wr.alloc (.cells #[.int .i64 L[k].id, .slice L[k].A L[k].m.length L[k].c] 47)) (.cells #[.int .i64 L'[k].id, .slice L'[k].A L'[k].m.length L'[k].c] 47))
      have hq := cloS_any D D' L[k] L'[k] _ (rk.below bn) (rk'.below bn)
      have hwk : wr.heap.size ≤ wr.heap.size := Nat.le_refl _
      have HS2 : Hid ((decide (L[k].id = L'[k].id) && (decide (L[k].m = L'[k].m) && sameC ((pureC L).drop (k + 1)) ((pureC L').drop (k + 1)))) = M) := by
        unfold Hid; rw [← HS.out, sameC_at L L' k hlt hlt']
      have d0n := cell_belowS d0' (below_new wr (.cells #[.int .i64 L[k].id, .slice L[k].A L[k].m.length L[k].c] 47))
      have d1n := cell_belowS d1' (below_new wr (.cells #[.int .i64 L[k].id, .slice L[k].A L[k].m.length L[k].c] 47))
      clear HS rk rk' hrs hrs' hS hS'
      rw [← Bool.and_assoc] at HS2
      generalize (decide (L[k].id = L'[k].id) && decide (L[k].m = L'[k].m)) = y at *
      generalize L[k].id = id at *
      generalize L[k].A = Ax at *
      generalize L[k].m = x at *
      generalize L[k].c = cx at *
      generalize L'[k].id = id' at *
      generalize L'[k].A = Ax' at *
      generalize L'[k].m = x' at *
      generalize L'[k].c = cx' at *
      go_wp2_with fail
      refine hq.mono ?_
      clear hq
      rintro e w2 ⟨rfl, b2⟩
      have bb := (bb.thenB' bn).thenB' b2
      cases y
      focus
        have E : Hid (M = false) := by unfold Hid; rw [← HS2.out]; rfl
        clear HS2
        go_wp2_with fail
        go_ret
        exact ⟨by rw [E.out]; rfl, bb⟩
      focus
        have E : Hid (sameC ((pureC L).drop (k + 1)) ((pureC L').drop (k + 1)) = M) := by unfold Hid; rw [← HS2.out]; rfl
        clear HS2
        go_wp2_with fail
        go_roundw
        case rel => exact ⟨k + 1, by omega, by go_num, E, bb⟩
        case measure => simp [intOf] <;> omega
    · have E : Hid (M = true) := by unfold Hid; rw [← HS.out, sameC_end L L' k (by omega)]
      have hnk : ¬ (k : Int) < (L.length : Int) := by omega
      go_wp2_with fail
      go_ret
      exact ⟨by rw [E.out]; rfl, bb⟩

set_option maxHeartbeats 8000000 in
set_option maxRecDepth 100000 in
theorem Same18_any (D D' : Nat → Prop) (i i' : ImV) (w : World) (hr : ImR w D i) (hr' : ImR w D' i') :
    Calls Try.prog 24 #[.agg (imA i), .agg (imA i')] w fun e w' => e = .returned (.bool (sameI i.p i'.p)) ∧ Below w.heap.size w w' := by
  rw [sameI_of]
  unfold ImV.p
  dsimp only
  rw [pureC_len, pureC_len]
  have bb := (below_new w (.cells (imA i) 25)).thenB' (below_new (w.alloc (.cells (imA i) 25)) (.cells (imA i') 25))
  have hB := (Blk.new w 25 (imA i)).below (below_new (w.alloc (.cells (imA i) 25)) (.cells (imA i') 25))
  have hB' := Blk.new (w.alloc (.cells (imA i) 25)) 25 (imA i')
  rw [show (w.alloc (.cells (imA i) 25)).heap.size = w.heap.size + 1 from Array.size_push ..] at hB'
  have hr := hr.below bb
  have hr' := hr'.below bb
  obtain ⟨rm, lm, mm, hS, hl, hm, hrs⟩ := hr
  obtain ⟨rm', lm', mm', hS', hl', hm', hrs'⟩ := hr'
  obtain ⟨DA, d, dc, A, L, cc, la⟩ := i
  obtain ⟨DA', d', dc', A', L', cc', la'⟩ := i'
  unfold imA at *
  dsimp only at *
  have hq := bEqual_any D D' DA DA' dc dc' d d' _ rm rm'
  have he := fun W b => eqf_any D D' A A' cc cc' L L' W (hS.below b) (hS'.below b) (by omega) (by omega) (fun s hs => (hrs s hs).below b) (fun s hs => (hrs' s hs).below b)
  generalize (decide (L.length = L'.length) && sameC (pureC L) (pureC L')) = z at *
  generalize hy : decide (d = d') = y at *
  clear hy
  go_enter Try.func24, Try.ntmps24
  go_wp2_with fail
  generalize (w.alloc (.cells #[.slice DA d.length dc, .slice A L.length cc, .int .i64 la] 25)).alloc (.cells #[.slice DA' d'.length dc', .slice A' L'.length cc', .int .i64 la'] 25) = w1 at *
  refine hq.mono ?_
  clear hq
  rintro e w2 ⟨rfl, b2⟩
  have he := he _ b2
  have hB := hB.below b2
  have hB' := hB'.below b2
  have bb := bb.thenB' b2
  have c1 := hB.cell 1
  have c2 := hB.cell 2
  have c1' := hB'.cell 1
  have c2' := hB'.cell 2
  simp at c1 c2 c1' c2'
  cases y
  focus
    go_wp2_with fail
    go_ret
    exact ⟨rfl, bb⟩
  by_cases h : la = la'
  rotate_left
  focus
    have hb : (la == la') = false := by simp [h]
    have HN := Lib.hid (decide_eq_false h)
    clear h
    go_wp2_with fail
    go_ret
    exact ⟨by rw [HN.out]; rfl, bb⟩
  subst h
  go_wp2_with fail
  refine he.mono ?_
  clear he
  rintro e w3 ⟨rfl, b3⟩
  cases z
  all_goals
    go_wp2_with fail
    go_ret
    exact ⟨by first | rfl | simp, bb.thenB' b3⟩
end Go.Proofs.Ytcdodchjgadcoaa
