/- The document's bytes and Read; the code's Read; a byte, few. -/
import Derived.Test.YtcdodchjgadcoaaAbP
namespace Go.Proofs.Ytcdodchjgadcoaa
open Go.RowKit
set_option linter.unusedVariables false
set_option maxRecDepth 100000

set_option maxHeartbeats 8000000 in
theorem bytes_any (D : Nat → Prop) (i : ImV) (snap : Int) (w : World) (hr : ImR w D i) :
    Calls Try.prog 29 #[.agg (imA i), .int .i64 snap] w (Told w D (bytesD i.p snap) (.bool (asO i.p snap).isSome)) := by
  have bb := below_new w (.cells (imA i) 25)
  have hB := Blk.new w 25 (imA i)
  have hr0 := hr.below bb
  have hfd := rfind_any D i snap _ hr0
  have hfb := findO_bd (idsO i.S) snap
  rw [ids_len] at hfb
  have E0 : bytesD i.p snap = (asO i.p snap).getD [] := rfl
  unfold imA at *
  generalize hw0 : w.alloc (.cells #[.slice i.DA i.d.length i.dc, .slice i.CA i.S.length i.cc, .int .i64 i.last] 25) = w0 at *
  by_cases h0 : snap = 0
  focus
    subst h0
    rw [asO_zero] at E0
    rw [asO_zero]
    have E := Lib.hid E0
    clear E0 hfd hfb
    have rd := hr.rd
    have l1 := hr.dl
    have l2 := hr.dm
    have c1 := hB.cell 0
    simp at c1
    go_enter Try.func29, Try.ntmps29
    go_wp2_with fail
    (try simp only [Exit.inBlock, Exit.then])
    refine bodyPost_ret (results_tmp2 rfl _ _ _) rfl ?_
    rw [E.out]
    exact ⟨i.DA, i.dc, rfl, rd.below bb, l1, l2, bb⟩
  rw [ids_p] at hfb hfd
  by_cases h1 : findO (idsP i.p.S) snap < 0
  focus
    rw [asO_none h0 h1] at E0
    rw [asO_none h0 h1]
    have E := Lib.hid E0
    have h2 : findO (idsP (pureC i.S)) snap < 0 := h1
    clear E0 h1
    generalize findO (idsP (pureC i.S)) snap = r at *
    go_enter Try.func29, Try.ntmps29
    go_wp2_with first
      | (with_reducible show wpList _ _ _ _ _ _
         refine wpList_load_row rfl 25 (.tmp 2) rfl w.heap.size rfl 25 _ (0, 0) _ hB Try.underlying25 rfl infoIm ?_)
    refine hfd.mono ?_
    clear hfd hw0
    rintro e w3 ⟨rfl, b3⟩
    go_wp2_with fail
    (try simp only [Exit.inBlock, Exit.then])
    refine bodyPost_ret (results_tmp2 rfl _ _ _) rfl ?_
    rw [E.out]
    exact told_nil (bb.thenB' b3)
  obtain ⟨k, hk⟩ : ∃ k : Nat, findO (idsP (pureC i.S)) snap = (k : Int) := ⟨(findO (idsP (pureC i.S)) snap).toNat, by
    have : ¬ findO (idsP (pureC i.S)) snap < 0 := h1
    omega⟩
  rw [asO_some h0 hk] at E0
  rw [asO_some h0 hk]
  rw [hk] at hfb hfd
  clear h1 hk
  have hkl : k < i.S.length := by omega
  have e9 : i.p.S.getD k (0, []) = (i.S[k].id, i.S[k].m) := pureC_getD i.S k hkl
  rw [e9] at E0
  have E := Lib.hid E0
  clear E0 e9
  have h2 : ¬ (k : Int) < 0 := by omega
  have h3 : (k : Int) < (i.S.length : Int) := by omega
  have h4 : (i.S.length : Int) ≤ 9223372036854775807 := by have := hr.sl; have := hr.sm; omega
  obtain ⟨rk, lk, mk⟩ := hr.cp i.S[k] (List.getElem_mem hkl)
  have hS := fun W (b : Below w.heap.size w W) => (RdL.below hr.rS b).cp hkl
  obtain ⟨x, hxe⟩ : ∃ x, x = i.S[k].m := ⟨_, rfl⟩
  rw [← hxe] at E rk lk
  simp only [← hxe] at hS
  clear hxe hfb
  generalize i.S[k].A = Ax at *
  generalize i.S[k].c = cx at *
  go_enter Try.func29, Try.ntmps29
  go_wp2_with first
    | (with_reducible show wpList _ _ _ _ _ _
       refine wpList_load_row rfl 25 (.tmp 2) rfl w.heap.size rfl 25 _ (0, 0) _ hB Try.underlying25 rfl infoIm ?_)
  refine hfd.mono ?_
  clear hfd hw0
  rintro e w3 ⟨rfl, b3⟩
  replace hB := hB.below b3
  replace bb := bb.thenB' b3
  have c2 := hB.cell 1
  simp at c2
  obtain ⟨ad, had, d0, d1⟩ := hS w3 bb
  rw [had] at c2
  clear hS had
  go_wp2_with fail
  (try simp only [Exit.inBlock, Exit.then])
  refine bodyPost_ret (results_tmp2 rfl _ _ _) rfl ?_
  rw [E.out]
  exact ⟨Ax, cx, rfl, rk.below bb, lk, mk, bb⟩

/-! ### Read -/
def cutO (b : List UInt8) (off n : Int) : List UInt8 := (b.drop off.toNat).take n.toNat
def mayCut (b : List UInt8) (off n : Int) : Bool := decide (0 ≤ off) && (decide (0 ≤ n) && decide (off + n ≤ b.length))
def readE (p : PI) (off n snap : Int) : Int := if asE p snap ≠ 0 then asE p snap else if mayCut (asD p snap) off n then 0 else 180
def readD (p : PI) (off n snap : Int) : List UInt8 := if readE p off n snap = 0 then cutO (asD p snap) off n else []
theorem asD_nil {p : PI} {snap : Int} (h : asE p snap ≠ 0) : asD p snap = [] := by
  unfold asE at h
  unfold asD
  split
  · rfl
  · rename_i h1
    rw [if_neg h1] at h
    cases hq : asO p snap with
    | none => rfl
    | some x => rw [hq] at h; exact absurd rfl h
theorem asD_len {p : PI} (snap : Int) : (asD p snap).length ≤ 512 := by
  unfold asD
  split
  · decide
  · rename_i h
    have hm : mayI p = true := by simpa using h
    have hb := mayI_bd hm
    unfold asO
    split
    · exact hb.1
    · split
      · decide
      · show ((p.S.getD (findO (idsP p.S) snap).toNat (0, [])).2).length ≤ 512
        rw [List.getD_eq_getElem?_getD]
        cases hq : p.S[(findO (idsP p.S) snap).toNat]? with
        | none => decide
        | some s => exact (copiesO_bd _ _ _ hb.2.2.2.2 s (List.mem_of_getElem? hq)).1
theorem read_a {p : PI} {off n snap : Int} {v : Int} (h : asE p snap = v) (h0 : v ≠ 0) : readE p off n snap = v ∧ readD p off n snap = [] := by
  have e : readE p off n snap = v := by unfold readE; rw [h, if_pos h0]
  exact ⟨e, by unfold readD; rw [e, if_neg h0]⟩
theorem read_b {p : PI} {off n snap : Int} (h : asE p snap = 0) (h0 : mayCut (asD p snap) off n = false) : readE p off n snap = 180 ∧ readD p off n snap = [] := by
  have e : readE p off n snap = 180 := by unfold readE; rw [h, if_neg (by decide), h0]; rfl
  exact ⟨e, by unfold readD; rw [e, if_neg (by decide)]⟩
theorem read_c {p : PI} {off n snap : Int} (h : asE p snap = 0) (h0 : mayCut (asD p snap) off n = true) : readE p off n snap = 0 ∧ readD p off n snap = cutO (asD p snap) off n := by
  have e : readE p off n snap = 0 := by unfold readE; rw [h, if_neg (by decide), h0]; rfl
  exact ⟨e, by unfold readD; rw [e, if_pos rfl]⟩
theorem mayCut_no {b : List UInt8} {off n : Int} (h : off < 0 ∨ n < 0 ∨ (b.length : Int) < off + n) : mayCut b off n = false := by
  unfold mayCut
  rcases h with h | h | h
  · rw [decide_eq_false (by omega)]; rfl
  · rw [decide_eq_false (show ¬ 0 ≤ n by omega), Bool.false_and, Bool.and_false]
  · rw [decide_eq_false (show ¬ off + n ≤ b.length by omega), Bool.and_false, Bool.and_false]
theorem mayCut_yes {b : List UInt8} {off n : Int} (h1 : 0 ≤ off) (h2 : 0 ≤ n) (h3 : off + n ≤ b.length) : mayCut b off n = true := by
  unfold mayCut
  rw [decide_eq_true h1, decide_eq_true h2, decide_eq_true h3]; rfl
theorem asE_cases (p : PI) (snap : Int) : asE p snap = 0 ∨ asE p snap = 1 ∨ asE p snap = 182 := by
  unfold asE
  split
  · exact .inr (.inl rfl)
  · split
    · exact .inl rfl
    · exact .inr (.inr rfl)
theorem RdB.seg {w : World} {D : Nat → Prop} {A : Option Addr} {b : List UInt8} {c : Nat} (h : RdB w D A b) (hc : b.length ≤ c) {o n : Nat} (hx : o + n ≤ b.length) : RdB w D (cutA A o c 1) ((b.drop o).take n) :=
  (h.drop (by omega) hc).take (by rw [List.length_drop]; omega)
theorem cutO_nat (b : List UInt8) (o n : Nat) : cutO b (o : Int) (n : Int) = (b.drop o).take n := by unfold cutO; rw [Int.toNat_natCast, Int.toNat_natCast]

set_option maxHeartbeats 8000000 in
theorem Read_any (D : Nat → Prop) (i : ImV) (off n snap : Int) (w : World) (hr : ImR w D i) (h64 : n ≤ 9223372036854775807) :
    Calls Try.prog 12 #[.agg (imA i), .int .i64 off, .int .i64 n, .int .i64 snap] w fun e w' => ∃ v, e = .returned (.tuple #[v, .int .i64 (readE i.p off n snap)]) ∧ OwnB w' w.heap.size v (readD i.p off n snap) ∧ Below w.heap.size w w' := by
  have bb := below_new w (.cells (imA i) 25)
  have hB := Blk.new w 25 (imA i)
  have has := as_any D i snap _ (hr.below bb)
  have hlen := asD_len (p := i.p) snap
  have hcs := asE_cases i.p snap
  have hR := fun (h0 : asE i.p snap ≠ 0) => read_a (p := i.p) (off := off) (n := n) (snap := snap) rfl h0
  have hRb := read_b (p := i.p) (off := off) (n := n) (snap := snap)
  have hRc := read_c (p := i.p) (off := off) (n := n) (snap := snap)
  generalize readE i.p off n snap = re at *
  generalize readD i.p off n snap = rd at *
  generalize asE i.p snap = ae at *
  generalize asD i.p snap = ad at *
  unfold imA at *
  generalize hw0 : w.alloc (.cells #[.slice i.DA i.d.length i.dc, .slice i.CA i.S.length i.cc, .int .i64 i.last] 25) = w0 at *
  by_cases h0 : ae = 0
  rotate_left
  focus
    obtain ⟨rfl, rfl⟩ := hR h0
    have h1 : ¬ (re = 0) := h0
    clear hR hRb hRc hcs h0
    go_enter Try.func12, Try.ntmps12
    go_wp2_with first
      | (with_reducible show wpList _ _ _ _ _ _
         refine wpList_load_row rfl 25 (.tmp 4) rfl w.heap.size rfl 25 _ (0, 0) _ hB Try.underlying25 rfl infoIm ?_)
    refine has.mono ?_
    clear has hw0
    rintro e w3 ⟨Ax, cx, rfl, rx, lx, mx, b3⟩
    go_wp2_with fail
    (try simp only [Exit.inBlock, Exit.then])
    refine bodyPost_ret (results_tmp2 rfl _ _ _) rfl ?_
    exact ⟨_, rfl, OwnB.nil, bb.thenB' b3⟩
  subst h0
  clear hR hcs
  by_cases h1 : off < 0 ∨ n < 0 ∨ (ad.length : Int) < off + n
  focus
    obtain ⟨rfl, rfl⟩ := hRb rfl (mayCut_no h1)
    clear hRb hRc
    by_cases g1 : off < 0
    focus
      clear h1
      go_enter Try.func12, Try.ntmps12
      go_wp2_with first
        | (with_reducible show wpList _ _ _ _ _ _
           refine wpList_load_row rfl 25 (.tmp 4) rfl w.heap.size rfl 25 _ (0, 0) _ hB Try.underlying25 rfl infoIm ?_)
      refine has.mono ?_
      clear has hw0
      rintro e w3 ⟨Ax, cx, rfl, rx, lx, mx, b3⟩
      go_wp2_with fail
      (try simp only [Exit.inBlock, Exit.then])
      refine bodyPost_ret (results_tmp2 rfl _ _ _) rfl ?_
      exact ⟨_, rfl, OwnB.nil, bb.thenB' b3⟩
    by_cases g2 : n < 0
    focus
      clear h1
      go_enter Try.func12, Try.ntmps12
      go_wp2_with first
        | (with_reducible show wpList _ _ _ _ _ _
           refine wpList_load_row rfl 25 (.tmp 4) rfl w.heap.size rfl 25 _ (0, 0) _ hB Try.underlying25 rfl infoIm ?_)
      refine has.mono ?_
      clear has hw0
      rintro e w3 ⟨Ax, cx, rfl, rx, lx, mx, b3⟩
      go_wp2_with fail
      (try simp only [Exit.inBlock, Exit.then])
      refine bodyPost_ret (results_tmp2 rfl _ _ _) rfl ?_
      exact ⟨_, rfl, OwnB.nil, bb.thenB' b3⟩
    by_cases g3 : (ad.length : Int) < off
    focus
      clear h1
      go_enter Try.func12, Try.ntmps12
      go_wp2_with first
        | (with_reducible show wpList _ _ _ _ _ _
           refine wpList_load_row rfl 25 (.tmp 4) rfl w.heap.size rfl 25 _ (0, 0) _ hB Try.underlying25 rfl infoIm ?_)
      refine has.mono ?_
      clear has hw0
      rintro e w3 ⟨Ax, cx, rfl, rx, lx, mx, b3⟩
      go_wp2_with fail
      (try simp only [Exit.inBlock, Exit.then])
      refine bodyPost_ret (results_tmp2 rfl _ _ _) rfl ?_
      exact ⟨_, rfl, OwnB.nil, bb.thenB' b3⟩
    have g4 : (ad.length : Int) - off < n := by omega
    have g5 : 0 ≤ off := by omega
    have g6 : (ad.length : Int) ≤ 512 := by omega
    clear h1
    go_enter Try.func12, Try.ntmps12
    go_wp2_with first
      | (with_reducible show wpList _ _ _ _ _ _
         refine wpList_load_row rfl 25 (.tmp 4) rfl w.heap.size rfl 25 _ (0, 0) _ hB Try.underlying25 rfl infoIm ?_)
    refine has.mono ?_
    clear has hw0
    rintro e w3 ⟨Ax, cx, rfl, rx, lx, mx, b3⟩
    go_wp2_with fail
    (try simp only [Exit.inBlock, Exit.then])
    refine bodyPost_ret (results_tmp2 rfl _ _ _) rfl ?_
    exact ⟨_, rfl, OwnB.nil, bb.thenB' b3⟩
  obtain ⟨o, rfl⟩ : ∃ o : Nat, off = (o : Int) := ⟨off.toNat, by omega⟩
  obtain ⟨k, rfl⟩ : ∃ k : Nat, n = (k : Int) := ⟨n.toNat, by omega⟩
  obtain ⟨rfl, rfl⟩ := hRc rfl (mayCut_yes (by omega) (by omega) (by omega))
  clear hRb hRc
  rw [cutO_nat]
  have g1 : ¬ (o : Int) < 0 := by omega
  have g2 : ¬ (k : Int) < 0 := by omega
  have g3 : ¬ (ad.length : Int) < (o : Int) := by omega
  have g4 : ¬ (ad.length : Int) - (o : Int) < (k : Int) := by omega
  have g6 : (ad.length : Int) ≤ 512 := by omega
  have g7 : o + k ≤ ad.length := by omega
  have g8 : (o : Int) + (k : Int) ≤ 512 := by omega
  have g9 : (o : Int) ≤ (o : Int) + (k : Int) := by omega
  clear h1
  go_enter Try.func12, Try.ntmps12
  go_wp2_with first
    | (with_reducible show wpList _ _ _ _ _ _
       refine wpList_load_row rfl 25 (.tmp 4) rfl w.heap.size rfl 25 _ (0, 0) _ hB Try.underlying25 rfl infoIm ?_)
  refine has.mono ?_
  clear has hw0
  rintro e w3 ⟨Ax, cx, rfl, rx, lx, mx, b3⟩
  have g10 : (o : Int) + (k : Int) ≤ (cx : Int) := by omega
  have hcl := cloneD_any D (cutA Ax o cx 1) (cx - o) ((ad.drop o).take k) w3 (rx.seg lx g7) (by unfold big; rw [List.length_take]; omega)
  rw [show ((ad.drop o).take k).length = k from by rw [List.length_take, List.length_drop]; omega] at hcl
  go_wp2_with fail
  refine hcl.mono ?_
  clear hcl
  rintro e w4 ⟨v, rfl, o4, b4⟩
  go_wp2_with fail
  (try simp only [Exit.inBlock, Exit.then])
  refine bodyPost_ret (results_tmp2 rfl _ _ _) rfl ?_
  exact ⟨v, rfl, o4.low (by have := bb.size; have := b3.size; omega), (bb.thenB' b3).thenB' b4⟩

set_option maxHeartbeats 8000000 in
theorem rRead_any (D : Nat → Prop) (i : ImV) (off n snap : Int) (w : World) (hr : ImR w D i) :
    Calls Try.prog 13 #[.agg (imA i), .int .i64 off, .int .i64 n, .int .i64 snap] w (Told w D (readD i.p off n snap) (.int .i64 (readE i.p off n snap))) := by
  have bb := below_new w (.cells (imA i) 25)
  have hB := Blk.new w 25 (imA i)
  have has := rMay18_any D i _ (hr.below bb)
  have hby := fun W (b : Below (w.alloc (.cells (imA i) 25)).heap.size (w.alloc (.cells (imA i) 25)) W) => bytes_any D i snap W ((hr.below bb).below b)
  have hlen := asD_len (p := i.p) snap
  have hR := fun (h0 : asE i.p snap ≠ 0) => read_a (p := i.p) (off := off) (n := n) (snap := snap) rfl h0
  have hRb := read_b (p := i.p) (off := off) (n := n) (snap := snap)
  have hRc := read_c (p := i.p) (off := off) (n := n) (snap := snap)
  have hE : asE i.p snap = if mayI i.p = false then 1 else if (asO i.p snap).isSome then 0 else 182 := rfl
  have hD : mayI i.p = true → asD i.p snap = bytesD i.p snap := fun h => by unfold asD bytesD; rw [if_neg (by rw [h]; decide)]
  generalize readE i.p off n snap = re at *
  generalize readD i.p off n snap = rd at *
  generalize asE i.p snap = ae at *
  generalize asD i.p snap = ad at *
  generalize (asO i.p snap).isSome = sm at *
  generalize bytesD i.p snap = bd at *
  unfold imA at *
  generalize hw0 : w.alloc (.cells #[.slice i.DA i.d.length i.dc, .slice i.CA i.S.length i.cc, .int .i64 i.last] 25) = w0 at *
  generalize mayI i.p = mm at *
  cases mm
  focus
    rw [if_pos rfl] at hE
    subst hE
    obtain ⟨rfl, rfl⟩ := hR (by decide)
    clear hR hRb hRc hD
    go_enter Try.func13, Try.ntmps13
    go_wp2_with first
      | (with_reducible show wpList _ _ _ _ _ _
         refine wpList_load_row rfl 25 (.tmp 4) rfl w.heap.size rfl 25 _ (0, 0) _ hB Try.underlying25 rfl infoIm ?_)
    refine has.mono ?_
    clear has hw0 hby
    rintro e w2 ⟨rfl, b2⟩
    go_wp2_with fail
    (try simp only [Exit.inBlock, Exit.then])
    refine bodyPost_ret (results_tmp2 rfl _ _ _) rfl ?_
    exact told_nil (bb.thenB' b2)
  obtain rfl := hD rfl
  clear hD
  cases sm
  focus
    subst hE
    obtain ⟨rfl, rfl⟩ := hR (by decide)
    clear hR hRb hRc
    go_enter Try.func13, Try.ntmps13
    go_wp2_with first
      | (with_reducible show wpList _ _ _ _ _ _
         refine wpList_load_row rfl 25 (.tmp 4) rfl w.heap.size rfl 25 _ (0, 0) _ hB Try.underlying25 rfl infoIm ?_)
    refine has.mono ?_
    clear has
    rintro e w2 ⟨rfl, b2⟩
    replace hB := hB.below b2
    have hby := hby w2 b2
    replace bb := bb.thenB' b2
    go_wp2_with first
      | (with_reducible show wpList _ _ _ _ _ _
         refine wpList_load_row rfl 25 (.tmp 4) rfl w.heap.size rfl 25 _ (0, 0) _ hB Try.underlying25 rfl infoIm ?_)
    refine hby.mono ?_
    clear hby hw0
    rintro e w3 ⟨Ax, cx, rfl, rx, lx, mx, b3⟩
    go_wp2_with fail
    (try simp only [Exit.inBlock, Exit.then])
    refine bodyPost_ret (results_tmp2 rfl _ _ _) rfl ?_
    exact told_nil (bb.thenB' b3)
  subst hE
  clear hR
  by_cases h1 : off < 0 ∨ n < 0 ∨ (ad.length : Int) < off + n
  focus
    obtain ⟨rfl, rfl⟩ := hRb rfl (mayCut_no h1)
    clear hRb hRc
    by_cases g1 : off < 0
    focus
      clear h1
      go_enter Try.func13, Try.ntmps13
      go_wp2_with first
        | (with_reducible show wpList _ _ _ _ _ _
           refine wpList_load_row rfl 25 (.tmp 4) rfl w.heap.size rfl 25 _ (0, 0) _ hB Try.underlying25 rfl infoIm ?_)
      refine has.mono ?_
      clear has
      rintro e w2 ⟨rfl, b2⟩
      replace hB := hB.below b2
      have hby := hby w2 b2
      replace bb := bb.thenB' b2
      go_wp2_with first
        | (with_reducible show wpList _ _ _ _ _ _
           refine wpList_load_row rfl 25 (.tmp 4) rfl w.heap.size rfl 25 _ (0, 0) _ hB Try.underlying25 rfl infoIm ?_)
      refine hby.mono ?_
      clear hby hw0
      rintro e w3 ⟨Ax, cx, rfl, rx, lx, mx, b3⟩
      go_wp2_with fail
      (try simp only [Exit.inBlock, Exit.then])
      refine bodyPost_ret (results_tmp2 rfl _ _ _) rfl ?_
      exact told_nil (bb.thenB' b3)
    by_cases g2 : n < 0
    focus
      clear h1
      go_enter Try.func13, Try.ntmps13
      go_wp2_with first
        | (with_reducible show wpList _ _ _ _ _ _
           refine wpList_load_row rfl 25 (.tmp 4) rfl w.heap.size rfl 25 _ (0, 0) _ hB Try.underlying25 rfl infoIm ?_)
      refine has.mono ?_
      clear has
      rintro e w2 ⟨rfl, b2⟩
      replace hB := hB.below b2
      have hby := hby w2 b2
      replace bb := bb.thenB' b2
      go_wp2_with first
        | (with_reducible show wpList _ _ _ _ _ _
           refine wpList_load_row rfl 25 (.tmp 4) rfl w.heap.size rfl 25 _ (0, 0) _ hB Try.underlying25 rfl infoIm ?_)
      refine hby.mono ?_
      clear hby hw0
      rintro e w3 ⟨Ax, cx, rfl, rx, lx, mx, b3⟩
      go_wp2_with fail
      (try simp only [Exit.inBlock, Exit.then])
      refine bodyPost_ret (results_tmp2 rfl _ _ _) rfl ?_
      exact told_nil (bb.thenB' b3)
    by_cases g3 : 512 < off
    focus
      clear h1
      go_enter Try.func13, Try.ntmps13
      go_wp2_with first
        | (with_reducible show wpList _ _ _ _ _ _
           refine wpList_load_row rfl 25 (.tmp 4) rfl w.heap.size rfl 25 _ (0, 0) _ hB Try.underlying25 rfl infoIm ?_)
      refine has.mono ?_
      clear has
      rintro e w2 ⟨rfl, b2⟩
      replace hB := hB.below b2
      have hby := hby w2 b2
      replace bb := bb.thenB' b2
      go_wp2_with first
        | (with_reducible show wpList _ _ _ _ _ _
           refine wpList_load_row rfl 25 (.tmp 4) rfl w.heap.size rfl 25 _ (0, 0) _ hB Try.underlying25 rfl infoIm ?_)
      refine hby.mono ?_
      clear hby hw0
      rintro e w3 ⟨Ax, cx, rfl, rx, lx, mx, b3⟩
      go_wp2_with fail
      (try simp only [Exit.inBlock, Exit.then])
      refine bodyPost_ret (results_tmp2 rfl _ _ _) rfl ?_
      exact told_nil (bb.thenB' b3)
    by_cases g4 : 512 < n
    focus
      clear h1
      go_enter Try.func13, Try.ntmps13
      go_wp2_with first
        | (with_reducible show wpList _ _ _ _ _ _
           refine wpList_load_row rfl 25 (.tmp 4) rfl w.heap.size rfl 25 _ (0, 0) _ hB Try.underlying25 rfl infoIm ?_)
      refine has.mono ?_
      clear has
      rintro e w2 ⟨rfl, b2⟩
      replace hB := hB.below b2
      have hby := hby w2 b2
      replace bb := bb.thenB' b2
      go_wp2_with first
        | (with_reducible show wpList _ _ _ _ _ _
           refine wpList_load_row rfl 25 (.tmp 4) rfl w.heap.size rfl 25 _ (0, 0) _ hB Try.underlying25 rfl infoIm ?_)
      refine hby.mono ?_
      clear hby hw0
      rintro e w3 ⟨Ax, cx, rfl, rx, lx, mx, b3⟩
      go_wp2_with fail
      (try simp only [Exit.inBlock, Exit.then])
      refine bodyPost_ret (results_tmp2 rfl _ _ _) rfl ?_
      exact told_nil (bb.thenB' b3)
    have g5 : (ad.length : Int) < off + n := by omega
    have g6 : 0 ≤ off := by omega
    have g7 : 0 ≤ n := by omega
    have g8 : off ≤ 512 := by omega
    have g9 : n ≤ 512 := by omega
    clear h1
    go_enter Try.func13, Try.ntmps13
    go_wp2_with first
      | (with_reducible show wpList _ _ _ _ _ _
         refine wpList_load_row rfl 25 (.tmp 4) rfl w.heap.size rfl 25 _ (0, 0) _ hB Try.underlying25 rfl infoIm ?_)
    refine has.mono ?_
    clear has
    rintro e w2 ⟨rfl, b2⟩
    replace hB := hB.below b2
    have hby := hby w2 b2
    replace bb := bb.thenB' b2
    go_wp2_with first
      | (with_reducible show wpList _ _ _ _ _ _
         refine wpList_load_row rfl 25 (.tmp 4) rfl w.heap.size rfl 25 _ (0, 0) _ hB Try.underlying25 rfl infoIm ?_)
    refine hby.mono ?_
    clear hby hw0
    rintro e w3 ⟨Ax, cx, rfl, rx, lx, mx, b3⟩
    go_wp2_with fail
    (try simp only [Exit.inBlock, Exit.then])
    refine bodyPost_ret (results_tmp2 rfl _ _ _) rfl ?_
    exact told_nil (bb.thenB' b3)
  obtain ⟨o, rfl⟩ : ∃ o : Nat, off = (o : Int) := ⟨off.toNat, by omega⟩
  obtain ⟨k, rfl⟩ : ∃ k : Nat, n = (k : Int) := ⟨n.toNat, by omega⟩
  obtain ⟨rfl, rfl⟩ := hRc rfl (mayCut_yes (by omega) (by omega) (by omega))
  clear hRb hRc
  rw [cutO_nat]
  have g1 : ¬ (o : Int) < 0 := by omega
  have g2 : ¬ (k : Int) < 0 := by omega
  have g3 : ¬ (512 : Int) < (o : Int) := by omega
  have g4 : ¬ (512 : Int) < (k : Int) := by omega
  have g5 : ¬ (ad.length : Int) < (o : Int) + (k : Int) := by omega
  have g6 : (ad.length : Int) ≤ 512 := by omega
  have g7 : o + k ≤ ad.length := by omega
  have g8 : (o : Int) + (k : Int) ≤ 512 := by omega
  have g9 : (o : Int) ≤ (o : Int) + (k : Int) := by omega
  have i8 : (o : Int) ≤ 512 := by omega
  have i9 : (k : Int) ≤ 512 := by omega
  clear h1
  go_enter Try.func13, Try.ntmps13
  go_wp2_with first
    | (with_reducible show wpList _ _ _ _ _ _
       refine wpList_load_row rfl 25 (.tmp 4) rfl w.heap.size rfl 25 _ (0, 0) _ hB Try.underlying25 rfl infoIm ?_)
  refine has.mono ?_
  clear has
  rintro e w2 ⟨rfl, b2⟩
  replace hB := hB.below b2
  have hby := hby w2 b2
  replace bb := bb.thenB' b2
  go_wp2_with first
    | (with_reducible show wpList _ _ _ _ _ _
       refine wpList_load_row rfl 25 (.tmp 4) rfl w.heap.size rfl 25 _ (0, 0) _ hB Try.underlying25 rfl infoIm ?_)
  refine hby.mono ?_
  clear hby hw0
  rintro e w3 ⟨Ax, cx, rfl, rx, lx, mx, b3⟩
  have g10 : (o : Int) + (k : Int) ≤ (cx : Int) := by omega
  have hsg := rx.seg lx g7
  have hln : ((ad.drop o).take k).length = k := by rw [List.length_take, List.length_drop]; omega
  have HLN := Lib.hid hln
  clear hln
  go_wp2_with fail
  (try simp only [Exit.inBlock, Exit.then])
  refine bodyPost_ret (results_tmp2 rfl _ _ _) rfl ?_
  refine ⟨cutA Ax o cx 1, cx - o, ?_, hsg, by rw [HLN.out]; omega, by omega, bb.thenB' b3⟩
  rw [HLN.out, show k = o + k - o from by omega]
  simp only [Nat.add_sub_cancel_left]
  rfl

/-! ### a byte, few -/
def atO (b : List UInt8) (k : Nat) : UInt8 := b.getD k 0
theorem at_any (D : Nat → Prop) (A : Option Addr) (c : Nat) (b : List UInt8) (k : Nat) (w : World) (h : RdB w D A b) (hl : b.length ≤ 1000) (hk : k ≤ 1000) :
    Calls Try.prog 31 #[.slice A b.length c, .int .i64 (k : Int)] w fun e w' => e = .returned (cB (atO b k)) ∧ Below w.heap.size w w' := by
  by_cases hlt : k < b.length
  · obtain ⟨ad, rfl, -, c1⟩ := h.at_ hlt
    have e : atO b k = b[k] := by unfold atO; rw [List.getD_eq_getElem?_getD, List.getElem?_eq_getElem hlt]; rfl
    rw [e]
    have g1 : ¬ (b.length : Int) ≤ (k : Int) := by omega
    have g2 : (k : Int) < (b.length : Int) := by omega
    unfold cB
    generalize b[k] = x at *
    clear e
    go_enter Try.func31, Try.ntmps31
    go_wp2_with fail
    go_ret
    exact ⟨rfl, Below.refl _ _⟩
  · have e : atO b k = 0 := by unfold atO; rw [List.getD_eq_getElem?_getD, List.getElem?_eq_none (by omega)]; rfl
    rw [e]
    have g1 : (b.length : Int) ≤ (k : Int) := by omega
    go_enter Try.func31, Try.ntmps31
    go_wp2_with fail
    go_ret
    exact ⟨rfl, Below.refl _ _⟩
end Go.Proofs.Ytcdodchjgadcoaa
