/- Parts of the proof, joined: AbQ Sp9 SpA SpB SpC SortP SpD. -/
import Derived.Test.YthkeoimjjgmppaaDoorQj
import Derived.Test.YthkeoimjjgmppaaDoorQd
import Derived.Test.YthkeoimjjgmppaaDoorQb
import Derived.Test.YthkeoimjjgmppaaDoorQc
import Derived.Deep.CutRange
import Derived.Deep.CutBlock
import Derived.Shelf.SlSortCmp.WholeK
import Derived.Ground.SlsfProg
import Derived.Test.YthkeoimjjgmppaaDoorProg
/- The document's bytes and Read; the code's Read; a byte, few. -/
namespace Go.Proofs.YthkeoimjjgmppaaDoor
open Go.RowKit
set_option linter.unusedVariables false
set_option maxRecDepth 100000

set_option maxHeartbeats 8000000 in
theorem bytes_any (D : Nat → Prop) (i : ImV) (snap : Int) (w : World) (hr : ImR w D i) :
    Calls Tryd.prog 51 #[.agg (imA i), .int .i64 snap] w (Told w D (bytesD i.p snap) (.bool (asO i.p snap).isSome)) := by
  have bb := below_new w (.cells (imA i) 35)
  have hB := Blk.new w 35 (imA i)
  have hr0 := hr.below bb
  have hfd := rfind_any D i snap _ hr0
  have hfb := findO_bd (idsO i.S) snap
  rw [ids_len] at hfb
  have E0 : bytesD i.p snap = (asO i.p snap).getD [] := rfl
  unfold imA at *
  generalize hw0 : w.alloc (.cells #[.slice i.DA i.d.length i.dc, .slice i.CA i.S.length i.cc, .int .i64 i.last] 35) = w0 at *
  by_cases h0 : snap = 0
  focus
    subst h0
    rw [asO_zero] at E0
    rw [asO_zero]
    have E := Lib.hid E0
    clear E0 hfd hfb
    have rd := hr.rd
    have l1 := hr.dl
    have l2 := hr.dm
    have c1 := hB.cell 0
    simp at c1
    go_enter Tryd.func51, Tryd.ntmps51
    go_wp2_with fail
    (try simp only [Exit.inBlock, Exit.then])
    refine bodyPost_ret (results_tmp2 rfl _ _ _) rfl ?_
    rw [E.out]
    exact ⟨i.DA, i.dc, rfl, rd.below bb, l1, l2, bb⟩
  rw [ids_p] at hfb hfd
  by_cases h1 : findO (idsP i.p.S) snap < 0
  focus
    rw [asO_none h0 h1] at E0
    rw [asO_none h0 h1]
    have E := Lib.hid E0
    have h2 : findO (idsP (pureC i.S)) snap < 0 := h1
    clear E0 h1
    generalize findO (idsP (pureC i.S)) snap = r at *
    go_enter Tryd.func51, Tryd.ntmps51
    go_wp2_with first
      | (with_reducible show wpList _ _ _ _ _ _
         refine wpList_load_row rfl 35 (.tmp 2) rfl w.heap.size rfl 35 _ (0, 0) _ hB Tryd.underlying35 rfl infoIm ?_)
    refine hfd.mono ?_
    clear hfd hw0
    rintro e w3 ⟨rfl, b3⟩
    go_wp2_with fail
    (try simp only [Exit.inBlock, Exit.then])
    refine bodyPost_ret (results_tmp2 rfl _ _ _) rfl ?_
    rw [E.out]
    exact told_nil (bb.thenB' b3)
  obtain ⟨k, hk⟩ : ∃ k : Nat, findO (idsP (pureC i.S)) snap = (k : Int) := ⟨(findO (idsP (pureC i.S)) snap).toNat, by
    have : ¬ findO (idsP (pureC i.S)) snap < 0 := h1
    omega⟩
  rw [asO_some h0 hk] at E0
  rw [asO_some h0 hk]
  rw [hk] at hfb hfd
  clear h1 hk
  have hkl : k < i.S.length := by omega
  have e9 : i.p.S.getD k (0, []) = (i.S[k].id, i.S[k].m) := pureC_getD i.S k hkl
  rw [e9] at E0
  have E := Lib.hid E0
  clear E0 e9
  have h2 : ¬ (k : Int) < 0 := by omega
  have h3 : (k : Int) < (i.S.length : Int) := by omega
  have h4 : (i.S.length : Int) ≤ 9223372036854775807 := by have := hr.sl; have := hr.sm; omega
  obtain ⟨rk, lk, mk⟩ := hr.cp i.S[k] (List.getElem_mem hkl)
  have hS := fun W (b : Below w.heap.size w W) => (RdL.below hr.rS b).cp hkl
  obtain ⟨x, hxe⟩ : ∃ x, x = i.S[k].m := ⟨_, rfl⟩
  rw [← hxe] at E rk lk
  simp only [← hxe] at hS
  clear hxe hfb
  generalize i.S[k].A = Ax at *
  generalize i.S[k].c = cx at *
  go_enter Tryd.func51, Tryd.ntmps51
  go_wp2_with first
    | (with_reducible show wpList _ _ _ _ _ _
       refine wpList_load_row rfl 35 (.tmp 2) rfl w.heap.size rfl 35 _ (0, 0) _ hB Tryd.underlying35 rfl infoIm ?_)
  refine hfd.mono ?_
  clear hfd hw0
  rintro e w3 ⟨rfl, b3⟩
  replace hB := hB.below b3
  replace bb := bb.thenB' b3
  have c2 := hB.cell 1
  simp at c2
  obtain ⟨ad, had, d0, d1⟩ := hS w3 bb
  rw [had] at c2
  clear hS had
  go_wp2_with fail
  (try simp only [Exit.inBlock, Exit.then])
  refine bodyPost_ret (results_tmp2 rfl _ _ _) rfl ?_
  rw [E.out]
  exact ⟨Ax, cx, rfl, rk.below bb, lk, mk, bb⟩

/-! ### Read -/
def cutO (b : List UInt8) (off n : Int) : List UInt8 := (b.drop off.toNat).take n.toNat
def mayCut (b : List UInt8) (off n : Int) : Bool := decide (0 ≤ off) && (decide (0 ≤ n) && decide (off + n ≤ b.length))
def readE (p : PI) (off n snap : Int) : Int := if asE p snap ≠ 0 then asE p snap else if mayCut (asD p snap) off n then 0 else 180
def readD (p : PI) (off n snap : Int) : List UInt8 := if readE p off n snap = 0 then cutO (asD p snap) off n else []
theorem asD_nil {p : PI} {snap : Int} (h : asE p snap ≠ 0) : asD p snap = [] := by
  unfold asE at h
  unfold asD
  split
  · rfl
  · rename_i h1
    rw [if_neg h1] at h
    cases hq : asO p snap with
    | none => rfl
    | some x => rw [hq] at h; exact absurd rfl h
theorem asD_len {p : PI} (snap : Int) : (asD p snap).length ≤ 512 := by
  unfold asD
  split
  · decide
  · rename_i h
    have hm : mayI p = true := by simpa using h
    have hb := mayI_bd hm
    unfold asO
    split
    · exact hb.1
    · split
      · decide
      · show ((p.S.getD (findO (idsP p.S) snap).toNat (0, [])).2).length ≤ 512
        rw [List.getD_eq_getElem?_getD]
        cases hq : p.S[(findO (idsP p.S) snap).toNat]? with
        | none => decide
        | some s => exact (copiesO_bd _ _ _ hb.2.2.2.2 s (List.mem_of_getElem? hq)).1
theorem read_a {p : PI} {off n snap : Int} {v : Int} (h : asE p snap = v) (h0 : v ≠ 0) : readE p off n snap = v ∧ readD p off n snap = [] := by
  have e : readE p off n snap = v := by unfold readE; rw [h, if_pos h0]
  exact ⟨e, by unfold readD; rw [e, if_neg h0]⟩
theorem read_b {p : PI} {off n snap : Int} (h : asE p snap = 0) (h0 : mayCut (asD p snap) off n = false) : readE p off n snap = 180 ∧ readD p off n snap = [] := by
  have e : readE p off n snap = 180 := by unfold readE; rw [h, if_neg (by decide), h0]; rfl
  exact ⟨e, by unfold readD; rw [e, if_neg (by decide)]⟩
theorem read_c {p : PI} {off n snap : Int} (h : asE p snap = 0) (h0 : mayCut (asD p snap) off n = true) : readE p off n snap = 0 ∧ readD p off n snap = cutO (asD p snap) off n := by
  have e : readE p off n snap = 0 := by unfold readE; rw [h, if_neg (by decide), h0]; rfl
  exact ⟨e, by unfold readD; rw [e, if_pos rfl]⟩
theorem mayCut_no {b : List UInt8} {off n : Int} (h : off < 0 ∨ n < 0 ∨ (b.length : Int) < off + n) : mayCut b off n = false := by
  unfold mayCut
  rcases h with h | h | h
  · rw [decide_eq_false (by omega)]; rfl
  · rw [decide_eq_false (show ¬ 0 ≤ n by omega), Bool.false_and, Bool.and_false]
  · rw [decide_eq_false (show ¬ off + n ≤ b.length by omega), Bool.and_false, Bool.and_false]
theorem mayCut_yes {b : List UInt8} {off n : Int} (h1 : 0 ≤ off) (h2 : 0 ≤ n) (h3 : off + n ≤ b.length) : mayCut b off n = true := by
  unfold mayCut
  rw [decide_eq_true h1, decide_eq_true h2, decide_eq_true h3]; rfl
theorem asE_cases (p : PI) (snap : Int) : asE p snap = 0 ∨ asE p snap = 1 ∨ asE p snap = 182 := by
  unfold asE
  split
  · exact .inr (.inl rfl)
  · split
    · exact .inl rfl
    · exact .inr (.inr rfl)
theorem RdB.seg {w : World} {D : Nat → Prop} {A : Option Addr} {b : List UInt8} {c : Nat} (h : RdB w D A b) (hc : b.length ≤ c) {o n : Nat} (hx : o + n ≤ b.length) : RdB w D (cutA A o c 1) ((b.drop o).take n) :=
  (h.drop (by omega) hc).take (by rw [List.length_drop]; omega)
theorem cutO_nat (b : List UInt8) (o n : Nat) : cutO b (o : Int) (n : Int) = (b.drop o).take n := by unfold cutO; rw [Int.toNat_natCast, Int.toNat_natCast]

set_option maxHeartbeats 8000000 in
theorem Read_any (D : Nat → Prop) (i : ImV) (off n snap : Int) (w : World) (hr : ImR w D i) (h64 : n ≤ 9223372036854775807) :
    Calls Tryd.prog 62 #[.agg (imA i), .int .i64 off, .int .i64 n, .int .i64 snap] w fun e w' => ∃ v, e = .returned (.tuple #[v, .int .i64 (readE i.p off n snap)]) ∧ OwnB w' w.heap.size v (readD i.p off n snap) ∧ Below w.heap.size w w' := by
  have bb := below_new w (.cells (imA i) 35)
  have hB := Blk.new w 35 (imA i)
  have has := as_any D i snap _ (hr.below bb)
  have hlen := asD_len (p := i.p) snap
  have hcs := asE_cases i.p snap
  have hR := fun (h0 : asE i.p snap ≠ 0) => read_a (p := i.p) (off := off) (n := n) (snap := snap) rfl h0
  have hRb := read_b (p := i.p) (off := off) (n := n) (snap := snap)
  have hRc := read_c (p := i.p) (off := off) (n := n) (snap := snap)
  generalize readE i.p off n snap = re at *
  generalize readD i.p off n snap = rd at *
  generalize asE i.p snap = ae at *
  generalize asD i.p snap = ad at *
  unfold imA at *
  generalize hw0 : w.alloc (.cells #[.slice i.DA i.d.length i.dc, .slice i.CA i.S.length i.cc, .int .i64 i.last] 35) = w0 at *
  by_cases h0 : ae = 0
  rotate_left
  focus
    obtain ⟨rfl, rfl⟩ := hR h0
    have h1 : ¬ (re = 0) := h0
    clear hR hRb hRc hcs h0
    go_enter Tryd.func62, Tryd.ntmps62
    go_wp2_with first
      | (with_reducible show wpList _ _ _ _ _ _
         refine wpList_load_row rfl 35 (.tmp 4) rfl w.heap.size rfl 35 _ (0, 0) _ hB Tryd.underlying35 rfl infoIm ?_)
    refine has.mono ?_
    clear has hw0
    rintro e w3 ⟨Ax, cx, rfl, rx, lx, mx, b3⟩
    go_wp2_with fail
    (try simp only [Exit.inBlock, Exit.then])
    refine bodyPost_ret (results_tmp2 rfl _ _ _) rfl ?_
    exact ⟨_, rfl, OwnB.nil, bb.thenB' b3⟩
  subst h0
  clear hR hcs
  by_cases h1 : off < 0 ∨ n < 0 ∨ (ad.length : Int) < off + n
  focus
    obtain ⟨rfl, rfl⟩ := hRb rfl (mayCut_no h1)
    clear hRb hRc
    by_cases g1 : off < 0
    focus
      clear h1
      go_enter Tryd.func62, Tryd.ntmps62
      go_wp2_with first
        | (with_reducible show wpList _ _ _ _ _ _
           refine wpList_load_row rfl 35 (.tmp 4) rfl w.heap.size rfl 35 _ (0, 0) _ hB Tryd.underlying35 rfl infoIm ?_)
      refine has.mono ?_
      clear has hw0
      rintro e w3 ⟨Ax, cx, rfl, rx, lx, mx, b3⟩
      go_wp2_with fail
      (try simp only [Exit.inBlock, Exit.then])
      refine bodyPost_ret (results_tmp2 rfl _ _ _) rfl ?_
      exact ⟨_, rfl, OwnB.nil, bb.thenB' b3⟩
    by_cases g2 : n < 0
    focus
      clear h1
      go_enter Tryd.func62, Tryd.ntmps62
      go_wp2_with first
        | (with_reducible show wpList _ _ _ _ _ _
           refine wpList_load_row rfl 35 (.tmp 4) rfl w.heap.size rfl 35 _ (0, 0) _ hB Tryd.underlying35 rfl infoIm ?_)
      refine has.mono ?_
      clear has hw0
      rintro e w3 ⟨Ax, cx, rfl, rx, lx, mx, b3⟩
      go_wp2_with fail
      (try simp only [Exit.inBlock, Exit.then])
      refine bodyPost_ret (results_tmp2 rfl _ _ _) rfl ?_
      exact ⟨_, rfl, OwnB.nil, bb.thenB' b3⟩
    by_cases g3 : (ad.length : Int) < off
    focus
      clear h1
      go_enter Tryd.func62, Tryd.ntmps62
      go_wp2_with first
        | (with_reducible show wpList _ _ _ _ _ _
           refine wpList_load_row rfl 35 (.tmp 4) rfl w.heap.size rfl 35 _ (0, 0) _ hB Tryd.underlying35 rfl infoIm ?_)
      refine has.mono ?_
      clear has hw0
      rintro e w3 ⟨Ax, cx, rfl, rx, lx, mx, b3⟩
      go_wp2_with fail
      (try simp only [Exit.inBlock, Exit.then])
      refine bodyPost_ret (results_tmp2 rfl _ _ _) rfl ?_
      exact ⟨_, rfl, OwnB.nil, bb.thenB' b3⟩
    have g4 : (ad.length : Int) - off < n := by omega
    have g5 : 0 ≤ off := by omega
    have g6 : (ad.length : Int) ≤ 512 := by omega
    clear h1
    go_enter Tryd.func62, Tryd.ntmps62
    go_wp2_with first
      | (with_reducible show wpList _ _ _ _ _ _
         refine wpList_load_row rfl 35 (.tmp 4) rfl w.heap.size rfl 35 _ (0, 0) _ hB Tryd.underlying35 rfl infoIm ?_)
    refine has.mono ?_
    clear has hw0
    rintro e w3 ⟨Ax, cx, rfl, rx, lx, mx, b3⟩
    go_wp2_with fail
    (try simp only [Exit.inBlock, Exit.then])
    refine bodyPost_ret (results_tmp2 rfl _ _ _) rfl ?_
    exact ⟨_, rfl, OwnB.nil, bb.thenB' b3⟩
  obtain ⟨o, rfl⟩ : ∃ o : Nat, off = (o : Int) := ⟨off.toNat, by omega⟩
  obtain ⟨k, rfl⟩ : ∃ k : Nat, n = (k : Int) := ⟨n.toNat, by omega⟩
  obtain ⟨rfl, rfl⟩ := hRc rfl (mayCut_yes (by omega) (by omega) (by omega))
  clear hRb hRc
  rw [cutO_nat]
  have g1 : ¬ (o : Int) < 0 := by omega
  have g2 : ¬ (k : Int) < 0 := by omega
  have g3 : ¬ (ad.length : Int) < (o : Int) := by omega
  have g4 : ¬ (ad.length : Int) - (o : Int) < (k : Int) := by omega
  have g6 : (ad.length : Int) ≤ 512 := by omega
  have g7 : o + k ≤ ad.length := by omega
  have g8 : (o : Int) + (k : Int) ≤ 512 := by omega
  have g9 : (o : Int) ≤ (o : Int) + (k : Int) := by omega
  clear h1
  go_enter Tryd.func62, Tryd.ntmps62
  go_wp2_with first
    | (with_reducible show wpList _ _ _ _ _ _
       refine wpList_load_row rfl 35 (.tmp 4) rfl w.heap.size rfl 35 _ (0, 0) _ hB Tryd.underlying35 rfl infoIm ?_)
  refine has.mono ?_
  clear has hw0
  rintro e w3 ⟨Ax, cx, rfl, rx, lx, mx, b3⟩
  have g10 : (o : Int) + (k : Int) ≤ (cx : Int) := by omega
  have hcl := cloneD_any D (cutA Ax o cx 1) (cx - o) ((ad.drop o).take k) w3 (rx.seg lx g7) (by unfold big; rw [List.length_take]; omega)
  rw [show ((ad.drop o).take k).length = k from by rw [List.length_take, List.length_drop]; omega] at hcl
  go_wp2_with fail
  refine hcl.mono ?_
  clear hcl
  rintro e w4 ⟨v, rfl, o4, b4⟩
  go_wp2_with fail
  (try simp only [Exit.inBlock, Exit.then])
  refine bodyPost_ret (results_tmp2 rfl _ _ _) rfl ?_
  exact ⟨v, rfl, o4.low (by have := bb.size; have := b3.size; omega), (bb.thenB' b3).thenB' b4⟩

set_option maxHeartbeats 8000000 in
theorem rRead_any (D : Nat → Prop) (i : ImV) (off n snap : Int) (w : World) (hr : ImR w D i) :
    Calls Tryd.prog 27 #[.agg (imA i), .int .i64 off, .int .i64 n, .int .i64 snap] w (Told w D (readD i.p off n snap) (.int .i64 (readE i.p off n snap))) := by
  have bb := below_new w (.cells (imA i) 35)
  have hB := Blk.new w 35 (imA i)
  have has := rMay18_any D i _ (hr.below bb)
  have hby := fun W (b : Below (w.alloc (.cells (imA i) 35)).heap.size (w.alloc (.cells (imA i) 35)) W) => bytes_any D i snap W ((hr.below bb).below b)
  have hlen := asD_len (p := i.p) snap
  have hR := fun (h0 : asE i.p snap ≠ 0) => read_a (p := i.p) (off := off) (n := n) (snap := snap) rfl h0
  have hRb := read_b (p := i.p) (off := off) (n := n) (snap := snap)
  have hRc := read_c (p := i.p) (off := off) (n := n) (snap := snap)
  have hE : asE i.p snap = if mayI i.p = false then 1 else if (asO i.p snap).isSome then 0 else 182 := rfl
  have hD : mayI i.p = true → asD i.p snap = bytesD i.p snap := fun h => by unfold asD bytesD; rw [if_neg (by rw [h]; decide)]
  generalize readE i.p off n snap = re at *
  generalize readD i.p off n snap = rd at *
  generalize asE i.p snap = ae at *
  generalize asD i.p snap = ad at *
  generalize (asO i.p snap).isSome = sm at *
  generalize bytesD i.p snap = bd at *
  unfold imA at *
  generalize hw0 : w.alloc (.cells #[.slice i.DA i.d.length i.dc, .slice i.CA i.S.length i.cc, .int .i64 i.last] 35) = w0 at *
  generalize mayI i.p = mm at *
  cases mm
  focus
    rw [if_pos rfl] at hE
    subst hE
    obtain ⟨rfl, rfl⟩ := hR (by decide)
    clear hR hRb hRc hD
    go_enter Tryd.func27, Tryd.ntmps27
    go_wp2_with first
      | (with_reducible show wpList _ _ _ _ _ _
         refine wpList_load_row rfl 35 (.tmp 4) rfl w.heap.size rfl 35 _ (0, 0) _ hB Tryd.underlying35 rfl infoIm ?_)
    refine has.mono ?_
    clear has hw0 hby
    rintro e w2 ⟨rfl, b2⟩
    go_wp2_with fail
    (try simp only [Exit.inBlock, Exit.then])
    refine bodyPost_ret (results_tmp2 rfl _ _ _) rfl ?_
    exact told_nil (bb.thenB' b2)
  obtain rfl := hD rfl
  clear hD
  cases sm
  focus
    subst hE
    obtain ⟨rfl, rfl⟩ := hR (by decide)
    clear hR hRb hRc
    go_enter Tryd.func27, Tryd.ntmps27
    go_wp2_with first
      | (with_reducible show wpList _ _ _ _ _ _
         refine wpList_load_row rfl 35 (.tmp 4) rfl w.heap.size rfl 35 _ (0, 0) _ hB Tryd.underlying35 rfl infoIm ?_)
    refine has.mono ?_
    clear has
    rintro e w2 ⟨rfl, b2⟩
    replace hB := hB.below b2
    have hby := hby w2 b2
    replace bb := bb.thenB' b2
    go_wp2_with first
      | (with_reducible show wpList _ _ _ _ _ _
         refine wpList_load_row rfl 35 (.tmp 4) rfl w.heap.size rfl 35 _ (0, 0) _ hB Tryd.underlying35 rfl infoIm ?_)
    refine hby.mono ?_
    clear hby hw0
    rintro e w3 ⟨Ax, cx, rfl, rx, lx, mx, b3⟩
    go_wp2_with fail
    (try simp only [Exit.inBlock, Exit.then])
    refine bodyPost_ret (results_tmp2 rfl _ _ _) rfl ?_
    exact told_nil (bb.thenB' b3)
  subst hE
  clear hR
  by_cases h1 : off < 0 ∨ n < 0 ∨ (ad.length : Int) < off + n
  focus
    obtain ⟨rfl, rfl⟩ := hRb rfl (mayCut_no h1)
    clear hRb hRc
    by_cases g1 : off < 0
    focus
      clear h1
      go_enter Tryd.func27, Tryd.ntmps27
      go_wp2_with first
        | (with_reducible show wpList _ _ _ _ _ _
           refine wpList_load_row rfl 35 (.tmp 4) rfl w.heap.size rfl 35 _ (0, 0) _ hB Tryd.underlying35 rfl infoIm ?_)
      refine has.mono ?_
      clear has
      rintro e w2 ⟨rfl, b2⟩
      replace hB := hB.below b2
      have hby := hby w2 b2
      replace bb := bb.thenB' b2
      go_wp2_with first
        | (with_reducible show wpList _ _ _ _ _ _
           refine wpList_load_row rfl 35 (.tmp 4) rfl w.heap.size rfl 35 _ (0, 0) _ hB Tryd.underlying35 rfl infoIm ?_)
      refine hby.mono ?_
      clear hby hw0
      rintro e w3 ⟨Ax, cx, rfl, rx, lx, mx, b3⟩
      go_wp2_with fail
      (try simp only [Exit.inBlock, Exit.then])
      refine bodyPost_ret (results_tmp2 rfl _ _ _) rfl ?_
      exact told_nil (bb.thenB' b3)
    by_cases g2 : n < 0
    focus
      clear h1
      go_enter Tryd.func27, Tryd.ntmps27
      go_wp2_with first
        | (with_reducible show wpList _ _ _ _ _ _
           refine wpList_load_row rfl 35 (.tmp 4) rfl w.heap.size rfl 35 _ (0, 0) _ hB Tryd.underlying35 rfl infoIm ?_)
      refine has.mono ?_
      clear has
      rintro e w2 ⟨rfl, b2⟩
      replace hB := hB.below b2
      have hby := hby w2 b2
      replace bb := bb.thenB' b2
      go_wp2_with first
        | (with_reducible show wpList _ _ _ _ _ _
           refine wpList_load_row rfl 35 (.tmp 4) rfl w.heap.size rfl 35 _ (0, 0) _ hB Tryd.underlying35 rfl infoIm ?_)
      refine hby.mono ?_
      clear hby hw0
      rintro e w3 ⟨Ax, cx, rfl, rx, lx, mx, b3⟩
      go_wp2_with fail
      (try simp only [Exit.inBlock, Exit.then])
      refine bodyPost_ret (results_tmp2 rfl _ _ _) rfl ?_
      exact told_nil (bb.thenB' b3)
    by_cases g3 : 512 < off
    focus
      clear h1
      go_enter Tryd.func27, Tryd.ntmps27
      go_wp2_with first
        | (with_reducible show wpList _ _ _ _ _ _
           refine wpList_load_row rfl 35 (.tmp 4) rfl w.heap.size rfl 35 _ (0, 0) _ hB Tryd.underlying35 rfl infoIm ?_)
      refine has.mono ?_
      clear has
      rintro e w2 ⟨rfl, b2⟩
      replace hB := hB.below b2
      have hby := hby w2 b2
      replace bb := bb.thenB' b2
      go_wp2_with first
        | (with_reducible show wpList _ _ _ _ _ _
           refine wpList_load_row rfl 35 (.tmp 4) rfl w.heap.size rfl 35 _ (0, 0) _ hB Tryd.underlying35 rfl infoIm ?_)
      refine hby.mono ?_
      clear hby hw0
      rintro e w3 ⟨Ax, cx, rfl, rx, lx, mx, b3⟩
      go_wp2_with fail
      (try simp only [Exit.inBlock, Exit.then])
      refine bodyPost_ret (results_tmp2 rfl _ _ _) rfl ?_
      exact told_nil (bb.thenB' b3)
    by_cases g4 : 512 < n
    focus
      clear h1
      go_enter Tryd.func27, Tryd.ntmps27
      go_wp2_with first
        | (with_reducible show wpList _ _ _ _ _ _
           refine wpList_load_row rfl 35 (.tmp 4) rfl w.heap.size rfl 35 _ (0, 0) _ hB Tryd.underlying35 rfl infoIm ?_)
      refine has.mono ?_
      clear has
      rintro e w2 ⟨rfl, b2⟩
      replace hB := hB.below b2
      have hby := hby w2 b2
      replace bb := bb.thenB' b2
      go_wp2_with first
        | (with_reducible show wpList _ _ _ _ _ _
           refine wpList_load_row rfl 35 (.tmp 4) rfl w.heap.size rfl 35 _ (0, 0) _ hB Tryd.underlying35 rfl infoIm ?_)
      refine hby.mono ?_
      clear hby hw0
      rintro e w3 ⟨Ax, cx, rfl, rx, lx, mx, b3⟩
      go_wp2_with fail
      (try simp only [Exit.inBlock, Exit.then])
      refine bodyPost_ret (results_tmp2 rfl _ _ _) rfl ?_
      exact told_nil (bb.thenB' b3)
    have g5 : (ad.length : Int) < off + n := by omega
    have g6 : 0 ≤ off := by omega
    have g7 : 0 ≤ n := by omega
    have g8 : off ≤ 512 := by omega
    have g9 : n ≤ 512 := by omega
    clear h1
    go_enter Tryd.func27, Tryd.ntmps27
    go_wp2_with first
      | (with_reducible show wpList _ _ _ _ _ _
         refine wpList_load_row rfl 35 (.tmp 4) rfl w.heap.size rfl 35 _ (0, 0) _ hB Tryd.underlying35 rfl infoIm ?_)
    refine has.mono ?_
    clear has
    rintro e w2 ⟨rfl, b2⟩
    replace hB := hB.below b2
    have hby := hby w2 b2
    replace bb := bb.thenB' b2
    go_wp2_with first
      | (with_reducible show wpList _ _ _ _ _ _
         refine wpList_load_row rfl 35 (.tmp 4) rfl w.heap.size rfl 35 _ (0, 0) _ hB Tryd.underlying35 rfl infoIm ?_)
    refine hby.mono ?_
    clear hby hw0
    rintro e w3 ⟨Ax, cx, rfl, rx, lx, mx, b3⟩
    go_wp2_with fail
    (try simp only [Exit.inBlock, Exit.then])
    refine bodyPost_ret (results_tmp2 rfl _ _ _) rfl ?_
    exact told_nil (bb.thenB' b3)
  obtain ⟨o, rfl⟩ : ∃ o : Nat, off = (o : Int) := ⟨off.toNat, by omega⟩
  obtain ⟨k, rfl⟩ : ∃ k : Nat, n = (k : Int) := ⟨n.toNat, by omega⟩
  obtain ⟨rfl, rfl⟩ := hRc rfl (mayCut_yes (by omega) (by omega) (by omega))
  clear hRb hRc
  rw [cutO_nat]
  have g1 : ¬ (o : Int) < 0 := by omega
  have g2 : ¬ (k : Int) < 0 := by omega
  have g3 : ¬ (512 : Int) < (o : Int) := by omega
  have g4 : ¬ (512 : Int) < (k : Int) := by omega
  have g5 : ¬ (ad.length : Int) < (o : Int) + (k : Int) := by omega
  have g6 : (ad.length : Int) ≤ 512 := by omega
  have g7 : o + k ≤ ad.length := by omega
  have g8 : (o : Int) + (k : Int) ≤ 512 := by omega
  have g9 : (o : Int) ≤ (o : Int) + (k : Int) := by omega
  have i8 : (o : Int) ≤ 512 := by omega
  have i9 : (k : Int) ≤ 512 := by omega
  clear h1
  go_enter Tryd.func27, Tryd.ntmps27
  go_wp2_with first
    | (with_reducible show wpList _ _ _ _ _ _
       refine wpList_load_row rfl 35 (.tmp 4) rfl w.heap.size rfl 35 _ (0, 0) _ hB Tryd.underlying35 rfl infoIm ?_)
  refine has.mono ?_
  clear has
  rintro e w2 ⟨rfl, b2⟩
  replace hB := hB.below b2
  have hby := hby w2 b2
  replace bb := bb.thenB' b2
  go_wp2_with first
    | (with_reducible show wpList _ _ _ _ _ _
       refine wpList_load_row rfl 35 (.tmp 4) rfl w.heap.size rfl 35 _ (0, 0) _ hB Tryd.underlying35 rfl infoIm ?_)
  refine hby.mono ?_
  clear hby hw0
  rintro e w3 ⟨Ax, cx, rfl, rx, lx, mx, b3⟩
  have g10 : (o : Int) + (k : Int) ≤ (cx : Int) := by omega
  have hsg := rx.seg lx g7
  have hln : ((ad.drop o).take k).length = k := by rw [List.length_take, List.length_drop]; omega
  have HLN := Lib.hid hln
  clear hln
  go_wp2_with fail
  (try simp only [Exit.inBlock, Exit.then])
  refine bodyPost_ret (results_tmp2 rfl _ _ _) rfl ?_
  refine ⟨cutA Ax o cx 1, cx - o, ?_, hsg, by rw [HLN.out]; omega, by omega, bb.thenB' b3⟩
  rw [HLN.out, show k = o + k - o from by omega]
  simp only [Nat.add_sub_cancel_left]
  rfl

/-! ### a byte, few -/
def atO (b : List UInt8) (k : Nat) : UInt8 := b.getD k 0
theorem at_any (D : Nat → Prop) (A : Option Addr) (c : Nat) (b : List UInt8) (k : Nat) (w : World) (h : RdB w D A b) (hl : b.length ≤ 1000) (hk : k ≤ 1000) :
    Calls Tryd.prog 67 #[.slice A b.length c, .int .i64 (k : Int)] w fun e w' => e = .returned (cB (atO b k)) ∧ Below w.heap.size w w' := by
  by_cases hlt : k < b.length
  · obtain ⟨ad, rfl, -, c1⟩ := h.at_ hlt
    have e : atO b k = b[k] := by unfold atO; rw [List.getD_eq_getElem?_getD, List.getElem?_eq_getElem hlt]; rfl
    rw [e]
    have g1 : ¬ (b.length : Int) ≤ (k : Int) := by omega
    have g2 : (k : Int) < (b.length : Int) := by omega
    unfold cB
    generalize b[k] = x at *
    clear e
    go_enter Tryd.func67, Tryd.ntmps67
    go_wp2_with fail
    go_ret
    exact ⟨rfl, Below.refl _ _⟩
  · have e : atO b k = 0 := by unfold atO; rw [List.getD_eq_getElem?_getD, List.getElem?_eq_none (by omega)]; rfl
    rw [e]
    have g1 : (b.length : Int) ≤ (k : Int) := by omega
    go_enter Tryd.func67, Tryd.ntmps67
    go_wp2_with fail
    go_ret
    exact ⟨rfl, Below.refl _ _⟩
end Go.Proofs.YthkeoimjjgmppaaDoor

/- The document's clean row of two rows: the walk. -/
namespace Go.Proofs.YthkeoimjjgmppaaDoor
open Go.RowKit
set_option linter.unusedVariables false

/-- Nothing below block B has turned. -/
def RW (B : Nat) (a b : World) : Prop := Below B a b
theorem RW_refl (B : Nat) (w : World) : RW B w w := Below.refl _ w
theorem RW_trans (B : Nat) (a b c : World) (h : RW B a b) (k : RW B b c) : RW B a c := h.trans k
theorem RW_new (B : Nat) (w : World) (o : Obj) (h : B ≤ w.heap.size) : RW B w (w.alloc o) := (Below.refl _ _).alloc h o
theorem RW_cell {B : Nat} {w w' : World} (h : RW B w w') {a : Addr} {v : Value} (hc : w.cell? a = some v) (hB : a.block < B) : w'.cell? a = some v := by
  rw [World.cell?_of_block (w := w) (h.block _ hB)]
  exact hc
/-- A row of numbers as a value. -/
def Row1 (w : World) (v : Value) (l : List Int) : Prop := ∃ A n c, v = .slice A n c ∧ Hid (n = l.length) ∧ RdI w Any1 A l ∧ n ≤ c ∧ c ≤ 9223372036854775807
theorem Row1.below {w w' : World} {v : Value} {l : List Int} (h : Row1 w v l) (hb : Below w.heap.size w w') : Row1 w' v l := by
  obtain ⟨A, n, c, h1, h2, h3, h4, h5⟩ := h
  exact ⟨A, n, c, h1, h2, RdI.below h3 hb, h4, h5⟩
theorem Row1.nil (w : World) : Row1 w (.slice none 0 0) [] := ⟨none, 0, 0, rfl, Lib.hid rfl, ⟨rfl, fun h => absurd h (by decide)⟩, Nat.le_refl _, by decide⟩
def docB2 (k : Int) (x y : Bool) : Bool := if k = 2 then x && y else x || y
def docB (k : Int) (x y : Bool) : Bool := if k = 3 then x && !y else if k = 2 then x && y else x || y
theorem docB_off (k : Int) : docB k false false = false := by
  unfold docB
  split
  · rfl
  · split <;> rfl
theorem put2_len (l : List Int) (x y : Int) : (putP l x).length ≤ l.length + 1 ∧ (putP (putP l x) y).length ≤ l.length + 2 := by
  have h1 := put_len l x
  have h2 := put_len (putP l x) y
  omega
/-- What stands at the head of each round of the third loop. -/
def OfAt (k : Int) (a b : List Sp) (j : Nat) (L : List Sp) : Prop :=
  L.length ≤ j ∧ (∀ h : j < (docE a b).length, Upto (docW (docB k) a b) L (docE a b)[j]) ∧ ((docE a b).length = 0 → j = 0 ∧ L = []) ∧ ((docE a b).length ≠ 0 → j < (docE a b).length)
theorem of_zero (k : Int) (a b : List Sp) : OfAt k a b 0 [] := ⟨Nat.le_refl _, fun h => doc_start (docB_off k) h, fun _ => ⟨rfl, rfl⟩, fun h => by omega⟩
theorem of_stop {k : Int} {a b : List Sp} {j : Nat} {L : List Sp} (h : OfAt k a b j L) (hj : ¬ j + 1 < (docE a b).length) : IsR (docW (docB k) a b) L := by
  obtain ⟨_, h1, h2, h3⟩ := h
  by_cases h0 : (docE a b).length = 0
  · obtain ⟨rfl, rfl⟩ := h2 h0
    have := doc_none (docB_off k) h0
    exact ⟨this.1, this.2⟩
  · have hlt := h3 h0
    have := doc_end (docB_off k) (by omega) (h1 hlt)
    exact ⟨this.1, this.2⟩
theorem of_no {k : Int} {a b : List Sp} {j : Nat} {L : List Sp} (h : OfAt k a b j L) (hj : j + 1 < (docE a b).length) (hw : docB k (hasS a (docE a b)[j]) (hasS b (docE a b)[j]) = false) : OfAt k a b (j + 1) L :=
  ⟨by have := h.1; omega, fun _ => doc_skip hj hw (h.2.1 (by omega)), fun h0 => by omega, fun _ => hj⟩
theorem of_yes {k : Int} {a b : List Sp} {j : Nat} {L : List Sp} (h : OfAt k a b j L) (hj : j + 1 < (docE a b).length) (hw : docB k (hasS a (docE a b)[j]) (hasS b (docE a b)[j]) = true) : OfAt k a b (j + 1) (addS L ((docE a b)[j], (docE a b)[j + 1])) :=
  ⟨by have := h.1; have := addS_len L ((docE a b)[j], (docE a b)[j + 1]); omega, fun _ => doc_put hj hw (h.2.1 (by omega)), fun h0 => by omega, fun _ => hj⟩

/-- Does the last span end there? -/
def lastIs (L : List Sp) (p : Int) : Bool := match L.getLast? with
  | some x => x.2 == p
  | none => false
theorem lastIs_nil (p : Int) : lastIs [] p = false := rfl
theorem lastIs_get {L : List Sp} {m : Nat} (h : L.length = m + 1) (p : Int) : lastIs L p = ((L[m]'(by omega)).2 == p) := by
  rcases split_last L with rfl | ⟨l, x, rfl⟩
  · exact absurd h (by simp)
  · rw [List.length_append, List.length_singleton] at h
    obtain rfl : m = l.length := by omega
    unfold lastIs
    rw [List.getLast?_concat]
    simp
theorem lastIs_yes {L : List Sp} {p : Int} (h : lastIs L p = true) (q : Int) : ∃ m, ∃ hm : L.length = m + 1, (L[m]'(by omega)).2 = p ∧ addS L (p, q) = L.set m ((L[m]'(by omega)).1, q) := by
  rcases Nat.eq_zero_or_pos L.length with hl | hl
  · rw [List.eq_nil_of_length_eq_zero hl] at h; cases h
  · obtain ⟨m, hm⟩ : ∃ m, L.length = m + 1 := ⟨L.length - 1, by omega⟩
    rw [lastIs_get hm] at h
    have e : (L[m]'(by omega)).2 = p := by simpa using h
    exact ⟨m, hm, e, addS_set L p q m hm.symm e⟩
theorem lastIs_no {L : List Sp} {p : Int} (h : lastIs L p = false) (q : Int) : addS L (p, q) = L ++ [(p, q)] :=
  addS_new L p q fun k hk e => by
    rw [lastIs_get hk.symm] at h
    simp [e] at h
end Go.Proofs.YthkeoimjjgmppaaDoor

/- The document's Clean and Many; the code's ends of a row. -/
namespace Go.Proofs.YthkeoimjjgmppaaDoor
open Go.RowKit
set_option linter.unusedVariables false

theorem RdSp.none (w : World) : RdSp w (fun _ => False) none [] := fun hn => absurd hn (by simp)

theorem sum_take' (L : List Sp) (j : Nat) (h : j < L.length) : sumS (L.take (j + 1)) = sumS (L.take j) + (L[j].2 - L[j].1) := by
  rw [List.take_succ_eq_append_getElem h]
  unfold sumS
  rw [List.foldl_append]
  rfl
theorem sum_bd : ∀ {L : List Sp}, CleanR L → ∀ j, 0 ≤ sumS (L.take j) ∧ sumS (L.take j) ≤ 1099511627776 := by
  intro L h j
  have h1 : CleanR (L.take j) := by
    rw [← List.take_append_drop j L] at h
    generalize L.take j = a at *
    generalize L.drop j = b at *
    induction a with
    | nil => trivial
    | cons s a ih => exact ⟨h.1, fun t ht => h.2.1 t (List.mem_append_left _ ht), ih h.2.2⟩
  rw [sum_is h1]
  have key : ∀ (f : Int → Bool) (N : Nat), 0 ≤ cntN f N ∧ cntN f N ≤ N := fun f N => by
    induction N with
    | zero => exact ⟨Int.le_refl _, Int.le_refl _⟩
    | succ N ih => unfold cntN; split <;> omega
  have := key (hasS (L.take j)) farS.toNat
  have e : ((farS.toNat : Nat) : Int) = 1099511627776 := by unfold farS; rfl
  omega

end Go.Proofs.YthkeoimjjgmppaaDoor

/- The code's ends of a row. -/
namespace Go.Proofs.YthkeoimjjgmppaaDoor
open Go.RowKit
set_option linter.unusedVariables false

theorem ends_take (l : List Sp) (a b : Int) (j : Nat) (h : j < l.length) : endsP (l.take (j + 1)) a b = endsP (l.take j) a b ++ (if max l[j].1 0 < min l[j].2 farS then [(max l[j].1 0, a, b), (min l[j].2 farS, -a, -b)] else []) := by
  unfold endsP
  rw [List.take_succ_eq_append_getElem h, List.flatMap_append]
  simp
theorem ends_yes (l : List Sp) (a b x y : Int) (j : Nat) (h : j < l.length) (hx : x = max l[j].1 0) (hy : y = min l[j].2 1099511627776) (hlt : x < y) : endsP (l.take (j + 1)) a b = endsP (l.take j) a b ++ [(x, a, b), (y, -a, -b)] := by
  rw [ends_take l a b j h]
  have hx' : max l[j].1 0 = x := hx.symm
  have hy' : min l[j].2 farS = y := hy.symm
  rw [hx', hy', if_pos hlt]
theorem ends_no (l : List Sp) (a b x y : Int) (j : Nat) (h : j < l.length) (hx : x = max l[j].1 0) (hy : y = min l[j].2 1099511627776) (hlt : ¬ x < y) : endsP (l.take (j + 1)) a b = endsP (l.take j) a b := by
  rw [ends_take l a b j h]
  have hx' : max l[j].1 0 = x := hx.symm
  have hy' : min l[j].2 farS = y := hy.symm
  rw [hx', hy', if_neg hlt, List.append_nil]
theorem rd_newEn2 (w : World) (x y : En) : Rd (w.alloc (.cells (enC x ++ enC y).toArray 124)) (· = w.heap.size) 3 (some ⟨w.heap.size, 0, none⟩) 2 (flC enC [x, y]) := by
  have e : flC enC [x, y] = enC x ++ enC y := by unfold flC; simp
  rw [e]
  refine ⟨rfl, fun _ => ⟨_, rfl, rfl, fun j u hu => ?_⟩⟩
  rw [add_head, (Blk.new w 124 (enC x ++ enC y).toArray).cell]
  simpa using hu

set_option maxHeartbeats 1000000 in
set_option maxRecDepth 100000 in
theorem ends_any (D : Nat → Prop) (A : Option Addr) (c : Nat) (l : List Sp) (a b : Int) (w : World) (h : RdSp w D A l) (hl : l.length ≤ 1000) (ha : 0 ≤ a ∧ a ≤ 1) (hb : 0 ≤ b ∧ b ≤ 1) :
    Calls Tryd.prog 84 #[.slice A l.length c, .int .i64 a, .int .i64 b] w fun e w' => ∃ v, e = .returned v ∧ OwnEn w' w.heap.size v (endsP l a b) ∧ Below w.heap.size w w' := by
  obtain ⟨ha0, ha1⟩ := ha
  obtain ⟨hb0, hb1⟩ := hb
  go_enter Tryd.func84, Tryd.ntmps84
  go_wp2_with fail
  go_loopw [7, 9, 10, 11, 14] (fun v s9 s10 s11 i wr => ∃ j : Nat, j ≤ l.length ∧ i = .int .i64 (j : Int) ∧ OwnEn wr w.heap.size v (endsP (l.take j) a b) ∧ Below w.heap.size w wr) (fun _ _ _ _ i _ => l.length - (intOf i).toNat)
  case atStart => exact ⟨0, Nat.zero_le _, rfl, OwnC.nil, Below.refl _ _⟩
  case round =>
    obtain ⟨j, hj, rfl, hO, bb⟩ := hrel
    by_cases hlt : j < l.length
    · obtain ⟨ad, rfl, d0, d1⟩ := (h.below bb).at_ hlt
      have HY := Lib.hid (ends_yes l a b _ _ j hlt rfl rfl)
      have HN := Lib.hid (ends_no l a b _ _ j hlt rfl rfl)
      have HL : Hid ((endsP (l.take j) a b).length ≤ 2000) := by
        have := ends_len a b (l.take j)
        rw [List.length_take] at this
        unfold Hid; omega
      generalize endsP (l.take j) a b = E at *
      generalize l[j].1 = x at *
      generalize l[j].2 = y at *
      go_wp2_with fail
      go_quiet (fail)
      have bd : Below wr.heap.size wr ((wr.alloc (.cells #[.int .i64 x, .int .i64 y] 84)).drewN nq) := below_drewN ((Below.refl _ _).alloc (Nat.le_refl _) _) _
      have hO := OwnC.below hO bd
      have bb := bb.thenB' bd
      generalize hX : max x 0 = X at *
      generalize hY : min y 1099511627776 = Y at *
      clear hX hY
      by_cases hXY : X < Y
      · have HE := Lib.hid (HY.out (by omega))
        clear HY HN d0 d1
        have n1 := rd_newEn2 ((wr.alloc (.cells #[.int .i64 x, .int .i64 y] 84)).drewN nq) (X, a, b) (Y, -a, -b)
        generalize (wr.alloc (.cells #[.int .i64 x, .int .i64 y] 84)).drewN nq = wd at *
        have bn := below_new wd (.cells #[.int .i64 X, .int .i64 a, .int .i64 b, .int .i64 Y, .int .i64 (-a), .int .i64 (-b)] 124)
        have hO1 := OwnC.below hO bn
        have bb1 := bb.thenB' bn
        clear bn
        go_wp2_with first
          | (at_builtin
             go_loud (refine wpList_appEn rfl (.tmp 27) (.tmp 38) rfl w.heap.size u7 E [(X, a, b), (Y, -a, -b)] rfl hO1 _ (some ⟨wd.heap.size, 0, none⟩) 2 2 rfl rfl n1 (by have := HL.out; simp only [List.length_cons, List.length_nil]; omega) bb1.size ?_; intro v4 w4 o4 x4; have b4 := bb1.trans (x4.below hO1 (Nat.le_refl _) bb1.size)))
        go_roundw
        case rel => exact ⟨j + 1, by omega, by go_num, by rw [HE.out]; exact o4, b4⟩
        case measure => simp [intOf] <;> omega
      · have HE := Lib.hid (HN.out (by omega))
        clear HY HN d0 d1
        generalize (wr.alloc (.cells #[.int .i64 x, .int .i64 y] 84)).drewN nq = wd at *
        go_wp2_with fail
        go_roundw
        case rel => exact ⟨j + 1, by omega, by go_num, by rw [HE.out]; exact hO, bb⟩
        case measure => simp [intOf] <;> omega
    · obtain rfl : j = l.length := by omega
      have HT : Hid (endsP (l.take l.length) a b = endsP l a b) := by unfold Hid; rw [List.take_of_length_le (Nat.le_refl _)]
      go_wp2_with fail
      go_ret
      exact ⟨_, rfl, by rw [← HT.out]; exact hO, bb⟩
end Go.Proofs.YthkeoimjjgmppaaDoor

/- The sort of ends: a row of one's own behind slices.SortFunc. -/
namespace Go.Proofs.YthkeoimjjgmppaaDoor
open Go.RowKit
set_option linter.unusedVariables false

section
variable {α : Type} [Inhabited α] {C : α → List Value} {k : Nat} {T : TypeId} {w : World} {base : Nat} {L : List α}
theorem flC_get (hk : ∀ x, (C x).length = k) (L : List α) (t : Nat) (h : t < L.length * k) : (flC C L)[t]? = some ((C (L.toArray[t / k]!))[t % k]!) := by
  have k0 : 0 < k := by rcases Nat.eq_zero_or_pos k with e | e; · subst e; simp at h
                        · exact e
  have h1 : t / k < L.length := by rwa [Nat.div_lt_iff_lt_mul k0]
  have h2 : t % k < (C L[t / k]).length := by rw [hk]; exact Nat.mod_lt _ k0
  have e := flC_at hk L (t / k) L[t / k] (List.getElem?_eq_getElem h1) (t % k) _ (List.getElem?_eq_getElem h2)
  rw [Nat.mul_comm, Nat.div_add_mod] at e
  rw [e]
  have e1 : L.toArray[t / k]! = L[t / k] := by rw [getElem!_pos L.toArray _ (by simpa using h1)]; simp
  rw [e1, getElem!_pos (C L[t / k]) _ h2]
theorem OwnC.holds (hk : ∀ x, (C x).length = k) {g o : Nat} {x : Option Nat} {n c : Nat} (h : OwnC T k C w base (.slice (some ⟨g, o, none⟩) n c) L) : o = 0 ∧ base ≤ g ∧ g < w.heap.size ∧ Go.Sort.HoldsK C k w g 0 L.toArray := by
  have hl := flC_len hk L
  rcases h.2 with ⟨h0, _⟩ | ⟨g', cap, cur, hv, hg, hh, hnc, hcm, hcs, htake⟩
  · cases h0
  · have hB : Blk w g' T cur := hh
    injection hv with hA hn hc
    injection hA with hA
    injection hA with h1 h2
    subst h1 h2
    refine ⟨rfl, hg, hB.lt, fun j hj => ?_⟩
    rw [Go.Sort.size_flatK] at hj
    have hj' : j < L.length * k := by simpa using hj
    have e := flC_get hk L j hj'
    rw [← htake, List.getElem?_take, if_pos hj'] at e
    rw [Nat.zero_add, Go.Sort.get_flatK _ _ _ _ hj]
    exact ⟨by rw [hB.cell]; simpa using e, hB.frozen _⟩
theorem OwnC.sorted (hk : ∀ x, (C x).length = k) {g n c : Nat} (h : OwnC T k C w base (.slice (some ⟨g, 0, none⟩) n c) L) (d' : Array α) (hd : d'.size = L.length) (m : Nat) (os : Array Obj) :
    OwnC T k C (sortWorldK C k w g 0 m d' os) base (.slice (some ⟨g, 0, none⟩) n c) d'.toList ∧ Below base w (sortWorldK C k w g 0 m d' os) := by
  have hl := flC_len hk d'.toList
  rcases h.2 with ⟨h0, _⟩ | ⟨g', cap, cur, hv, hg, hh, hnc, hcm, hcs, htake⟩
  · cases h0
  · have hB : Blk w g' T cur := hh
    injection hv with hA hn hc
    injection hA with hA
    injection hA with h1 h2
    subst h1
    have hsz : g < w.heap.size := hB.lt
    have hw : ∀ i, i < w.heap.size → (sortWorldK C k w g 0 m d' os).heap[i]? = (w.heap.modify g (Go.Sort.onCells (Go.Sort.putCells id 0 (Go.Sort.flatK C k d'))))[i]? := fun i hi => by
      show ((w.heap.modify g _) ++ os)[i]? = _
      rw [Array.getElem?_append, if_pos (by simpa using hi)]
    have hgg : (sortWorldK C k w g 0 m d' os).heap[g]? = some (.cells (Go.Sort.putCells id 0 (Go.Sort.flatK C k d') cur) T (0, 0)) := by
      rw [hw g hsz, Array.getElem?_modify, if_pos rfl, show w.heap[g]? = some (.cells cur T (0, 0)) from hh]
      rfl
    have hdl : d'.toList.length = L.length := by simpa using hd
    refine ⟨⟨hl, .inr ⟨g, c, _, by rw [hn, hdl], hg, hgg, by rw [hdl, hc]; exact hnc, by rw [hc]; exact hcm, ?_, ?_⟩⟩, rfl, rfl, rfl, ?_, fun i hi => ?_⟩
    · unfold Go.Sort.putCells
      rw [Array.size_mapIdx, hc]; exact hcs
    · apply List.ext_getElem?
      intro t
      rw [List.getElem?_take]
      by_cases ht : t < d'.toList.length * k
      · rw [if_pos ht, flC_get hk _ t ht]
        have htc : t < cur.size := by
          have := Nat.mul_le_mul_right k hnc
          rw [hdl] at ht; omega
        have hF : t < (Go.Sort.flatK C k d').size := by rw [Go.Sort.size_flatK]; simpa using ht
        unfold Go.Sort.putCells
        rw [← Array.getElem?_toList.symm, Array.getElem?_mapIdx, Array.getElem?_eq_getElem htc, Option.map_some, if_pos ⟨Nat.zero_le _, by omega⟩]
        rw [Nat.sub_zero, Go.Sort.get_flatK _ _ _ _ (by rw [Go.Sort.size_flatK] at hF; exact hF)]
        rfl
      · rw [if_neg ht]
        exact (List.getElem?_eq_none (by rw [hl]; omega)).symm
    · show _ ≤ ((w.heap.modify g _) ++ os).size
      simp
    · rw [hw i (by omega), Array.getElem?_modify, if_neg (by omega)]
end
end Go.Proofs.YthkeoimjjgmppaaDoor

/-
  DERIVED: THE SHELF's CONTRACTS AT THIS DUMP, IN PLAIN WORDS (tools/lay-plain.mjs out of 'YthkeoimjjgmppaaDoorSort0.lean', which tools/lay-shelf.mjs wrote): THE SAME DECLARATIONS UNDER THE SAME NAMES: 'import', 'namespace', 'open', 'def', 'theorem' AND NOTHING ELSE: no command of the shelf's: FOR A HAND-IN. Each laying: the table of numbers ('.._ren') and one theorem, a field a fact of the dump's own or the kernel's comparison; each contract: ONE APPLICATION.
-/
namespace Go.Proofs
open Go.Shelf
def Tryd.sortEn_ren : Go.Shelf.Ren := ⟨fun | 6 => 85 | 15 => 88 | 14 => 87 | 28 => 97 | 29 => 98 | 20 => 89 | 21 => 90 | 22 => 91 | 23 => 92 | 24 => 93 | 25 => 94 | 26 => 95 | 27 => 96 | 46 => 99 | 47 => 100 | 48 => 101 | 49 => 102 | 50 => 103 | 57 => 104 | n => n, fun | 22 => 120 | 24 => 124 | 25 => 125 | 3 => 3 | 39 => 56 | 0 => 0 | 53 => 137 | 55 => 139 | 4 => 4 | 46 => 130 | 45 => 129 | 50 => 134 | 5 => 5 | 9 => 9 | 66 => 140 | 70 => 144 | 76 => 146 | 77 => 85 | n => n, fun | n => n⟩
theorem Tryd.sortEn : Go.Proofs.SlLaysF0.n6 Tryd.prog Tryd.sortEn_ren := {
  mixed := by kernel_rfl
  f6 := ⟨Tryd.f85.name, by decide, Tryd.func85.trans (congrArg some (by kernel_rfl))⟩
  f14 := ⟨Tryd.f87.name, by decide, Tryd.func87.trans (congrArg some (by kernel_rfl))⟩
  f15 := Tryd.func88.trans (congrArg some (by kernel_rfl))
  f20 := ⟨Tryd.f89.name, by decide, Tryd.func89.trans (congrArg some (by kernel_rfl))⟩
  f21 := ⟨Tryd.f90.name, by decide, Tryd.func90.trans (congrArg some (by kernel_rfl))⟩
  f22 := ⟨Tryd.f91.name, by decide, Tryd.func91.trans (congrArg some (by kernel_rfl))⟩
  f23 := ⟨Tryd.f92.name, by decide, Tryd.func92.trans (congrArg some (by kernel_rfl))⟩
  f24 := ⟨Tryd.f93.name, by decide, Tryd.func93.trans (congrArg some (by kernel_rfl))⟩
  f25 := ⟨Tryd.f94.name, by decide, Tryd.func94.trans (congrArg some (by kernel_rfl))⟩
  f26 := ⟨Tryd.f95.name, by decide, Tryd.func95.trans (congrArg some (by kernel_rfl))⟩
  f27 := ⟨Tryd.f96.name, by decide, Tryd.func96.trans (congrArg some (by kernel_rfl))⟩
  f28 := Tryd.func97.trans (congrArg some (by kernel_rfl))
  f29 := Tryd.func98.trans (congrArg some (by kernel_rfl))
  f46 := ⟨Tryd.f99.name, by decide, Tryd.func99.trans (congrArg some (by kernel_rfl))⟩
  f47 := Tryd.func100.trans (congrArg some (by kernel_rfl))
  f48 := Tryd.func101.trans (congrArg some (by kernel_rfl))
  f49 := ⟨Tryd.f102.name, by decide, Tryd.func102.trans (congrArg some (by kernel_rfl))⟩
  f50 := ⟨Tryd.f103.name, by decide, Tryd.func103.trans (congrArg some (by kernel_rfl))⟩
  f57 := ⟨Tryd.f104.name, by decide, Tryd.func104.trans (congrArg some (by kernel_rfl))⟩
  t0 := Tryd.underlying0
  a0 := Tryd.isAgg0
  z0 := Tryd.sizeOf0
  v0 := Tryd.zeroValue0
  t3 := Tryd.underlying3
  a3 := Tryd.isAgg3
  z3 := Tryd.sizeOf3
  v3 := Tryd.zeroValue3
  t4 := Tryd.underlying4
  a4 := Tryd.isAgg4
  z4 := Tryd.sizeOf4
  v4 := Tryd.zeroValue4
  t5 := Tryd.underlying5
  a5 := Tryd.isAgg5
  z5 := Tryd.sizeOf5
  v5 := Tryd.zeroValue5
  t9 := Tryd.underlying9
  a9 := Tryd.isAgg9
  z9 := Tryd.sizeOf9
  v9 := Tryd.zeroValue9
  t22 := Tryd.underlying120
  a22 := Tryd.isAgg120
  z22 := Tryd.sizeOf120
  v22 := Tryd.zeroValue120
  t25 := Tryd.underlying125
  a25 := Tryd.isAgg125
  z25 := Tryd.sizeOf125
  v25 := Tryd.zeroValue125
  t39 := Tryd.underlying56
  a39 := Tryd.isAgg56
  z39 := Tryd.sizeOf56
  v39 := Tryd.zeroValue56
  t45 := Tryd.underlying129
  a45 := Tryd.isAgg129
  z45 := Tryd.sizeOf129
  v45 := Tryd.zeroValue129
  t46 := Tryd.underlying130
  a46 := Tryd.isAgg130
  z46 := Tryd.sizeOf130
  v46 := Tryd.zeroValue130
  t50 := Tryd.underlying134
  a50 := Tryd.isAgg134
  z50 := Tryd.sizeOf134
  v50 := Tryd.zeroValue134
  t53 := Tryd.underlying137
  a53 := Tryd.isAgg137
  z53 := Tryd.sizeOf137
  v53 := Tryd.zeroValue137
  t55 := Tryd.underlying139
  a55 := Tryd.isAgg139
  z55 := Tryd.sizeOf139
  v55 := Tryd.zeroValue139
  t66 := Tryd.underlying140
  a66 := Tryd.isAgg140
  z66 := Tryd.sizeOf140
  v66 := Tryd.zeroValue140
  t70 := Tryd.underlying144
  a70 := Tryd.isAgg144
  z70 := Tryd.sizeOf144
  v70 := Tryd.zeroValue144
  t76 := Tryd.underlying146
  a76 := Tryd.isAgg146
  z76 := Tryd.sizeOf146
  v76 := Tryd.zeroValue146
  t77 := Tryd.underlying85
  a77 := Tryd.isAgg85
  z77 := Tryd.sizeOf85
  v77 := Tryd.zeroValue85 }
end Go.Proofs

/- The closures of span, and slices.SortFunc at rows of ends. -/
namespace Go.Proofs.YthkeoimjjgmppaaDoor
open Go.RowKit
set_option linter.unusedVariables false

def wC (x _ : Int) : Bool := decide (0 < x)
def wJ (x y : Int) : Bool := decide (0 < x) || decide (0 < y)
def wM (x y : Int) : Bool := decide (0 < x) && decide (0 < y)
def wL (x y : Int) : Bool := decide (0 < x) && (y == 0)
theorem clC_any (x y : Int) (w : World) : Calls Tryd.prog 81 #[.int .i64 x, .int .i64 y] w fun e w' => e = .returned (.bool (wC x y)) ∧ w = w' := by
  go_enter Tryd.func81, Tryd.ntmps81
  go_wp2_with fail
  go_ret
  exact ⟨rfl, rfl⟩
theorem clL_any (x y : Int) (w : World) : Calls Tryd.prog 83 #[.int .i64 x, .int .i64 y] w fun e w' => e = .returned (.bool (wL x y)) ∧ w = w' := by
  by_cases h : 0 < x
  · go_enter Tryd.func83, Tryd.ntmps83
    go_wp2_with fail
    go_ret
    exact ⟨by unfold wL; rw [decide_eq_true h]; rfl, rfl⟩
  · go_enter Tryd.func83, Tryd.ntmps83
    go_wp2_with fail
    go_ret
    exact ⟨by unfold wL; rw [decide_eq_false (show ¬ 0 < x by omega)]; rfl, rfl⟩

/-- An end whose place lies where bytes are. -/
abbrev EnB := { e : En // 0 ≤ e.1 ∧ e.1 ≤ 1099511627776 }
instance enInh : Inhabited EnB := ⟨⟨(0, 0, 0), by decide, by decide⟩⟩
def enB (x : EnB) : List Value := enC x.1
theorem enB_len (x : EnB) : (enB x).length = 3 := rfl
theorem cmp_any (x y : EnB) (W : World) : Calls Tryd.prog 86 #[.agg (enB x).toArray, .agg (enB y).toArray] W fun e w' => e = .returned (.int .i64 (x.1.1 - y.1.1)) ∧ ∃ q os', w' = Go.Sort.grow (W.drewN q) os' := by
  obtain ⟨⟨a, b, c⟩, ha, ha'⟩ := x
  obtain ⟨⟨a2, b2, c2⟩, hb, hb'⟩ := y
  simp only at ha ha' hb hb'
  show Calls Tryd.prog 86 #[.agg #[.int .i64 a, .int .i64 b, .int .i64 c], .agg #[.int .i64 a2, .int .i64 b2, .int .i64 c2]] W fun e w' => e = .returned (.int .i64 (a - a2)) ∧ ∃ q os', w' = Go.Sort.grow (W.drewN q) os'
  go_enter Tryd.func86, Tryd.ntmps86
  go_wp2_with fail
  go_ret
  exact ⟨rfl, 0, _, by rw [Go.Sort.alloc_eq_grow, Go.Sort.alloc_eq_grow, Go.Sort.grow_grow]; rfl⟩
theorem swo_en : Go.Sort.SWO (ltOf fun x y : EnB => x.1.1 - y.1.1) where
  irrefl x := by unfold ltOf; simp
  trans x y z h1 h2 := by unfold ltOf at *; simp at *; omega
  ntrans x y z h1 h2 := by unfold ltOf at *; simp at *; omega
theorem to_enB (E : List En) (hE : ∀ e ∈ E, 0 ≤ e.1 ∧ e.1 ≤ 1099511627776) : ∃ B : List EnB, E = B.map fun x => x.1 := by
  induction E with
  | nil => exact ⟨[], rfl⟩
  | cons e E ih =>
    obtain ⟨B, hB⟩ := ih fun x hx => hE x (List.mem_cons_of_mem _ hx)
    exact ⟨⟨e, hE e (List.mem_cons_self ..)⟩ :: B, by rw [List.map_cons, ← hB]⟩
theorem OwnEn.iff {w : World} {base : Nat} {v : Value} (B : List EnB) : OwnEn w base v (B.map fun x => x.1) ↔ OwnC 124 3 enB w base v B := by
  unfold OwnEn OwnC flC
  rw [List.length_map, List.flatMap_map]
  rfl
theorem isAgg_en (w : World) : (isAgg 124).run Tryd.prog w = .ok true w := by kernel_rfl
theorem size_en (w : World) : (Go.sizeOf 124).run Tryd.prog w = .ok 3 w := by kernel_rfl
set_option maxRecDepth 100000 in
theorem ins_nil (f : Value) (w : World) : Calls Tryd.prog 89 #[.slice none 0 0, .int .i64 0, .int .i64 0, f] w fun e w' => e = .returned (.tuple #[]) ∧ w = w' := by
  go_enter Tryd.func89, Tryd.ntmps89
  go_wp2_with fail
  refine wp_loop_rounds 1 ?_
  rw [rounds_succ]
  go_wp2_with fail
  go_end0
  exact ⟨rfl, rfl⟩
set_option maxRecDepth 100000 in
theorem pdq_nil (l : Int) (f : Value) (w : World) : Calls Tryd.prog 87 #[.slice none 0 0, .int .i64 0, .int .i64 0, .int .i64 l, f] w fun e w' => e = .returned (.tuple #[]) ∧ w = w' := by
  have hi := ins_nil f w
  go_enter Tryd.func87, Tryd.ntmps87
  go_wp2_with fail
  refine wp_loop_rounds 1 ?_
  rw [rounds_succ]
  go_wp2_with fail
  refine hi.mono ?_
  rintro e w1 ⟨rfl, rfl⟩
  go_wp2_with fail
  exact bodyPost_ret (v := .tuple #[]) (by simp [results, Tryd.results87, go_sem]) rfl ⟨rfl, rfl⟩
set_option maxRecDepth 100000 in
theorem sort_nil (w : World) : Calls Tryd.prog 85 #[.slice none 0 0, .func (.func 86) #[] #[]] w fun e w' => e = .returned (.tuple #[]) ∧ w = w' := by
  have hb := Any.bits_Len (SlLaysF0.n15.bits (P := Tryd.prog) (ρ := Tryd.sortEn_ren) { Tryd.sortEn with }) 0 w (by omega) (by omega)
  change Calls Tryd.prog 88 _ _ _ at hb
  have hp := fun l => pdq_nil l (.func (.func 86) #[] #[]) w
  go_enter Tryd.func85, Tryd.ntmps85
  go_wp2_with fail
  refine hb.mono ?_
  rintro e w1 ⟨rfl, rfl⟩
  go_wp2_with fail
  refine (hp _).mono ?_
  rintro e w1 ⟨rfl, rfl⟩
  go_wp2_with fail
  go_end0
  exact ⟨rfl, rfl⟩
theorem sort_any (E : List En) (hE : ∀ e ∈ E, 0 ≤ e.1 ∧ e.1 ≤ 1099511627776) (hl : E.length ≤ 1000000) (v : Value) (w : World) (base : Nat) (h : OwnEn w base v E) :
    Calls Tryd.prog 85 #[v, .func (.func 86) #[] #[]] w fun e w' => e = .returned (.tuple #[]) ∧ ∃ E' : List En, E'.Perm E ∧ E'.Pairwise (fun x y => x.1 ≤ y.1) ∧ OwnEn w' base v E' ∧ Below base w w' := by
  obtain ⟨B, rfl⟩ := to_enB E hE
  rw [List.length_map] at hl
  obtain ⟨A, c, rfl, h1, h2⟩ := OwnC.form h
  rcases A with _ | ad
  · have h0 : (B.map fun x => x.1).length = 0 ∧ c = 0 := by
      rcases h.2 with ⟨hv, h0⟩ | ⟨g', cap, cur, hv, _⟩
      · injection hv with _ _ hc
        exact ⟨h0, hc⟩
      · injection hv with hA; cases hA
    have hn := List.eq_nil_of_length_eq_zero h0.1
    rw [h0.1, h0.2, hn]
    refine (sort_nil w).mono ?_
    rintro e w' ⟨rfl, rfl⟩
    exact ⟨rfl, [], List.Perm.refl _, List.Pairwise.nil, OwnC.nil, Below.refl _ _⟩
  · have hB := (OwnEn.iff B).1 h
    rw [List.length_map] at *
    obtain ⟨g, o, x⟩ := ad
    have hx : x = none := by
      rcases hB.2 with ⟨hv, _⟩ | ⟨g', cap, cur, hv, _⟩
      · injection hv with hA; cases hA
      · injection hv with hA; injection hA with hA; injection hA
    subst hx
    obtain ⟨rfl, hg, hgs, hH⟩ := OwnC.holds (x := none) enB_len hB
    have eg : ∀ args w, (callFunc 86 args).run Tryd.prog w = .ok (.enter 86 args) w := enters_of Tryd.func86 (by kernel_rfl) rfl
    have hcon := AnyQ.slices_SortFunc Tryd.sortEn 3 isAgg_en size_en enB enB_len (fun x v hv => enC_one x.1 v hv) (fun x y : EnB => x.1.1 - y.1.1) swo_en 86 #[] g 0 c B.toArray w eg (fun _ _ _ _ x y => cmp_any x y _) hH hgs (by simp; omega)
    rw [show B.toArray.size = B.length from by simp] at hcon
    change Calls Tryd.prog 85 _ _ _ at hcon
    refine hcon.mono ?_
    clear hcon
    rintro e w' ⟨rfl, d', n, os, ⟨p1, _, p3⟩, p4, rfl⟩
    have hd : d'.size = B.length := by simpa using p1
    obtain ⟨q1, q2⟩ := OwnC.sorted enB_len hB d' hd n os
    refine ⟨rfl, d'.toList.map (fun x => x.1), ?_, ?_, ?_, q2⟩
    · refine List.Perm.map _ ?_
      have e1 : d'.extract 0 B.length = d' := by rw [← hd]; simp
      have e2 : B.toArray.extract 0 B.length = B.toArray := by simp
      rw [e1, e2] at p3
      simpa using p3
    · rw [List.pairwise_map, List.pairwise_iff_getElem]
      intro i j hi hj hij
      have h1 := p4 i j (Nat.zero_le _) hij (by rw [← hd]; simpa using hj)
      rw [getElem!_pos d' i (by simpa using hi), getElem!_pos d' j (by simpa using hj)] at h1
      unfold ltOf at h1
      simp only [Array.getElem_toList]
      simp at h1
      omega
    · have h3 := (OwnEn.iff d'.toList).2 q1
      exact h3
end Go.Proofs.YthkeoimjjgmppaaDoor
