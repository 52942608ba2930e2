/- The document's Do: refused, a write, a resize, back. -/
import Derived.Test.YtcdodchjgadcoaaAbL
import Derived.Deep.CutRange
import Derived.Deep.CutBlock
namespace Go.Proofs.Ytcdodchjgadcoaa
open Go.RowKit
set_option linter.unusedVariables false
set_option maxRecDepth 100000

def NB (g : Nat) (b : Nat) : Prop := b ≠ g
theorem ImR.setD {w w' : World} {D : Nat → Prop} {i : ImV} (h : ImR w D i) (b : Below w.heap.size w w') {A : Option Addr} {d : List UInt8} {c : Nat} {D' : Nat → Prop} (r : RdB w' D' A d) (l : d.length ≤ c) (m : c ≤ 9223372036854775807) : ImR w' (fun _ => True) ⟨A, d, c, i.CA, i.S, i.cc, i.last⟩ :=
  ⟨Rd.imp r (fun _ _ _ => trivial) (by decide), l, m, (RdL.below h.rS b).imp cpC_pos fun _ _ _ => trivial, h.sl, h.sm, fun s hs => ((h.cp s hs).below b).imp fun _ _ _ => trivial⟩
theorem ImR.setS {w w' : World} {D : Nat → Prop} {i : ImV} (h : ImR w D i) (b : Below w.heap.size w w') {A : Option Addr} {L : List CpV} {c : Nat} {D' : Nat → Prop} (r : RdL w' D' 2 cpC A L) (l : L.length ≤ c) (m : c ≤ 9223372036854775807) (hL : ∀ s ∈ L, CpR w' (fun _ => True) s) (la : Int) : ImR w' (fun _ => True) ⟨i.DA, i.d, i.dc, A, L, c, la⟩ :=
  ⟨Rd.imp (h.rd.below b) (fun _ _ _ => trivial) (by decide), h.dl, h.dm, r.imp cpC_pos fun _ _ _ => trivial, l, m, hL⟩
theorem size_take (d : List UInt8) (n : Nat) (h : n ≤ 512) (hd : d.length ≤ 512) : (d ++ List.replicate 512 (0 : UInt8)).take n = sizeO d n := by
  unfold sizeO
  rw [List.take_append, List.take_replicate, Nat.min_eq_left (by omega)]
theorem OwnB.form' {w : World} {base : Nat} {v : Value} {bs : List UInt8} (h : OwnB w base v bs) : ∃ A n c, v = .slice A n c ∧ Hid (n = bs.length) ∧ n ≤ c ∧ c ≤ maxLen := by
  obtain ⟨A, c, e, h1, h2⟩ := OwnB.form h
  exact ⟨A, _, c, e, rfl, h1, h2⟩

set_option maxHeartbeats 8000000 in
set_option maxRecDepth 100000 in
theorem rDo_a (D De : Nat → Prop) (i : ImV) (e : E7) (A : Option Addr) (c : Nat) (w : World) (hr : ImR w D i) (hrd : RdB w De A e.data) (hdc : e.data.length ≤ c) (hcm : c ≤ 9223372036854775807) (hm : mayI i.p = false) :
    Calls Try.prog 22 #[.agg (imA i), enV e A c] w fun x w' => ∃ j : ImV, x = .returned (.tuple #[.agg (imA j), .int .i64 (doP i.p e).2.1, .int .i64 (doP i.p e).2.2]) ∧ j.p = (doP i.p e).1 ∧ ImR w' (fun _ => True) j ∧ Below w.heap.size w w' := by
  obtain ⟨hB, hE, hQ, bb, hs0⟩ := do_pre i e A c w
  have hr0 := hr.below bb
  have hck := rMay18_any D i _ hr0
  have hce := fun w => rMay_any e A c w
  have E := Lib.hid (doP_a (e := e) hm)
  rw [hm] at hck
  clear hm hr0 hce
  unfold enV at *
  unfold imA enA zI3 at *
  generalize hw0 : ((w.alloc (.cells #[.slice i.DA i.d.length i.dc, .slice i.CA i.S.length i.cc, .int .i64 i.last] 25)).alloc (.cells #[.int .i64 e.seq, .int .i64 e.owner, .int .i64 e.kind, .int .i64 e.off, .int .i64 e.len, .int .i64 e.snap, .slice A e.data.length c] 41)).alloc (.cells #[.slice none 0 0, .slice none 0 0, .int .i64 0] 25) = w0 at *
  go_enter Try.func22, Try.ntmps22
  go_wp2_with first
    | (with_reducible show wpList _ _ _ _ _ _
       refine wpList_load_row rfl 25 (.tmp 2) rfl w.heap.size rfl 25 _ (0, 0) _ hB Try.underlying25 rfl infoIm ?_)
  refine hck.mono ?_
  clear hck hw0
  rintro e w2 ⟨rfl, b2⟩
  replace hQ := hQ.below b2
  replace bb := bb.thenB' b2
  go_wp2_with first
    | (with_reducible show wpList _ _ _ _ _ _
       refine wpList_rowB rfl 25 (.tmp 4) (.tmp 16) rfl (w.heap.size + 2) 25 _ zI3 rfl rfl hQ infoIm rfl (imA_ok ⟨none, [], 0, none, [], 0, 0⟩) ?_
       intro w4 hq4 m4)
  (try simp only [Exit.inBlock, Exit.then])
  refine bodyPost_ret (results_cell_tmp2 rfl _ _ (w.heap.size + 2) _ _ (0, 0) _ rfl hq4 Try.underlying25 rfl infoIm) rfl ?_
  rw [E.out]
  exact ⟨⟨none, [], 0, none, [], 0, 0⟩, rfl, rfl, zeroIm _ _, bb.thenM m4 bb.size (fun i hi e => by omega)⟩

set_option maxHeartbeats 8000000 in
set_option maxRecDepth 100000 in
theorem rDo_b (D De : Nat → Prop) (i : ImV) (e : E7) (A : Option Addr) (c : Nat) (w : World) (hr : ImR w D i) (hrd : RdB w De A e.data) (hdc : e.data.length ≤ c) (hcm : c ≤ 9223372036854775807) (hm : mayI i.p = true) (hme : mayE e = false) :
    Calls Try.prog 22 #[.agg (imA i), enV e A c] w fun x w' => ∃ j : ImV, x = .returned (.tuple #[.agg (imA j), .int .i64 (doP i.p e).2.1, .int .i64 (doP i.p e).2.2]) ∧ j.p = (doP i.p e).1 ∧ ImR w' (fun _ => True) j ∧ Below w.heap.size w w' := by
  obtain ⟨hB, hE, hQ, bb, hs0⟩ := do_pre i e A c w
  have hr0 := hr.below bb
  have hck := rMay18_any D i _ hr0
  have hce := fun w => rMay_any e A c w
  have E := Lib.hid (doP_b hm hme)
  rw [hm] at hck
  rw [hme] at hce
  clear hm hme
  unfold enV at *
  unfold imA enA zI3 at *
  generalize hw0 : ((w.alloc (.cells #[.slice i.DA i.d.length i.dc, .slice i.CA i.S.length i.cc, .int .i64 i.last] 25)).alloc (.cells #[.int .i64 e.seq, .int .i64 e.owner, .int .i64 e.kind, .int .i64 e.off, .int .i64 e.len, .int .i64 e.snap, .slice A e.data.length c] 41)).alloc (.cells #[.slice none 0 0, .slice none 0 0, .int .i64 0] 25) = w0 at *
  go_enter Try.func22, Try.ntmps22
  go_wp2_with first
    | (with_reducible show wpList _ _ _ _ _ _
       refine wpList_load_row rfl 25 (.tmp 2) rfl w.heap.size rfl 25 _ (0, 0) _ hB Try.underlying25 rfl infoIm ?_)
  refine hck.mono ?_
  clear hck hw0
  rintro e w2 ⟨rfl, b2⟩
  replace hB := hB.below b2
  replace hE := hE.below b2
  replace hQ := hQ.below b2
  replace hr0 := hr0.below b2
  replace bb := bb.thenB' b2
  go_wp2_with first
    | (with_reducible show wpList _ _ _ _ _ _
       refine wpList_load_row rfl 41 (.tmp 3) rfl (w.heap.size + 1) rfl 41 _ (0, 0) _ hE Try.underlying41 rfl infoEy ?_)
  refine (hce w2).mono ?_
  clear hce
  rintro e w3 ⟨rfl, b3⟩
  replace hB := hB.below b3
  replace hE := hE.below b3
  replace hQ := hQ.below b3
  replace hr0 := hr0.below b3
  replace bb := bb.thenB' b3
  go_wp2_with first
    | (with_reducible show wpList _ _ _ _ _ _
       refine wpList_rowB rfl 25 (.tmp 4) (.tmp 20) rfl (w.heap.size + 2) 25 _ zI3 rfl rfl hQ infoIm rfl (imA_ok ⟨none, [], 0, none, [], 0, 0⟩) ?_
       intro w4 hq4 m4)
  (try simp only [Exit.inBlock, Exit.then])
  refine bodyPost_ret (results_cell_tmp2 rfl _ _ (w.heap.size + 2) _ _ (0, 0) _ rfl hq4 Try.underlying25 rfl infoIm) rfl ?_
  rw [E.out]
  exact ⟨⟨none, [], 0, none, [], 0, 0⟩, rfl, rfl, zeroIm _ _, bb.thenM m4 bb.size (fun i hi e => by omega)⟩

set_option maxHeartbeats 8000000 in
set_option maxRecDepth 100000 in
theorem rDo_w (D De : Nat → Prop) (i : ImV) (e : E7) (A : Option Addr) (c : Nat) (w : World) (hr : ImR w D i) (hrd : RdB w De A e.data) (hdc : e.data.length ≤ c) (hcm : c ≤ 9223372036854775807) (hm : mayI i.p = true) (hme : mayE e = true) (hk : e.kind = 1) :
    Calls Try.prog 22 #[.agg (imA i), enV e A c] w fun x w' => ∃ j : ImV, x = .returned (.tuple #[.agg (imA j), .int .i64 (doP i.p e).2.1, .int .i64 (doP i.p e).2.2]) ∧ j.p = (doP i.p e).1 ∧ ImR w' (fun _ => True) j ∧ Below w.heap.size w w' := by
  obtain ⟨hB, hE, hQ, bb, hs0⟩ := do_pre i e A c w
  have hr0 := hr.below bb
  have hck := rMay18_any D i _ hr0
  have hce := fun w => rMay_any e A c w
  have hbd := mayI_bd hm
  have hcb := copiesO_bd _ _ _ hbd.2.2.2.2
  have hp := of_decide_eq_true (show decide (mayP e) = true from hme)
  have E0 := doP_c hm hme
  rw [hm] at hck
  rw [hme] at hce
  clear hm hme
  obtain ⟨sq, ow, kd, off, len, sn, data⟩ := e
  obtain ⟨A1, d, dc, C1, S, cc, la⟩ := i
  unfold ImV.p at *
  dsimp only at *
  have hl0 : d.length ≤ 512 := hbd.1
  have hS0 : S.length ≤ 4 := by have := hbd.2.1; rw [pureC_len] at this; exact this
  have hla0 : 0 ≤ la ∧ la ≤ 100 := ⟨hbd.2.2.1, hbd.2.2.2.1⟩
  clear hbd
  unfold mayP at hp
  dsimp only at hp
  have hdl : d.length ≤ dc := hr.dl
  have hdm : dc ≤ 9223372036854775807 := hr.dm
  rw [← ids_p S, pureC_len] at E0
  have hfb := findO_bd (idsO S) sn
  rw [ids_len] at hfb
  have hfd := fun W (h : ImR W D ⟨A1, d, dc, C1, S, cc, la⟩) => rfind_any D ⟨A1, d, dc, C1, S, cc, la⟩ sn W h
  unfold imA at hfd
  dsimp only at hfd
  generalize findO (idsO S) sn = r at *
  subst hk
  replace hp : 0 ≤ off ∧ off ≤ 512 ∧ 1 ≤ data.length ∧ data.length ≤ 128 := by omega
  obtain ⟨o, rfl⟩ : ∃ o : Nat, off = o := ⟨off.toNat, by omega⟩
  rw [if_pos rfl, Int.toNat_natCast] at E0
  unfold enV at *
  unfold imA enA zI3 at *
  dsimp only at *
  generalize hw0 : ((w.alloc (.cells #[.slice A1 d.length dc, .slice C1 S.length cc, .int .i64 la] 25)).alloc (.cells #[.int .i64 sq, .int .i64 ow, .int .i64 1, .int .i64 (o : Int), .int .i64 len, .int .i64 sn, .slice A data.length c] 41)).alloc (.cells #[.slice none 0 0, .slice none 0 0, .int .i64 0] 25) = w0 at *
  go_enter Try.func22, Try.ntmps22
  go_wp2_with first
    | (with_reducible show wpList _ _ _ _ _ _
       refine wpList_load_row rfl 25 (.tmp 2) rfl w.heap.size rfl 25 _ (0, 0) _ hB Try.underlying25 rfl infoIm ?_)
  refine hck.mono ?_
  clear hck hw0
  rintro e w2 ⟨rfl, b2⟩
  replace hB := hB.below b2
  replace hE := hE.below b2
  replace hQ := hQ.below b2
  replace hr0 := hr0.below b2
  replace bb := bb.thenB' b2
  clear b2
  go_wp2_with first
    | (with_reducible show wpList _ _ _ _ _ _
       refine wpList_load_row rfl 41 (.tmp 3) rfl (w.heap.size + 1) rfl 41 _ (0, 0) _ hE Try.underlying41 rfl infoEy ?_)
  refine (hce w2).mono ?_
  clear hce
  rintro e w3 ⟨rfl, b3⟩
  replace hB := hB.below b3
  replace hE := hE.below b3
  replace hQ := hQ.below b3
  replace hr0 := hr0.below b3
  replace bb := bb.thenB' b3
  clear b3
  have hfd := hfd w3 hr0
  have k4 := hE.cell 5
  simp at k4
  go_wp2_with first
    | (with_reducible show wpList _ _ _ _ _ _
       refine wpList_load_row rfl 25 (.tmp 2) rfl w.heap.size rfl 25 _ (0, 0) _ hB Try.underlying25 rfl infoIm ?_)
  refine hfd.mono ?_
  clear hfd k4
  rintro e w5 ⟨rfl, b5⟩
  replace hB := hB.below b5
  replace hE := hE.below b5
  replace hQ := hQ.below b5
  replace hr0 := hr0.below b5
  replace bb := bb.thenB' b5
  have hs5 : w.heap.size + 3 ≤ w5.heap.size := by have := bb.size; have := hQ.lt; omega
  clear b5
  have c1 := hB.cell 0
  have c2 := hB.cell 1
  have c3 := hB.cell 2
  have k1 := hE.cell 2
  have k2 := hE.cell 3
  have k3 := hE.cell 4
  have k4 := hE.cell 5
  have k5 := hE.cell 6
  simp at c1 c2 c3 k1 k2 k3 k4 k5
  by_cases h1 : (d.length : Int) < (o : Int) + (data.length : Int)
  focus
    rw [if_pos h1] at E0
    have E := Lib.hid E0
    clear E0
    go_wp2_with first
      | (with_reducible show wpList _ _ _ _ _ _
         refine wpList_rowB rfl 25 (.tmp 4) (.tmp 39) rfl (w.heap.size + 2) 25 _ zI3 rfl rfl hQ infoIm rfl (imA_ok ⟨none, [], 0, none, [], 0, 0⟩) ?_
         intro w4 hq4 m4)
    (try simp only [Exit.inBlock, Exit.then])
    refine bodyPost_ret (results_cell_tmp2 rfl _ _ (w.heap.size + 2) _ _ (0, 0) _ rfl hq4 Try.underlying25 rfl infoIm) rfl ?_
    rw [E.out]
    exact ⟨⟨none, [], 0, none, [], 0, 0⟩, rfl, rfl, zeroIm _ _, bb.thenM m4 bb.size (fun i hi e => by omega)⟩
  rw [if_neg h1] at E0
  have E := Lib.hid E0
  clear E0
  have hlc := laid18_any D De A1 dc d o A c data w5 hr0.rd hdl hdm (hrd.below bb) hdc (by omega) (by omega)
  have hl8 := laidO_len d o data (by omega)
  go_upto_region 11 with fail
  go_wp2_with fail
  refine hlc.mono ?_
  clear hlc
  clear c1 c2 c3 k1 k2 k3 k4 k5
  rintro e w7 ⟨v7, rfl, o7, b7⟩
  obtain ⟨A9, c9, rfl, l9, mx9⟩ := OwnB.form o7
  rw [hl8] at l9
  have hB7 := hB.below b7
  have hQ7 := hQ.below b7
  have bb7 := bb.thenB' b7
  have o7' := o7.rdG
  have HL8 := Lib.hid hl8
  clear hl8 hB hE hQ bb b7 o7 hr0
  go_upto_region 41 with first
    | (with_reducible show wpList _ _ _ _ _ _
       refine wpList_fldB rfl 22 (.tmp 47) (.tmp 46) rfl w.heap.size 0 25 _ (.slice A9 (laidO d o data).length c9) rfl rfl rfl infoD1 hB7 3 rfl (by decide) ?_
       intro w8 hB8 m8
       replace hB8 : Blk w8 w.heap.size 25 #[.slice A9 (laidO d o data).length c9, .slice C1 S.length cc, .int .i64 la] := hB8)
  have hQ8 := hQ7.mod m8 (by omega)
  have bb8 := bb7.thenM m8 bb7.size (fun i hi e => by omega)
  have o8 : RdB w8 (w5.heap.size ≤ ·) A9 (laidO d o data) := Rd.mod o7' m8 (fun b hb e => by omega)
  clear hB7 hQ7 bb7 m8 o7'
  go_wp2_with first
    | (with_reducible show wpList _ _ _ _ _ _
       refine wpList_load_row rfl 25 (.tmp 2) rfl w.heap.size rfl 25 _ (0, 0) _ hB8 Try.underlying25 rfl infoIm ?_)
    | (with_reducible show wpList _ _ _ _ _ _
       refine wpList_rowB rfl 25 (.tmp 4) (.tmp 147) rfl (w.heap.size + 2) 25 _ (imA ⟨A9, laidO d o data, c9, C1, S, cc, la⟩) rfl rfl hQ8 infoIm rfl (imA_ok _) ?_
       intro w9 hq9 m9)
  (try simp only [Exit.inBlock, Exit.then])
  refine bodyPost_ret (results_cell_tmp2 rfl _ _ (w.heap.size + 2) _ _ (0, 0) _ rfl hq9 Try.underlying25 rfl infoIm) rfl ?_
  rw [E.out]
  exact ⟨⟨A9, laidO d o data, c9, C1, S, cc, la⟩, rfl, rfl, hr.setD (bb8.thenM m9 bb8.size (fun i hi e => by omega)) (Rd.mod o8 m9 (fun b hb e => by omega)) (by rw [HL8.out]; exact l9) (by unfold maxLen at mx9; omega), bb8.thenM m9 bb8.size (fun i hi e => by omega)⟩

set_option maxHeartbeats 8000000 in
set_option maxRecDepth 100000 in
theorem rDo_r (D De : Nat → Prop) (i : ImV) (e : E7) (A : Option Addr) (c : Nat) (w : World) (hr : ImR w D i) (hrd : RdB w De A e.data) (hdc : e.data.length ≤ c) (hcm : c ≤ 9223372036854775807) (hm : mayI i.p = true) (hme : mayE e = true) (hk : e.kind = 3) :
    Calls Try.prog 22 #[.agg (imA i), enV e A c] w fun x w' => ∃ j : ImV, x = .returned (.tuple #[.agg (imA j), .int .i64 (doP i.p e).2.1, .int .i64 (doP i.p e).2.2]) ∧ j.p = (doP i.p e).1 ∧ ImR w' (fun _ => True) j ∧ Below w.heap.size w w' := by
  obtain ⟨hB, hE, hQ, bb, hs0⟩ := do_pre i e A c w
  have hr0 := hr.below bb
  have hck := rMay18_any D i _ hr0
  have hce := fun w => rMay_any e A c w
  have hbd := mayI_bd hm
  have hcb := copiesO_bd _ _ _ hbd.2.2.2.2
  have hp := of_decide_eq_true (show decide (mayP e) = true from hme)
  have E0 := doP_c hm hme
  rw [hm] at hck
  rw [hme] at hce
  clear hm hme
  obtain ⟨sq, ow, kd, off, len, sn, data⟩ := e
  obtain ⟨A1, d, dc, C1, S, cc, la⟩ := i
  unfold ImV.p at *
  dsimp only at *
  have hl0 : d.length ≤ 512 := hbd.1
  have hS0 : S.length ≤ 4 := by have := hbd.2.1; rw [pureC_len] at this; exact this
  have hla0 : 0 ≤ la ∧ la ≤ 100 := ⟨hbd.2.2.1, hbd.2.2.2.1⟩
  clear hbd
  unfold mayP at hp
  dsimp only at hp
  have hdl : d.length ≤ dc := hr.dl
  have hdm : dc ≤ 9223372036854775807 := hr.dm
  rw [← ids_p S, pureC_len] at E0
  have hfb := findO_bd (idsO S) sn
  rw [ids_len] at hfb
  have hfd := fun W (h : ImR W D ⟨A1, d, dc, C1, S, cc, la⟩) => rfind_any D ⟨A1, d, dc, C1, S, cc, la⟩ sn W h
  unfold imA at hfd
  dsimp only at hfd
  generalize findO (idsO S) sn = r at *
  subst hk
  replace hp : 0 ≤ len ∧ len ≤ 512 := by omega
  obtain ⟨n, rfl⟩ : ∃ n : Nat, len = n := ⟨len.toNat, by omega⟩
  rw [if_neg (by decide), if_neg (by decide), if_pos rfl, Int.toNat_natCast] at E0
  unfold enV at *
  unfold imA enA zI3 at *
  dsimp only at *
  generalize hw0 : ((w.alloc (.cells #[.slice A1 d.length dc, .slice C1 S.length cc, .int .i64 la] 25)).alloc (.cells #[.int .i64 sq, .int .i64 ow, .int .i64 3, .int .i64 off, .int .i64 (n : Int), .int .i64 sn, .slice A data.length c] 41)).alloc (.cells #[.slice none 0 0, .slice none 0 0, .int .i64 0] 25) = w0 at *
  go_enter Try.func22, Try.ntmps22
  go_wp2_with first
    | (with_reducible show wpList _ _ _ _ _ _
       refine wpList_load_row rfl 25 (.tmp 2) rfl w.heap.size rfl 25 _ (0, 0) _ hB Try.underlying25 rfl infoIm ?_)
  refine hck.mono ?_
  clear hck hw0
  rintro e w2 ⟨rfl, b2⟩
  replace hB := hB.below b2
  replace hE := hE.below b2
  replace hQ := hQ.below b2
  replace hr0 := hr0.below b2
  replace bb := bb.thenB' b2
  clear b2
  go_wp2_with first
    | (with_reducible show wpList _ _ _ _ _ _
       refine wpList_load_row rfl 41 (.tmp 3) rfl (w.heap.size + 1) rfl 41 _ (0, 0) _ hE Try.underlying41 rfl infoEy ?_)
  refine (hce w2).mono ?_
  clear hce
  rintro e w3 ⟨rfl, b3⟩
  replace hB := hB.below b3
  replace hE := hE.below b3
  replace hQ := hQ.below b3
  replace hr0 := hr0.below b3
  replace bb := bb.thenB' b3
  clear b3
  have hfd := hfd w3 hr0
  have k4 := hE.cell 5
  simp at k4
  go_wp2_with first
    | (with_reducible show wpList _ _ _ _ _ _
       refine wpList_load_row rfl 25 (.tmp 2) rfl w.heap.size rfl 25 _ (0, 0) _ hB Try.underlying25 rfl infoIm ?_)
  refine hfd.mono ?_
  clear hfd k4
  rintro e w5 ⟨rfl, b5⟩
  replace hB := hB.below b5
  replace hE := hE.below b5
  replace hQ := hQ.below b5
  replace hr0 := hr0.below b5
  replace bb := bb.thenB' b5
  have hs5 : w.heap.size + 3 ≤ w5.heap.size := by have := bb.size; have := hQ.lt; omega
  clear b5
  have c1 := hB.cell 0
  have c2 := hB.cell 1
  have c3 := hB.cell 2
  have k1 := hE.cell 2
  have k2 := hE.cell 3
  have k3 := hE.cell 4
  have k4 := hE.cell 5
  have k5 := hE.cell 6
  simp at c1 c2 c3 k1 k2 k3 k4 k5
  have E := Lib.hid E0
  clear E0
  have rd := hr0.rd
  dsimp only at rd
  clear hr0
  go_upto_region 18 with fail
  clear c2 c3 k1 k2 k3 k4 k5
  go_upto_region 19 with first
    | (with_reducible show wpList _ _ _ _ _ _
       refine wpList_appB rfl (.tmp 71) (.tmp 73) rfl w5.heap.size (.slice none 0 0) [] rfl OwnB.nil D A1 d.length dc d rfl rfl rd (by unfold big; simp; omega) (Nat.le_refl _) ?_
       intro v6 w6 o6 x6)
  have b6 : Below w5.heap.size w5 w6 := Ext.of_nil x6
  clear c1
  go_upto_region 20 with first
    | (with_reducible show wpList _ _ _ _ _ _
       refine wpList_appZ rfl (.tmp 75) _ rfl w5.heap.size v6 _ rfl o6 512 rfl (by decide) (by decide) (by simp; omega) b6.size ?_
       intro v7 w7 o7 x7)
  have b7 : Below w5.heap.size w5 w7 := b6.trans (x7.below o6 (Nat.le_refl _) b6.size)
  obtain ⟨A9, n9, c9, rfl, HN9, l9, mx9⟩ := OwnB.form' o7
  have hB7 := hB.below b7
  have hE7 := hE.below b7
  have hQ7 := hQ.below b7
  have bb7 := bb.thenB' b7
  rw [HN9.out] at o7
  have o7' := o7.rdG
  have hn9 : 512 ≤ n9 := by rw [HN9.out]; simp
  unfold maxLen at mx9
  have i1 : (n : Int) ≤ (c9 : Int) := by omega
  have i2 : n ≤ c9 := by omega
  have k3 := hE7.cell 4
  simp at k3
  clear hB hE hQ bb b7 b6 o6 o7 x6 x7 hE7 rd
  go_upto_region 41 with first
    | (with_reducible show wpList _ _ _ _ _ _
       refine wpList_fldB rfl 22 (.tmp 81) (.tmp 80) rfl w.heap.size 0 25 _ (.slice A9 n c9) rfl rfl rfl infoD1 hB7 3 rfl (by decide) ?_
       intro w8 hB8 m8
       replace hB8 : Blk w8 w.heap.size 25 #[.slice A9 n c9, .slice C1 S.length cc, .int .i64 la] := hB8)
  have hQ8 := hQ7.mod m8 (by omega)
  have bb8 := bb7.thenM m8 bb7.size (fun i hi e => by omega)
  have o8 : RdB w8 (w5.heap.size ≤ ·) A9 (sizeO d n) := by
    have := (RdB.take (k := n) o7' (by rw [← HN9.out]; omega))
    rw [List.nil_append, size_take d n (by omega) hl0] at this
    exact Rd.mod this m8 (fun b hb e => by omega)
  rw [show Value.slice A9 n c9 = .slice A9 (sizeO d n).length c9 from by rw [sizeO_len]] at hB8
  clear hB7 hQ7 bb7 m8 o7' k3
  go_wp2_with first
    | (with_reducible show wpList _ _ _ _ _ _
       refine wpList_load_row rfl 25 (.tmp 2) rfl w.heap.size rfl 25 _ (0, 0) _ hB8 Try.underlying25 rfl infoIm ?_)
    | (with_reducible show wpList _ _ _ _ _ _
       refine wpList_rowB rfl 25 (.tmp 4) (.tmp 147) rfl (w.heap.size + 2) 25 _ (imA ⟨A9, sizeO d n, c9, C1, S, cc, la⟩) rfl rfl hQ8 infoIm rfl (imA_ok _) ?_
       intro w9 hq9 m9)
  (try simp only [Exit.inBlock, Exit.then])
  refine bodyPost_ret (results_cell_tmp2 rfl _ _ (w.heap.size + 2) _ _ (0, 0) _ rfl hq9 Try.underlying25 rfl infoIm) rfl ?_
  rw [E.out]
  exact ⟨⟨A9, sizeO d n, c9, C1, S, cc, la⟩, rfl, rfl, hr.setD (bb8.thenM m9 bb8.size (fun i hi e => by omega)) (Rd.mod o8 m9 (fun b hb e => by omega)) (by rw [sizeO_len]; exact i2) (by omega), bb8.thenM m9 bb8.size (fun i hi e => by omega)⟩
end Go.Proofs.Ytcdodchjgadcoaa
