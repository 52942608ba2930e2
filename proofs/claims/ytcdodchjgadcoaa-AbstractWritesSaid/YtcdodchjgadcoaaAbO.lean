/- The document's Do: a drop, back to a snapshot; any operation. -/
import Derived.Test.YtcdodchjgadcoaaAbN
import Derived.Deep.CutRange
import Derived.Deep.CutBlock
namespace Go.Proofs.Ytcdodchjgadcoaa
open Go.RowKit
set_option linter.unusedVariables false
set_option maxRecDepth 100000

set_option maxHeartbeats 8000000 in
set_option maxRecDepth 100000 in
theorem rDo_x (D De : Nat → Prop) (i : ImV) (e : E7) (A : Option Addr) (c : Nat) (w : World) (hr : ImR w D i) (hrd : RdB w De A e.data) (hdc : e.data.length ≤ c) (hcm : c ≤ 9223372036854775807) (hm : mayI i.p = true) (hme : mayE e = true) (hk : e.kind = 5) :
    Calls Try.prog 22 #[.agg (imA i), enV e A c] w fun x w' => ∃ j : ImV, x = .returned (.tuple #[.agg (imA j), .int .i64 (doP i.p e).2.1, .int .i64 (doP i.p e).2.2]) ∧ j.p = (doP i.p e).1 ∧ ImR w' (fun _ => True) j ∧ Below w.heap.size w w' := by
  obtain ⟨hB, hE, hQ, bb, hs0⟩ := do_pre i e A c w
  have hr0 := hr.below bb
  have hck := rMay18_any D i _ hr0
  have hce := fun w => rMay_any e A c w
  have hbd := mayI_bd hm
  have hcb := copiesO_bd _ _ _ hbd.2.2.2.2
  have hp := of_decide_eq_true (show decide (mayP e) = true from hme)
  have E0 := doP_c hm hme
  rw [hm] at hck
  rw [hme] at hce
  clear hm hme
  obtain ⟨sq, ow, kd, off, len, sn, data⟩ := e
  obtain ⟨A1, d, dc, C1, S, cc, la⟩ := i
  unfold ImV.p at *
  dsimp only at *
  have hl0 : d.length ≤ 512 := hbd.1
  have hS0 : S.length ≤ 4 := by have := hbd.2.1; rw [pureC_len] at this; exact this
  have hla0 : 0 ≤ la ∧ la ≤ 100 := ⟨hbd.2.2.1, hbd.2.2.2.1⟩
  clear hbd
  unfold mayP at hp
  dsimp only at hp
  have hdl : d.length ≤ dc := hr.dl
  have hdm : dc ≤ 9223372036854775807 := hr.dm
  rw [← ids_p S, pureC_len] at E0
  have hfb := findO_bd (idsO S) sn
  rw [ids_len] at hfb
  have hfd := fun W (h : ImR W D ⟨A1, d, dc, C1, S, cc, la⟩) => rfind_any D ⟨A1, d, dc, C1, S, cc, la⟩ sn W h
  unfold imA at hfd
  dsimp only at hfd
  generalize findO (idsO S) sn = r at *
  subst hk
  clear hp
  rw [if_neg (by decide), if_neg (by decide), if_neg (by decide), if_neg (by decide)] at E0
  unfold enV at *
  unfold imA enA zI3 at *
  dsimp only at *
  generalize hw0 : ((w.alloc (.cells #[.slice A1 d.length dc, .slice C1 S.length cc, .int .i64 la] 25)).alloc (.cells #[.int .i64 sq, .int .i64 ow, .int .i64 5, .int .i64 off, .int .i64 len, .int .i64 sn, .slice A data.length c] 41)).alloc (.cells #[.slice none 0 0, .slice none 0 0, .int .i64 0] 25) = w0 at *
  go_enter Try.func22, Try.ntmps22
  go_wp2_with first
    | (with_reducible show wpList _ _ _ _ _ _
       refine wpList_load_row rfl 25 (.tmp 2) rfl w.heap.size rfl 25 _ (0, 0) _ hB Try.underlying25 rfl infoIm ?_)
  refine hck.mono ?_
  clear hck hw0
  rintro e w2 ⟨rfl, b2⟩
  replace hB := hB.below b2
  replace hE := hE.below b2
  replace hQ := hQ.below b2
  replace hr0 := hr0.below b2
  replace bb := bb.thenB' b2
  clear b2
  go_wp2_with first
    | (with_reducible show wpList _ _ _ _ _ _
       refine wpList_load_row rfl 41 (.tmp 3) rfl (w.heap.size + 1) rfl 41 _ (0, 0) _ hE Try.underlying41 rfl infoEy ?_)
  refine (hce w2).mono ?_
  clear hce
  rintro e w3 ⟨rfl, b3⟩
  replace hB := hB.below b3
  replace hE := hE.below b3
  replace hQ := hQ.below b3
  replace hr0 := hr0.below b3
  replace bb := bb.thenB' b3
  clear b3
  have hfd := hfd w3 hr0
  have k4 := hE.cell 5
  simp at k4
  go_wp2_with first
    | (with_reducible show wpList _ _ _ _ _ _
       refine wpList_load_row rfl 25 (.tmp 2) rfl w.heap.size rfl 25 _ (0, 0) _ hB Try.underlying25 rfl infoIm ?_)
  refine hfd.mono ?_
  clear hfd k4
  rintro e w5 ⟨rfl, b5⟩
  replace hB := hB.below b5
  replace hE := hE.below b5
  replace hQ := hQ.below b5
  replace hr0 := hr0.below b5
  replace bb := bb.thenB' b5
  have hs5 : w.heap.size + 3 ≤ w5.heap.size := by have := bb.size; have := hQ.lt; omega
  clear b5
  have c1 := hB.cell 0
  have c2 := hB.cell 1
  have c3 := hB.cell 2
  have k1 := hE.cell 2
  have k2 := hE.cell 3
  have k3 := hE.cell 4
  have k4 := hE.cell 5
  have k5 := hE.cell 6
  simp at c1 c2 c3 k1 k2 k3 k4 k5
  by_cases h1 : r < 0
  focus
    rw [if_pos h1] at E0
    have E := Lib.hid E0
    clear E0 hfb
    go_wp2_with first
      | (with_reducible show wpList _ _ _ _ _ _
         refine wpList_rowB rfl 25 (.tmp 4) (.tmp 119) rfl (w.heap.size + 2) 25 _ zI3 rfl rfl hQ infoIm rfl (imA_ok ⟨none, [], 0, none, [], 0, 0⟩) ?_
         intro w4 hq4 m4)
    (try simp only [Exit.inBlock, Exit.then])
    refine bodyPost_ret (results_cell_tmp2 rfl _ _ (w.heap.size + 2) _ _ (0, 0) _ rfl hq4 Try.underlying25 rfl infoIm) rfl ?_
    rw [E.out]
    exact ⟨⟨none, [], 0, none, [], 0, 0⟩, rfl, rfl, zeroIm _ _, bb.thenM m4 bb.size (fun i hi e => by omega)⟩
  rw [if_neg h1] at E0
  obtain ⟨k, rfl⟩ : ∃ k : Nat, r = (k : Int) := ⟨r.toNat, by omega⟩
  rw [Int.toNat_natCast] at E0
  have hk : k < S.length := by omega
  have h2 : ¬ (k : Int) < 0 := h1
  have h3 : (k : Int) < (S.length : Int) := by omega
  have h4 : (S.length : Int) ≤ 4 := by omega
  clear h1 hfb
  have hsc : S.length ≤ cc := hr.sl
  have hscm : cc ≤ 9223372036854775807 := hr.sm
  rw [if_pos trivial] at E0
  have E := Lib.hid E0
  clear E0
  have rl : RdL w5 D 2 cpC C1 S := hr0.rS
  have rf := RdL.flatC cpC_len rl
  have i1 : (k : Int) ≤ (cc : Int) := by omega
  have i2 : k ≤ cc := by omega
  have i3 : (k : Int) + 1 ≤ (S.length : Int) := by omega
  have i4 : k + 1 ≤ cc := by omega
  have i5 : (S.length : Int) ≤ (cc : Int) := by omega
  clear hr0 rl
  go_upto_region 34 with fail
  go_upto_region 35 with first
    | (with_reducible show wpList _ _ _ _ _ _
       refine wpList_appCp rfl (.tmp 120) (.tmp 124) rfl w5.heap.size (.slice none 0 0) [] (S.take k) rfl OwnC.nil D C1 k cc rfl (by rw [List.length_take]; omega) (by rw [cpF_take]; exact rf.take (by omega)) (by simp; omega) (Nat.le_refl _) ?_
       intro v7 w7 o7 x7)
  have b7 : Below w5.heap.size w5 w7 := Ext.of_nil x7
  have hB7 := hB.below b7
  have hQ7 := hQ.below b7
  have hE7 := hE.below b7
  have bb7 := bb.thenB' b7
  have rf7 := rf.below b7
  clear hE x7 rf
  clear c1 c2 c3 k1 k2 k3 k4 k5
  have c2 := hB7.cell 1
  have k1 := hE7.cell 2
  simp at c2 k1
  go_upto_region 36 with first
    | (with_reducible show wpList _ _ _ _ _ _
       refine wpList_appCp rfl (.tmp 126) (.tmp 131) rfl w5.heap.size v7 ([] ++ S.take k) (S.drop (k + 1)) rfl o7 D (cutA C1 (k + 1) cc 2) (S.length - (k + 1)) (cc - (k + 1)) rfl (by rw [List.length_drop]) (by rw [cpF_drop S (k + 1) (by omega)]; exact rf7.cut (by omega) hsc) (by simp; omega) b7.size ?_
       intro v8 w8 o8 x8)
  have b58 : Below w5.heap.size w5 w8 := b7.trans (x8.below o7 (Nat.le_refl _) b7.size)
  obtain ⟨C9, n9, c9, rfl, HN9, l9, mx9⟩ := OwnCp.form' o8
  have hB8 := hB.below b58
  have hQ8 := hQ.below b58
  have bb8 := bb.thenB' b58
  have rl8 := OwnCp.rd o8
  have hSn : [] ++ S.take k ++ S.drop (k + 1) = S.eraseIdx k := by rw [List.nil_append, erase_eq]
  rw [hSn] at rl8 HN9
  clear hB hQ bb hB7 hQ7 bb7 o7 o8 x8 b7 b58 rf7 hE7 c2 k1
  generalize hSq : S.eraseIdx k = Sn at *
  have HSn := Lib.hid hSq
  clear hSq hSn
  go_upto_region 41 with first
    | (with_reducible show wpList _ _ _ _ _ _
       refine wpList_fldB rfl 23 (.tmp 134) (.tmp 133) rfl w.heap.size 1 25 _ (.slice C9 n9 c9) rfl rfl rfl infoC1 hB8 3 rfl (by decide) ?_
       intro w10 hB10 m10
       replace hB10 : Blk w10 w.heap.size 25 #[.slice A1 d.length dc, .slice C9 n9 c9, .int .i64 la] := hB10)
  have hQ10 := hQ8.mod m10 (by omega)
  have bb10 := bb8.thenM m10 bb8.size (fun i hi e => by omega)
  have rl10 := RdL.mod rl8 m10 (fun b hb e => by have := hb.1; omega)
  rw [HN9.out] at hB10
  clear hB8 hQ8 bb8 rl8 m10
  go_wp2_with first
    | (with_reducible show wpList _ _ _ _ _ _
       refine wpList_load_row rfl 25 (.tmp 2) rfl w.heap.size rfl 25 _ (0, 0) _ hB10 Try.underlying25 rfl infoIm ?_)
    | (with_reducible show wpList _ _ _ _ _ _
       refine wpList_rowB rfl 25 (.tmp 4) (.tmp 147) rfl (w.heap.size + 2) 25 _ (imA ⟨A1, d, dc, C9, Sn, c9, la⟩) rfl rfl hQ10 infoIm rfl (imA_ok _) ?_
       intro w9 hq9 m9)
  (try simp only [Exit.inBlock, Exit.then])
  refine bodyPost_ret (results_cell_tmp2 rfl _ _ (w.heap.size + 2) _ _ (0, 0) _ rfl hq9 Try.underlying25 rfl infoIm) rfl ?_
  rw [E.out]
  exact ⟨⟨A1, d, dc, C9, Sn, c9, la⟩, rfl, by show PI.mk d (pureC Sn) la = _; rw [← HSn.out, pureC_erase], hr.setS (bb10.thenM m9 bb10.size (fun i hi e => by omega)) (rl10.mod m9 fun b hb e => by have := hb.1; omega) (by rw [← HN9.out]; exact l9) (by unfold maxLen at mx9; omega) (fun s hs => ((hr.cp s (List.mem_of_mem_eraseIdx (by rw [HSn.out]; exact hs))).below (bb10.thenM m9 bb10.size (fun i hi e => by omega))).imp fun _ _ _ => trivial) la, bb10.thenM m9 bb10.size (fun i hi e => by omega)⟩

set_option maxHeartbeats 8000000 in
set_option maxRecDepth 100000 in
theorem rDo_z (D De : Nat → Prop) (i : ImV) (e : E7) (A : Option Addr) (c : Nat) (w : World) (hr : ImR w D i) (hrd : RdB w De A e.data) (hdc : e.data.length ≤ c) (hcm : c ≤ 9223372036854775807) (hm : mayI i.p = true) (hme : mayE e = true) (hk : e.kind = 6) :
    Calls Try.prog 22 #[.agg (imA i), enV e A c] w fun x w' => ∃ j : ImV, x = .returned (.tuple #[.agg (imA j), .int .i64 (doP i.p e).2.1, .int .i64 (doP i.p e).2.2]) ∧ j.p = (doP i.p e).1 ∧ ImR w' (fun _ => True) j ∧ Below w.heap.size w w' := by
  obtain ⟨hB, hE, hQ, bb, hs0⟩ := do_pre i e A c w
  have hr0 := hr.below bb
  have hck := rMay18_any D i _ hr0
  have hce := fun w => rMay_any e A c w
  have hbd := mayI_bd hm
  have hcb := copiesO_bd _ _ _ hbd.2.2.2.2
  have hp := of_decide_eq_true (show decide (mayP e) = true from hme)
  have E0 := doP_c hm hme
  rw [hm] at hck
  rw [hme] at hce
  clear hm hme
  obtain ⟨sq, ow, kd, off, len, sn, data⟩ := e
  obtain ⟨A1, d, dc, C1, S, cc, la⟩ := i
  unfold ImV.p at *
  dsimp only at *
  have hl0 : d.length ≤ 512 := hbd.1
  have hS0 : S.length ≤ 4 := by have := hbd.2.1; rw [pureC_len] at this; exact this
  have hla0 : 0 ≤ la ∧ la ≤ 100 := ⟨hbd.2.2.1, hbd.2.2.2.1⟩
  clear hbd
  unfold mayP at hp
  dsimp only at hp
  have hdl : d.length ≤ dc := hr.dl
  have hdm : dc ≤ 9223372036854775807 := hr.dm
  rw [← ids_p S, pureC_len] at E0
  have hfb := findO_bd (idsO S) sn
  rw [ids_len] at hfb
  have hfd := fun W (h : ImR W D ⟨A1, d, dc, C1, S, cc, la⟩) => rfind_any D ⟨A1, d, dc, C1, S, cc, la⟩ sn W h
  unfold imA at hfd
  dsimp only at hfd
  generalize findO (idsO S) sn = r at *
  subst hk
  clear hp
  rw [if_neg (by decide), if_neg (by decide), if_neg (by decide), if_neg (by decide)] at E0
  unfold enV at *
  unfold imA enA zI3 at *
  dsimp only at *
  generalize hw0 : ((w.alloc (.cells #[.slice A1 d.length dc, .slice C1 S.length cc, .int .i64 la] 25)).alloc (.cells #[.int .i64 sq, .int .i64 ow, .int .i64 6, .int .i64 off, .int .i64 len, .int .i64 sn, .slice A data.length c] 41)).alloc (.cells #[.slice none 0 0, .slice none 0 0, .int .i64 0] 25) = w0 at *
  go_enter Try.func22, Try.ntmps22
  go_wp2_with first
    | (with_reducible show wpList _ _ _ _ _ _
       refine wpList_load_row rfl 25 (.tmp 2) rfl w.heap.size rfl 25 _ (0, 0) _ hB Try.underlying25 rfl infoIm ?_)
  refine hck.mono ?_
  clear hck hw0
  rintro e w2 ⟨rfl, b2⟩
  replace hB := hB.below b2
  replace hE := hE.below b2
  replace hQ := hQ.below b2
  replace hr0 := hr0.below b2
  replace bb := bb.thenB' b2
  clear b2
  go_wp2_with first
    | (with_reducible show wpList _ _ _ _ _ _
       refine wpList_load_row rfl 41 (.tmp 3) rfl (w.heap.size + 1) rfl 41 _ (0, 0) _ hE Try.underlying41 rfl infoEy ?_)
  refine (hce w2).mono ?_
  clear hce
  rintro e w3 ⟨rfl, b3⟩
  replace hB := hB.below b3
  replace hE := hE.below b3
  replace hQ := hQ.below b3
  replace hr0 := hr0.below b3
  replace bb := bb.thenB' b3
  clear b3
  have hfd := hfd w3 hr0
  have k4 := hE.cell 5
  simp at k4
  go_wp2_with first
    | (with_reducible show wpList _ _ _ _ _ _
       refine wpList_load_row rfl 25 (.tmp 2) rfl w.heap.size rfl 25 _ (0, 0) _ hB Try.underlying25 rfl infoIm ?_)
  refine hfd.mono ?_
  clear hfd k4
  rintro e w5 ⟨rfl, b5⟩
  replace hB := hB.below b5
  replace hE := hE.below b5
  replace hQ := hQ.below b5
  replace hr0 := hr0.below b5
  replace bb := bb.thenB' b5
  have hs5 : w.heap.size + 3 ≤ w5.heap.size := by have := bb.size; have := hQ.lt; omega
  clear b5
  have c1 := hB.cell 0
  have c2 := hB.cell 1
  have c3 := hB.cell 2
  have k1 := hE.cell 2
  have k2 := hE.cell 3
  have k3 := hE.cell 4
  have k4 := hE.cell 5
  have k5 := hE.cell 6
  simp at c1 c2 c3 k1 k2 k3 k4 k5
  by_cases h1 : r < 0
  focus
    rw [if_pos h1] at E0
    have E := Lib.hid E0
    clear E0 hfb
    go_wp2_with first
      | (with_reducible show wpList _ _ _ _ _ _
         refine wpList_rowB rfl 25 (.tmp 4) (.tmp 139) rfl (w.heap.size + 2) 25 _ zI3 rfl rfl hQ infoIm rfl (imA_ok ⟨none, [], 0, none, [], 0, 0⟩) ?_
         intro w4 hq4 m4)
    (try simp only [Exit.inBlock, Exit.then])
    refine bodyPost_ret (results_cell_tmp2 rfl _ _ (w.heap.size + 2) _ _ (0, 0) _ rfl hq4 Try.underlying25 rfl infoIm) rfl ?_
    rw [E.out]
    exact ⟨⟨none, [], 0, none, [], 0, 0⟩, rfl, rfl, zeroIm _ _, bb.thenM m4 bb.size (fun i hi e => by omega)⟩
  rw [if_neg h1] at E0
  obtain ⟨k, rfl⟩ : ∃ k : Nat, r = (k : Int) := ⟨r.toNat, by omega⟩
  rw [Int.toNat_natCast] at E0
  have hk : k < S.length := by omega
  have h2 : ¬ (k : Int) < 0 := h1
  have h3 : (k : Int) < (S.length : Int) := by omega
  have h4 : (S.length : Int) ≤ 4 := by omega
  clear h1 hfb
  have hsc : S.length ≤ cc := hr.sl
  have hscm : cc ≤ 9223372036854775807 := hr.sm
  rw [if_neg (by decide), pureC_getD S k hk] at E0
  have E := Lib.hid E0
  clear E0
  have hrS : RdL w5 D 2 cpC C1 S := hr0.rS
  obtain ⟨ad, rfl, d0, d1⟩ := hrS.cp hk
  obtain ⟨rk, lk, mk⟩ := hr.cp S[k] (List.getElem_mem hk)
  obtain ⟨x, hxe⟩ : ∃ x, x = S[k].m := ⟨_, rfl⟩
  rw [← hxe] at E d1 rk lk
  clear hxe hr0 hrS
  generalize S[k].A = Ax at *
  generalize S[k].c = cx at *
  go_upto_region 40 with fail
  go_upto_region 41 with first
    | (with_reducible show wpList _ _ _ _ _ _
       refine wpList_fldB rfl 22 (.tmp 146) (.tmp 145) rfl w.heap.size 0 25 _ (.slice Ax x.length cx) rfl rfl rfl infoD1 hB 3 rfl (by decide) ?_
       intro w10 hB10 m10
       replace hB10 : Blk w10 w.heap.size 25 #[.slice Ax x.length cx, .slice (some ad) S.length cc, .int .i64 la] := hB10)
  have hQ10 := hQ.mod m10 (by omega)
  have bb10 := bb.thenM m10 bb.size (fun i hi e => by omega)
  clear hB hQ hE bb m10 d0 d1
  clear c1 c2 c3 k1 k2 k3 k4 k5
  go_wp2_with first
    | (with_reducible show wpList _ _ _ _ _ _
       refine wpList_load_row rfl 25 (.tmp 2) rfl w.heap.size rfl 25 _ (0, 0) _ hB10 Try.underlying25 rfl infoIm ?_)
    | (with_reducible show wpList _ _ _ _ _ _
       refine wpList_rowB rfl 25 (.tmp 4) (.tmp 147) rfl (w.heap.size + 2) 25 _ (imA ⟨Ax, x, cx, some ad, S, cc, la⟩) rfl rfl hQ10 infoIm rfl (imA_ok _) ?_
       intro w9 hq9 m9)
  (try simp only [Exit.inBlock, Exit.then])
  refine bodyPost_ret (results_cell_tmp2 rfl _ _ (w.heap.size + 2) _ _ (0, 0) _ rfl hq9 Try.underlying25 rfl infoIm) rfl ?_
  rw [E.out]
  exact ⟨⟨Ax, x, cx, some ad, S, cc, la⟩, rfl, rfl, hr.setD (bb10.thenM m9 bb10.size (fun i hi e => by omega)) (RdB.below rk (bb10.thenM m9 bb10.size (fun i hi e => by omega))) lk mk, bb10.thenM m9 bb10.size (fun i hi e => by omega)⟩
theorem rDo_any (D De : Nat → Prop) (i : ImV) (e : E7) (A : Option Addr) (c : Nat) (w : World) (hr : ImR w D i) (hrd : RdB w De A e.data) (hdc : e.data.length ≤ c) (hcm : c ≤ 9223372036854775807) :
    Calls Try.prog 22 #[.agg (imA i), enV e A c] w fun x w' => ∃ j : ImV, x = .returned (.tuple #[.agg (imA j), .int .i64 (doP i.p e).2.1, .int .i64 (doP i.p e).2.2]) ∧ j.p = (doP i.p e).1 ∧ ImR w' (fun _ => True) j ∧ Below w.heap.size w w' := by
  cases hm : mayI i.p
  · exact rDo_a D De i e A c w hr hrd hdc hcm hm
  cases hme : mayE e
  · exact rDo_b D De i e A c w hr hrd hdc hcm hm hme
  have hp := of_decide_eq_true (show decide (mayP e) = true from hme)
  unfold mayP at hp
  rcases hp.2 with h | h | h | h | ⟨h | h, _⟩
  · exact rDo_w D De i e A c w hr hrd hdc hcm hm hme h.1
  · exact rDo_d D De i e A c w hr hrd hdc hcm hm hme h.1
  · exact rDo_r D De i e A c w hr hrd hdc hcm hm hme h.1
  · exact rDo_s D De i e A c w hr hrd hdc hcm hm hme h
  · exact rDo_x D De i e A c w hr hrd hdc hcm hm hme h
  · exact rDo_z D De i e A c w hr hrd hdc hcm hm hme h
end Go.Proofs.Ytcdodchjgadcoaa
