/- Parts of the proof, joined: AbN AbO AbP. -/
import Derived.Test.YthkeoimjjgmppaaDoorQi
import Derived.Deep.CutRange
import Derived.Deep.CutBlock
/- The document's Do: a discard, a snapshot. -/
namespace Go.Proofs.YthkeoimjjgmppaaDoor
open Go.RowKit
set_option linter.unusedVariables false
set_option maxRecDepth 100000

theorem exec_makeB {ρ : Operand → Value} {o : Oper} {l c : Operand} {w w' : World} {n : Nat} {v : Value} (ho : o.op = .makeSlice 23 l c) (hl : ρ l = .int .i64 (n : Int)) (hc : ρ c = .int .i64 (n : Int))
    (hrun : (Instr.makeSlice 23 (.int .i64 (n : Int)) (.int .i64 (n : Int))).run Tryd.prog w = .ok v w') : (execOp ρ o).run Tryd.prog w = .ok (.value v) w' := by
  unfold execOp
  simp only [ho, hl, hc, Sem.run_bind, hrun, Sem.run_pure, Result.andThen_ok]
theorem run_makeB (w : World) (n : Nat) (hn : n ≤ 1000000) : ∃ w', (Instr.makeSlice 23 (.int .i64 (n : Int)) (.int .i64 (n : Int))).run Tryd.prog w = .ok (.slice (some ⟨w.heap.size, 0, none⟩) n n) w' ∧ OwnB w' w.heap.size (.slice (some ⟨w.heap.size, 0, none⟩) n n) (List.replicate n 0) ∧ Below w.heap.size w w' := by
  obtain ⟨i, hi, hz0, hz1, hz2⟩ := info_parts infoB
  obtain ⟨w', h1, h2, h3⟩ := run_make_full (P := Tryd.prog) w w.heap.size 23 5 i _ 1 Tryd.underlying23 hi hz0 hz1 .i64 .i64 n (by rw [hz2]; omega) (by unfold maxLen; omega) (Nat.le_refl _)
  refine ⟨w', h1, ?_, ⟨h3.os, h3.tape, h3.output, h3.size, fun k hk => h3.block k hk (by simp)⟩⟩
  unfold OwnB
  simp only [List.length_replicate, List.map_replicate]
  have e : (madeCells (Value.int .u8 0).cells (n * 1)).toList = List.replicate n (cB 0) := by
    rw [Nat.mul_one]; exact toList_madeCells_one _ _
  rw [e] at h2
  exact h2
theorem exec_load_row {ρ : Operand → Value} {o : Oper} {w : World} {ty : TypeId} {x : Operand} {g : Nat} {t : TypeId} {cs : Array Value} {fs : Array Field} (ho : o.op = .load ty x) (hx : ρ x = .pointer (some ⟨g, 0, none⟩)) (hg : Blk w g t cs)
    (hu : Tryd.prog.underlying ty = some (.struct fs)) (hi : (Tryd.prog.info? ty).map (·.size) = some cs.size) : (execOp ρ o).run Tryd.prog w = .ok (.value (.agg cs)) w := by
  unfold execOp
  simp only [ho, hx, Instr.loadAt, Instr.sureAddr, Sem.run_bind, Sem.run_pure, Result.andThen_ok, run_loadVar_row w g t ty cs (0, 0) _ hg hu rfl hi]
theorem exec_store_row {ρ : Operand → Value} {o : Oper} {w : World} {ty : TypeId} {x y : Operand} {g : Nat} {t : TypeId} {old cells : Array Value} (ho : o.op = .store ty x y) (hx : ρ x = .pointer (some ⟨g, 0, none⟩)) (hy : ρ y = .agg cells) (hg : Blk w g t old)
    (hi : (Tryd.prog.info? ty).map (·.size) = some cells.size) (hold : old.size = cells.size) (h1 : cells.all (·.oneCell') = true) : (execOp ρ o).run Tryd.prog w = .ok .skip (w.setRow g cells) := by
  unfold execOp
  simp only [ho, hx, hy, Instr.storeAt, Instr.sureAddr, Sem.run_bind, Sem.run_pure, Result.andThen_ok, run_storeVar_row w g t ty old cells hg hi hold h1]
theorem OwnCp.form' {w : World} {base : Nat} {v : Value} {L : List CpV} (h : OwnCp w base v L) : ∃ A n c, v = .slice A n c ∧ Hid (n = L.length) ∧ n ≤ c ∧ c ≤ maxLen := OwnC.form' h

set_option maxHeartbeats 8000000 in
set_option maxRecDepth 100000 in
theorem rDo_d (D De : Nat → Prop) (i : ImV) (e : E7) (A : Option Addr) (c : Nat) (w : World) (hr : ImR w D i) (hrd : RdB w De A e.data) (hdc : e.data.length ≤ c) (hcm : c ≤ 9223372036854775807) (hm : mayI i.p = true) (hme : mayE e = true) (hk : e.kind = 2) :
    Calls Tryd.prog 12 #[.agg (imA i), enV e A c] w fun x w' => ∃ j : ImV, x = .returned (.tuple #[.agg (imA j), .int .i64 (doP i.p e).2.1, .int .i64 (doP i.p e).2.2]) ∧ j.p = (doP i.p e).1 ∧ ImR w' (DoD D w.heap.size) j ∧ Below w.heap.size w w' := by
  obtain ⟨hB, hE, hQ, bb, hs0⟩ := do_pre i e A c w
  have hr0 := hr.below bb
  have hck := rMay18_any D i _ hr0
  have hce := fun w => rMay_any e A c w
  have hbd := mayI_bd hm
  have hcb := copiesO_bd _ _ _ hbd.2.2.2.2
  have hp := of_decide_eq_true (show decide (mayP e) = true from hme)
  have E0 := doP_c hm hme
  rw [hm] at hck
  rw [hme] at hce
  clear hm hme
  obtain ⟨sq, ow, kd, off, len, sn, data⟩ := e
  obtain ⟨A1, d, dc, C1, S, cc, la⟩ := i
  unfold ImV.p at *
  dsimp only at *
  have hl0 : d.length ≤ 512 := hbd.1
  have hS0 : S.length ≤ 4 := by have := hbd.2.1; rw [pureC_len] at this; exact this
  have hla0 : 0 ≤ la ∧ la ≤ 100 := ⟨hbd.2.2.1, hbd.2.2.2.1⟩
  clear hbd
  unfold mayP at hp
  dsimp only at hp
  have hdl : d.length ≤ dc := hr.dl
  have hdm : dc ≤ 9223372036854775807 := hr.dm
  rw [← ids_p S, pureC_len] at E0
  have hfb := findO_bd (idsO S) sn
  rw [ids_len] at hfb
  have hfd := fun W (h : ImR W D ⟨A1, d, dc, C1, S, cc, la⟩) => rfind_any D ⟨A1, d, dc, C1, S, cc, la⟩ sn W h
  unfold imA at hfd
  dsimp only at hfd
  generalize findO (idsO S) sn = r at *
  subst hk
  replace hp : 0 ≤ off ∧ off ≤ 512 ∧ 1 ≤ len ∧ len ≤ 512 := by omega
  obtain ⟨o, rfl⟩ : ∃ o : Nat, off = o := ⟨off.toNat, by omega⟩
  obtain ⟨n, rfl⟩ : ∃ n : Nat, len = n := ⟨len.toNat, by omega⟩
  rw [if_neg (by decide), if_pos rfl, Int.toNat_natCast, Int.toNat_natCast] at E0
  unfold enV at *
  unfold imA enA zI3 at *
  dsimp only at *
  generalize hw0 : ((w.alloc (.cells #[.slice A1 d.length dc, .slice C1 S.length cc, .int .i64 la] 35)).alloc (.cells #[.int .i64 sq, .int .i64 ow, .int .i64 2, .int .i64 (o : Int), .int .i64 (n : Int), .int .i64 sn, .slice A data.length c] 32)).alloc (.cells #[.slice none 0 0, .slice none 0 0, .int .i64 0] 35) = w0 at *
  go_enter Tryd.func12, Tryd.ntmps12
  go_wp2_with first
    | (with_reducible show wpList _ _ _ _ _ _
       refine wpList_load_row rfl 35 (.tmp 2) rfl w.heap.size rfl 35 _ (0, 0) _ hB Tryd.underlying35 rfl infoIm ?_)
  refine hck.mono ?_
  clear hck hw0
  rintro e w2 ⟨rfl, b2⟩
  replace hB := hB.below b2
  replace hE := hE.below b2
  replace hQ := hQ.below b2
  replace hr0 := hr0.below b2
  replace bb := bb.thenB' b2
  clear b2
  go_wp2_with first
    | (with_reducible show wpList _ _ _ _ _ _
       refine wpList_load_row rfl 32 (.tmp 3) rfl (w.heap.size + 1) rfl 32 _ (0, 0) _ hE Tryd.underlying32 rfl infoEy ?_)
  refine (hce w2).mono ?_
  clear hce
  rintro e w3 ⟨rfl, b3⟩
  replace hB := hB.below b3
  replace hE := hE.below b3
  replace hQ := hQ.below b3
  replace hr0 := hr0.below b3
  replace bb := bb.thenB' b3
  clear b3
  have hfd := hfd w3 hr0
  have k4 := hE.cell 5
  simp at k4
  go_wp2_with first
    | (with_reducible show wpList _ _ _ _ _ _
       refine wpList_load_row rfl 35 (.tmp 2) rfl w.heap.size rfl 35 _ (0, 0) _ hB Tryd.underlying35 rfl infoIm ?_)
  refine hfd.mono ?_
  clear hfd k4
  rintro e w5 ⟨rfl, b5⟩
  replace hB := hB.below b5
  replace hE := hE.below b5
  replace hQ := hQ.below b5
  replace hr0 := hr0.below b5
  replace bb := bb.thenB' b5
  have hs5 : w.heap.size + 3 ≤ w5.heap.size := by have := bb.size; have := hQ.lt; omega
  clear b5
  have c1 := hB.cell 0
  have c2 := hB.cell 1
  have c3 := hB.cell 2
  have k1 := hE.cell 2
  have k2 := hE.cell 3
  have k3 := hE.cell 4
  have k4 := hE.cell 5
  have k5 := hE.cell 6
  simp at c1 c2 c3 k1 k2 k3 k4 k5
  by_cases h1 : (d.length : Int) < (o : Int) + (n : Int)
  focus
    rw [if_pos h1] at E0
    have E := Lib.hid E0
    clear E0
    go_wp2_with first
      | (with_reducible show wpList _ _ _ _ _ _
         refine wpList_rowB rfl 35 (.tmp 4) (.tmp 59) rfl (w.heap.size + 2) 35 _ zI3 rfl rfl hQ infoIm rfl (imA_ok ⟨none, [], 0, none, [], 0, 0⟩) ?_
         intro w4 hq4 m4)
    (try simp only [Exit.inBlock, Exit.then])
    refine bodyPost_ret (results_cell_tmp2 rfl _ _ (w.heap.size + 2) _ _ (0, 0) _ rfl hq4 Tryd.underlying35 rfl infoIm) rfl ?_
    rw [E.out]
    exact ⟨⟨none, [], 0, none, [], 0, 0⟩, rfl, rfl, zeroIm _ _, bb.thenM m4 bb.size (fun i hi e => by omega)⟩
  rw [if_neg h1] at E0
  have E := Lib.hid E0
  clear E0
  have i5 : o + n ≤ d.length := by omega
  go_upto_region 15 with fail
  clear c1 c2 c3 k1 k2 k3 k4 k5
  refine r_start (R := RG w.heap.size) (by rfl) (n := 10) (L := #[false, false, false, false, false, false, false, false, false, false]) rfl rfl ?_
  have bd : Below w5.heap.size w5 w5.drew := (Below.refl _ _).drew
  replace hB := hB.below bd
  replace hE := hE.below bd
  replace hQ := hQ.below bd
  replace hr0 := hr0.below bd
  replace bb := bb.thenB' bd
  replace hs5 : w.heap.size + 3 ≤ w5.drew.heap.size := Nat.le_trans hs5 bd.size
  clear bd
  generalize w5.drew = wd at *
  have c1 := hB.cell 0
  simp at c1
  have hge : ¬ w.heap.size + 1 = w.heap.size := by omega
  refine r_flt (RG_refl w.heap.size) 0 60 #[true, false, false, false, false, false, false, false, false, false] (by simp only [List.getElem?_toArray, List.getElem?_cons_zero]; rfl) (by rfl) (by kernel_rfl) (by kernel_rfl) (by kernel_rfl) (fun _ _ _ _ h => h) rfl (by rfl) ?_
  apply Exists.intro
  apply And.intro
  · intro W hW
    first | (go_simp; with_reducible rfl) | go_simp
  (try simp only [Act.put, List.setIfInBounds_toArray]); (try simp only [List.set_cons_succ]); (try simp only [List.set_cons_zero])
  refine r_flt (RG_refl w.heap.size) 2 62 #[true, false, true, false, false, false, false, false, false, false] (by simp only [List.getElem?_toArray, List.getElem?_cons_succ, List.getElem?_cons_zero]; rfl) (by rfl) (by kernel_rfl) (by kernel_rfl) (by kernel_rfl) (fun _ _ _ _ h => h) rfl (by rfl) ?_
  apply Exists.intro
  apply And.intro
  · intro W hW
    first | (go_simp; with_reducible rfl) | go_simp
  (try simp only [Act.put, List.setIfInBounds_toArray]); (try simp only [List.set_cons_succ]); (try simp only [List.set_cons_zero])
  refine r_flt (RG_refl w.heap.size) 3 63 #[true, false, true, true, false, false, false, false, false, false] (by simp only [List.getElem?_toArray, List.getElem?_cons_succ, List.getElem?_cons_zero]; rfl) (by rfl) (by kernel_rfl) (by kernel_rfl) (by kernel_rfl) (fun _ _ _ _ h => h) rfl (by rfl) ?_
  apply Exists.intro
  apply And.intro
  · intro W hW
    have c := (hE.mod hW hge).cell 3
    simp at c
    go_simp; rfl
  (try simp only [Act.put, List.setIfInBounds_toArray]); (try simp only [List.set_cons_succ]); (try simp only [List.set_cons_zero])
  refine r_flt (RG_refl w.heap.size) 4 64 #[true, false, true, true, true, false, false, false, false, false] (by simp only [List.getElem?_toArray, List.getElem?_cons_succ, List.getElem?_cons_zero]; rfl) (by rfl) (by kernel_rfl) (by kernel_rfl) (by kernel_rfl) (fun _ _ _ _ h => h) rfl (by rfl) ?_
  apply Exists.intro
  apply And.intro
  · intro W hW
    first | (go_simp; with_reducible rfl) | go_simp
  (try simp only [Act.put, List.setIfInBounds_toArray]); (try simp only [List.set_cons_succ]); (try simp only [List.set_cons_zero])
  refine r_flt (RG_refl w.heap.size) 5 65 #[true, false, true, true, true, true, false, false, false, false] (by simp only [List.getElem?_toArray, List.getElem?_cons_succ, List.getElem?_cons_zero]; rfl) (by rfl) (by kernel_rfl) (by kernel_rfl) (by kernel_rfl) (fun _ _ _ _ h => h) rfl (by rfl) ?_
  apply Exists.intro
  apply And.intro
  · intro W hW
    have c := (hE.mod hW hge).cell 4
    simp at c
    go_simp; rfl
  (try simp only [Act.put, List.setIfInBounds_toArray]); (try simp only [List.set_cons_succ]); (try simp only [List.set_cons_zero])
  refine r_two (RG_trans w.heap.size) 1 6 (by kernel_rfl) ?_ ?_
  ·
    refine alt_val 61 #[true, true, true, true, true, true, false, false, false, false] (by simp only [List.getElem?_toArray, List.getElem?_cons_succ, List.getElem?_cons_zero]; rfl) (by rfl) rfl (by rfl) (by go_simp; first | exact ⟨rfl, rfl⟩ | rfl) ?_ ?_
    · exact RG_refl _ _
    (try simp only [Act.put, List.setIfInBounds_toArray]); (try simp only [List.set_cons_succ]); (try simp only [List.set_cons_zero])
    refine r_one (RG_trans w.heap.size) 6 (by kernel_rfl) ?_
    obtain ⟨w6, hmk, o6, b6⟩ := run_makeB wd n (by omega)
    have hB6 := hB.below b6
    have c6 := hB6.cell 0
    simp at c6
    refine alt_val 66 #[true, true, true, true, true, true, true, false, false, false] (by simp only [List.getElem?_toArray, List.getElem?_cons_succ, List.getElem?_cons_zero]; rfl) (by rfl) rfl (by rfl) (exec_makeB rfl rfl rfl hmk) ?_ ?_
    · exact RG.of_below b6
    (try simp only [Act.put, List.setIfInBounds_toArray]); (try simp only [List.set_cons_succ]); (try simp only [List.set_cons_zero])
    refine r_one (RG_trans w.heap.size) 7 (by kernel_rfl) ?_
    refine alt_call 67 #[true, true, true, true, true, true, true, true, false, false] (by simp only [List.getElem?_toArray, List.getElem?_cons_succ, List.getElem?_cons_zero]; rfl) (by rfl) rfl (by rfl) (by go_simp; first | exact ⟨rfl, rfl⟩ | rfl) ?_
    have o6r : RdB w6 (wd.heap.size ≤ ·) (some ⟨wd.heap.size, 0, none⟩) (List.replicate n 0) := (show OwnB w6 wd.heap.size (.slice (some ⟨wd.heap.size, 0, none⟩) (List.replicate n (0 : UInt8)).length n) (List.replicate n 0) from by rw [List.length_replicate]; exact o6).rdG
    have hlc := laid18_any D _ A1 dc d o (some ⟨wd.heap.size, 0, none⟩) n (List.replicate n 0) w6 (hr0.rd.below b6) hdl hdm o6r (by rw [List.length_replicate]; exact Nat.le_refl _) (by rw [List.length_replicate]; omega) (by omega)
    rw [List.length_replicate] at hlc
    with_reducible refine hlc.mono ?_
    clear hlc
    rintro e' w9 ⟨v9, rfl, o9, b9⟩
    obtain ⟨A9, n9, c9, rfl, HN9, lx9, mx9⟩ := o9.form'
    refine ⟨_, rfl, RG.of_below b9, ?_⟩
    have hB9 := hB6.below b9
    have hQ9 := (hQ.below b6).below b9
    have bb9 := (bb.thenB' b6).thenB' b9
    have hs9 : w.heap.size + 3 ≤ w9.heap.size := Nat.le_trans hs5 (Nat.le_trans b6.size b9.size)
    have c9' := hB9.cell 0
    have f9 := hB9.frozen 0
    simp at c9'
    rw [HN9.out] at o9
    have o9' := o9.rdG
    (try simp only [Act.put, List.setIfInBounds_toArray]); (try simp only [List.set_cons_succ]); (try simp only [List.set_cons_zero])
    refine r_flt (RG_refl w.heap.size) 8 68 #[true, true, true, true, true, true, true, true, true, false] (by simp only [List.getElem?_toArray, List.getElem?_cons_succ, List.getElem?_cons_zero]; rfl) (by rfl) (by kernel_rfl) (by kernel_rfl) (by kernel_rfl) (fun _ _ _ _ h => h) rfl (by rfl) ?_
    apply Exists.intro
    apply And.intro
    · intro W hW
      first | (go_simp; with_reducible rfl) | go_simp
    (try simp only [Act.put, List.setIfInBounds_toArray]); (try simp only [List.set_cons_succ]); (try simp only [List.set_cons_zero])
    refine r_one (RG_trans w.heap.size) 9 (by kernel_rfl) ?_
    refine alt_none #[true, true, true, true, true, true, true, true, true, true] (by simp only [List.getElem?_toArray, List.getElem?_cons_succ, List.getElem?_cons_zero]; rfl) (by rfl) rfl (by rfl) (by go_simp; first | exact ⟨rfl, rfl⟩ | rfl) ?_ ?_
    · exact (Mod.refl _ _).setG 0 _
    (try simp only [Act.put, List.setIfInBounds_toArray]); (try simp only [List.set_cons_succ]); (try simp only [List.set_cons_zero])
    refine r_done (by kernel_rfl) ?_
    have m11 : Mod (· = w.heap.size) w9 (w9.setCell ⟨w.heap.size, 0, none⟩ (.slice A9 n9 c9)) := (Mod.refl _ _).setG 0 _
    have hB11 := hB9.set_ 0 (.slice A9 n9 c9)
    replace hB11 : Blk (w9.setCell ⟨w.heap.size, 0, none⟩ (.slice A9 n9 c9)) w.heap.size 35 #[.slice A9 n9 c9, .slice C1 S.length cc, .int .i64 la] := hB11
    have hQ11 := hQ9.mod m11 (by omega)
    have bb11 := bb9.thenM m11 bb9.size (fun i hi e => by omega)
    have o11 := Rd.mod o9' m11 (fun b hb e => by have := b6.size; omega)
    generalize w9.setCell ⟨w.heap.size, 0, none⟩ (.slice A9 n9 c9) = w11 at *
    have hs6 : w.heap.size + 3 ≤ w6.heap.size := Nat.le_trans hs5 b6.size
    clear hB9 hQ9 bb9 m11 c9' f9 o9' o9 b9 b6 o6 hmk hB6 c6 c1 hB hE hQ bb hr0
    rw [HN9.out] at hB11
    generalize hdn : laidO d o (List.replicate n 0) = dn at *
    have HDN := Lib.hid hdn
    clear hdn
    go_wp2_with first
      | (with_reducible show wpList _ _ _ _ _ _
         refine wpList_load_row rfl 35 (.tmp 2) rfl w.heap.size rfl 35 _ (0, 0) _ hB11 Tryd.underlying35 rfl infoIm ?_)
      | (with_reducible show wpList _ _ _ _ _ _
         refine wpList_rowB rfl 35 (.tmp 4) (.tmp 147) rfl (w.heap.size + 2) 35 _ (imA ⟨A9, dn, c9, C1, S, cc, la⟩) rfl rfl hQ11 infoIm rfl (imA_ok _) ?_
         intro w9 hq9 m9)
    (try simp only [Exit.inBlock, Exit.then])
    refine bodyPost_ret (results_cell_tmp2 rfl _ _ (w.heap.size + 2) _ _ (0, 0) _ rfl hq9 Tryd.underlying35 rfl infoIm) rfl ?_
    rw [E.out]
    exact ⟨⟨A9, dn, c9, C1, S, cc, la⟩, rfl, by rw [← HDN.out], hr.setD (bb11.thenM m9 bb11.size (fun i hi e => by omega)) (Rd.mod o11 m9 (fun b hb e => by have := hb; omega)) (by rw [← HN9.out]; exact lx9) (by unfold maxLen at mx9; omega) (fun b hb => .inr (by first | (have := hb.1; omega) | (have := hb; omega))), bb11.thenM m9 bb11.size (fun i hi e => by omega)⟩
  ·
    obtain ⟨w6, hmk, o6, b6⟩ := run_makeB wd n (by omega)
    have hB6 := hB.below b6
    have c6 := hB6.cell 0
    simp at c6
    refine alt_val 66 #[true, false, true, true, true, true, true, false, false, false] (by simp only [List.getElem?_toArray, List.getElem?_cons_succ, List.getElem?_cons_zero]; rfl) (by rfl) rfl (by rfl) (exec_makeB rfl rfl rfl hmk) ?_ ?_
    · exact RG.of_below b6
    (try simp only [Act.put, List.setIfInBounds_toArray]); (try simp only [List.set_cons_succ]); (try simp only [List.set_cons_zero])
    refine r_one (RG_trans w.heap.size) 1 (by kernel_rfl) ?_
    refine alt_val 61 #[true, true, true, true, true, true, true, false, false, false] (by simp only [List.getElem?_toArray, List.getElem?_cons_succ, List.getElem?_cons_zero]; rfl) (by rfl) rfl (by rfl) (by go_simp; first | exact ⟨rfl, rfl⟩ | rfl) ?_ ?_
    · exact RG_refl _ _
    (try simp only [Act.put, List.setIfInBounds_toArray]); (try simp only [List.set_cons_succ]); (try simp only [List.set_cons_zero])
    refine r_one (RG_trans w.heap.size) 7 (by kernel_rfl) ?_
    refine alt_call 67 #[true, true, true, true, true, true, true, true, false, false] (by simp only [List.getElem?_toArray, List.getElem?_cons_succ, List.getElem?_cons_zero]; rfl) (by rfl) rfl (by rfl) (by go_simp; first | exact ⟨rfl, rfl⟩ | rfl) ?_
    have o6r : RdB w6 (wd.heap.size ≤ ·) (some ⟨wd.heap.size, 0, none⟩) (List.replicate n 0) := (show OwnB w6 wd.heap.size (.slice (some ⟨wd.heap.size, 0, none⟩) (List.replicate n (0 : UInt8)).length n) (List.replicate n 0) from by rw [List.length_replicate]; exact o6).rdG
    have hlc := laid18_any D _ A1 dc d o (some ⟨wd.heap.size, 0, none⟩) n (List.replicate n 0) w6 (hr0.rd.below b6) hdl hdm o6r (by rw [List.length_replicate]; exact Nat.le_refl _) (by rw [List.length_replicate]; omega) (by omega)
    rw [List.length_replicate] at hlc
    with_reducible refine hlc.mono ?_
    clear hlc
    rintro e' w9 ⟨v9, rfl, o9, b9⟩
    obtain ⟨A9, n9, c9, rfl, HN9, lx9, mx9⟩ := o9.form'
    refine ⟨_, rfl, RG.of_below b9, ?_⟩
    have hB9 := hB6.below b9
    have hQ9 := (hQ.below b6).below b9
    have bb9 := (bb.thenB' b6).thenB' b9
    have hs9 : w.heap.size + 3 ≤ w9.heap.size := Nat.le_trans hs5 (Nat.le_trans b6.size b9.size)
    have c9' := hB9.cell 0
    have f9 := hB9.frozen 0
    simp at c9'
    rw [HN9.out] at o9
    have o9' := o9.rdG
    (try simp only [Act.put, List.setIfInBounds_toArray]); (try simp only [List.set_cons_succ]); (try simp only [List.set_cons_zero])
    refine r_flt (RG_refl w.heap.size) 8 68 #[true, true, true, true, true, true, true, true, true, false] (by simp only [List.getElem?_toArray, List.getElem?_cons_succ, List.getElem?_cons_zero]; rfl) (by rfl) (by kernel_rfl) (by kernel_rfl) (by kernel_rfl) (fun _ _ _ _ h => h) rfl (by rfl) ?_
    apply Exists.intro
    apply And.intro
    · intro W hW
      first | (go_simp; with_reducible rfl) | go_simp
    (try simp only [Act.put, List.setIfInBounds_toArray]); (try simp only [List.set_cons_succ]); (try simp only [List.set_cons_zero])
    refine r_one (RG_trans w.heap.size) 9 (by kernel_rfl) ?_
    refine alt_none #[true, true, true, true, true, true, true, true, true, true] (by simp only [List.getElem?_toArray, List.getElem?_cons_succ, List.getElem?_cons_zero]; rfl) (by rfl) rfl (by rfl) (by go_simp; first | exact ⟨rfl, rfl⟩ | rfl) ?_ ?_
    · exact (Mod.refl _ _).setG 0 _
    (try simp only [Act.put, List.setIfInBounds_toArray]); (try simp only [List.set_cons_succ]); (try simp only [List.set_cons_zero])
    refine r_done (by kernel_rfl) ?_
    have m11 : Mod (· = w.heap.size) w9 (w9.setCell ⟨w.heap.size, 0, none⟩ (.slice A9 n9 c9)) := (Mod.refl _ _).setG 0 _
    have hB11 := hB9.set_ 0 (.slice A9 n9 c9)
    replace hB11 : Blk (w9.setCell ⟨w.heap.size, 0, none⟩ (.slice A9 n9 c9)) w.heap.size 35 #[.slice A9 n9 c9, .slice C1 S.length cc, .int .i64 la] := hB11
    have hQ11 := hQ9.mod m11 (by omega)
    have bb11 := bb9.thenM m11 bb9.size (fun i hi e => by omega)
    have o11 := Rd.mod o9' m11 (fun b hb e => by have := b6.size; omega)
    generalize w9.setCell ⟨w.heap.size, 0, none⟩ (.slice A9 n9 c9) = w11 at *
    have hs6 : w.heap.size + 3 ≤ w6.heap.size := Nat.le_trans hs5 b6.size
    clear hB9 hQ9 bb9 m11 c9' f9 o9' o9 b9 b6 o6 hmk hB6 c6 c1 hB hE hQ bb hr0
    rw [HN9.out] at hB11
    generalize hdn : laidO d o (List.replicate n 0) = dn at *
    have HDN := Lib.hid hdn
    clear hdn
    go_wp2_with first
      | (with_reducible show wpList _ _ _ _ _ _
         refine wpList_load_row rfl 35 (.tmp 2) rfl w.heap.size rfl 35 _ (0, 0) _ hB11 Tryd.underlying35 rfl infoIm ?_)
      | (with_reducible show wpList _ _ _ _ _ _
         refine wpList_rowB rfl 35 (.tmp 4) (.tmp 147) rfl (w.heap.size + 2) 35 _ (imA ⟨A9, dn, c9, C1, S, cc, la⟩) rfl rfl hQ11 infoIm rfl (imA_ok _) ?_
         intro w9 hq9 m9)
    (try simp only [Exit.inBlock, Exit.then])
    refine bodyPost_ret (results_cell_tmp2 rfl _ _ (w.heap.size + 2) _ _ (0, 0) _ rfl hq9 Tryd.underlying35 rfl infoIm) rfl ?_
    rw [E.out]
    exact ⟨⟨A9, dn, c9, C1, S, cc, la⟩, rfl, by rw [← HDN.out], hr.setD (bb11.thenM m9 bb11.size (fun i hi e => by omega)) (Rd.mod o11 m9 (fun b hb e => by have := hb; omega)) (by rw [← HN9.out]; exact lx9) (by unfold maxLen at mx9; omega) (fun b hb => .inr (by first | (have := hb.1; omega) | (have := hb; omega))), bb11.thenM m9 bb11.size (fun i hi e => by omega)⟩

set_option maxHeartbeats 8000000 in
set_option maxRecDepth 100000 in
theorem rDo_s (D De : Nat → Prop) (i : ImV) (e : E7) (A : Option Addr) (c : Nat) (w : World) (hr : ImR w D i) (hrd : RdB w De A e.data) (hdc : e.data.length ≤ c) (hcm : c ≤ 9223372036854775807) (hm : mayI i.p = true) (hme : mayE e = true) (hk : e.kind = 4) :
    Calls Tryd.prog 12 #[.agg (imA i), enV e A c] w fun x w' => ∃ j : ImV, x = .returned (.tuple #[.agg (imA j), .int .i64 (doP i.p e).2.1, .int .i64 (doP i.p e).2.2]) ∧ j.p = (doP i.p e).1 ∧ ImR w' (DoD D w.heap.size) j ∧ Below w.heap.size w w' := by
  obtain ⟨hB, hE, hQ, bb, hs0⟩ := do_pre i e A c w
  have hr0 := hr.below bb
  have hck := rMay18_any D i _ hr0
  have hce := fun w => rMay_any e A c w
  have hbd := mayI_bd hm
  have hcb := copiesO_bd _ _ _ hbd.2.2.2.2
  have hp := of_decide_eq_true (show decide (mayP e) = true from hme)
  have E0 := doP_c hm hme
  rw [hm] at hck
  rw [hme] at hce
  clear hm hme
  obtain ⟨sq, ow, kd, off, len, sn, data⟩ := e
  obtain ⟨A1, d, dc, C1, S, cc, la⟩ := i
  unfold ImV.p at *
  dsimp only at *
  have hl0 : d.length ≤ 512 := hbd.1
  have hS0 : S.length ≤ 4 := by have := hbd.2.1; rw [pureC_len] at this; exact this
  have hla0 : 0 ≤ la ∧ la ≤ 100 := ⟨hbd.2.2.1, hbd.2.2.2.1⟩
  clear hbd
  unfold mayP at hp
  dsimp only at hp
  have hdl : d.length ≤ dc := hr.dl
  have hdm : dc ≤ 9223372036854775807 := hr.dm
  rw [← ids_p S, pureC_len] at E0
  have hfb := findO_bd (idsO S) sn
  rw [ids_len] at hfb
  have hfd := fun W (h : ImR W D ⟨A1, d, dc, C1, S, cc, la⟩) => rfind_any D ⟨A1, d, dc, C1, S, cc, la⟩ sn W h
  unfold imA at hfd
  dsimp only at hfd
  generalize findO (idsO S) sn = r at *
  subst hk
  clear hp
  rw [if_neg (by decide), if_neg (by decide), if_neg (by decide), if_pos rfl] at E0
  unfold enV at *
  unfold imA enA zI3 at *
  dsimp only at *
  generalize hw0 : ((w.alloc (.cells #[.slice A1 d.length dc, .slice C1 S.length cc, .int .i64 la] 35)).alloc (.cells #[.int .i64 sq, .int .i64 ow, .int .i64 4, .int .i64 off, .int .i64 len, .int .i64 sn, .slice A data.length c] 32)).alloc (.cells #[.slice none 0 0, .slice none 0 0, .int .i64 0] 35) = w0 at *
  go_enter Tryd.func12, Tryd.ntmps12
  go_wp2_with first
    | (with_reducible show wpList _ _ _ _ _ _
       refine wpList_load_row rfl 35 (.tmp 2) rfl w.heap.size rfl 35 _ (0, 0) _ hB Tryd.underlying35 rfl infoIm ?_)
  refine hck.mono ?_
  clear hck hw0
  rintro e w2 ⟨rfl, b2⟩
  replace hB := hB.below b2
  replace hE := hE.below b2
  replace hQ := hQ.below b2
  replace hr0 := hr0.below b2
  replace bb := bb.thenB' b2
  clear b2
  go_wp2_with first
    | (with_reducible show wpList _ _ _ _ _ _
       refine wpList_load_row rfl 32 (.tmp 3) rfl (w.heap.size + 1) rfl 32 _ (0, 0) _ hE Tryd.underlying32 rfl infoEy ?_)
  refine (hce w2).mono ?_
  clear hce
  rintro e w3 ⟨rfl, b3⟩
  replace hB := hB.below b3
  replace hE := hE.below b3
  replace hQ := hQ.below b3
  replace hr0 := hr0.below b3
  replace bb := bb.thenB' b3
  clear b3
  have hfd := hfd w3 hr0
  have k4 := hE.cell 5
  simp at k4
  go_wp2_with first
    | (with_reducible show wpList _ _ _ _ _ _
       refine wpList_load_row rfl 35 (.tmp 2) rfl w.heap.size rfl 35 _ (0, 0) _ hB Tryd.underlying35 rfl infoIm ?_)
  refine hfd.mono ?_
  clear hfd k4
  rintro e w5 ⟨rfl, b5⟩
  replace hB := hB.below b5
  replace hE := hE.below b5
  replace hQ := hQ.below b5
  replace hr0 := hr0.below b5
  replace bb := bb.thenB' b5
  have hs5 : w.heap.size + 3 ≤ w5.heap.size := by have := bb.size; have := hQ.lt; omega
  clear b5
  have c1 := hB.cell 0
  have c2 := hB.cell 1
  have c3 := hB.cell 2
  have k1 := hE.cell 2
  have k2 := hE.cell 3
  have k3 := hE.cell 4
  have k4 := hE.cell 5
  have k5 := hE.cell 6
  simp at c1 c2 c3 k1 k2 k3 k4 k5
  by_cases h1 : 4 ≤ S.length ∨ 100 ≤ la
  focus
    rw [if_pos h1] at E0
    have E := Lib.hid E0
    clear E0
    by_cases h2 : (4 : Int) ≤ (S.length : Int)
    focus
      clear h1
      go_wp2_with first
        | (with_reducible show wpList _ _ _ _ _ _
           refine wpList_rowB rfl 35 (.tmp 4) (.tmp 93) rfl (w.heap.size + 2) 35 _ zI3 rfl rfl hQ infoIm rfl (imA_ok ⟨none, [], 0, none, [], 0, 0⟩) ?_
           intro w4 hq4 m4)
      (try simp only [Exit.inBlock, Exit.then])
      refine bodyPost_ret (results_cell_tmp2 rfl _ _ (w.heap.size + 2) _ _ (0, 0) _ rfl hq4 Tryd.underlying35 rfl infoIm) rfl ?_
      rw [E.out]
      exact ⟨⟨none, [], 0, none, [], 0, 0⟩, rfl, rfl, zeroIm _ _, bb.thenM m4 bb.size (fun i hi e => by omega)⟩
    have h3 : (100 : Int) ≤ la := by omega
    clear h1
    go_wp2_with first
      | (with_reducible show wpList _ _ _ _ _ _
         refine wpList_rowB rfl 35 (.tmp 4) (.tmp 93) rfl (w.heap.size + 2) 35 _ zI3 rfl rfl hQ infoIm rfl (imA_ok ⟨none, [], 0, none, [], 0, 0⟩) ?_
         intro w4 hq4 m4)
    (try simp only [Exit.inBlock, Exit.then])
    refine bodyPost_ret (results_cell_tmp2 rfl _ _ (w.heap.size + 2) _ _ (0, 0) _ rfl hq4 Tryd.underlying35 rfl infoIm) rfl ?_
    rw [E.out]
    exact ⟨⟨none, [], 0, none, [], 0, 0⟩, rfl, rfl, zeroIm _ _, bb.thenM m4 bb.size (fun i hi e => by omega)⟩
  rw [if_neg h1] at E0
  have E := Lib.hid E0
  clear E0
  have h2 : ¬ (4 : Int) ≤ (S.length : Int) := by omega
  have h3 : ¬ (100 : Int) ≤ la := by omega
  have h4 : 0 ≤ la := hla0.1
  clear h1
  go_upto_region 26 with first
    | (with_reducible show wpList _ _ _ _ _ _
       refine wpList_fldB rfl 3 (.tmp 97) (.tmp 96) rfl w.heap.size 2 35 _ (.int .i64 (la + 1)) rfl rfl rfl infoN1 hB 3 rfl (by decide) ?_
       intro w6 hB6 m6
       replace hB6 : Blk w6 w.heap.size 35 #[.slice A1 d.length dc, .slice C1 S.length cc, .int .i64 (la + 1)] := hB6)
  have hQ6 := hQ.mod m6 (by omega)
  have bb6 := bb.thenM m6 bb.size (fun i hi e => by omega)
  have hs6 : w.heap.size + 3 ≤ w6.heap.size := by have := m6.size; omega
  have rl := RdL.below hr.rS bb6
  dsimp only at rl
  clear c1 c2 c3 k1 k2 k3 k4 k5
  clear hB hE hQ bb m6 hr0
  have c2 := hB6.cell 1
  simp at c2
  go_upto_region 27 with first
    | (with_reducible show wpList _ _ _ _ _ _
       refine wpList_appCp rfl (.tmp 98) (.tmp 100) rfl w6.heap.size (.slice none 0 0) [] S rfl OwnC.nil D C1 S.length cc rfl rfl (RdL.flatC cpC_len rl) (by simp; omega) (Nat.le_refl _) ?_
       intro v7 w7 o7 x7)
  have b7 : Below w6.heap.size w6 w7 := Ext.of_nil x7
  have hB7 := hB6.below b7
  have hQ7 := hQ6.below b7
  have bb7 := bb6.thenB' b7
  have bn := below_new w7 (.cells #[.int .i64 (la + 1), .slice A1 d.length dc] 71)
  have hs7 := b7.size
  clear c2 x7
  have c1 := hB7.cell 0
  have c3 := hB7.cell 2
  simp at c1 c3
  go_upto_region 28 with first
    | (with_reducible show wpList _ _ _ _ _ _
       refine wpList_appCp rfl (.tmp 102) (.tmp 108) rfl w6.heap.size v7 ([] ++ S) [⟨la + 1, A1, d, dc⟩] rfl (OwnC.below o7 bn) (· = w7.heap.size) (some ⟨w7.heap.size, 0, none⟩) 1 1 rfl rfl (rd_newCp w7 ⟨la + 1, A1, d, dc⟩) (by simp; omega) (Nat.le_trans hs7 bn.size) ?_
       intro v8 w8 o8 x8)
  have b8 : Below w6.heap.size w6 w8 := (b7.trans ⟨bn.os, bn.tape, bn.output, bn.size, fun k hk => bn.block k (by omega)⟩).trans (x8.below (OwnC.below o7 bn) (Nat.le_refl _) (Nat.le_trans hs7 bn.size))
  obtain ⟨C9, n9, c9, rfl, HN9, l9, mx9⟩ := OwnCp.form' o8
  have hB8 := hB6.below b8
  have hQ8 := hQ6.below b8
  have bb8 := bb6.thenB' b8
  have rl8 := OwnCp.rd o8
  rw [List.nil_append] at rl8 HN9
  clear hB6 hQ6 bb6 hB7 hQ7 bb7 o7 o8 x8 bn b7 b8 c1 c3 rl
  go_upto_region 29 with first
    | (with_reducible show wpList _ _ _ _ _ _
       refine wpList_fldB rfl 33 (.tmp 111) (.tmp 110) rfl w.heap.size 1 35 _ (.slice C9 n9 c9) rfl rfl rfl infoC1 hB8 3 rfl (by decide) ?_
       intro w9 hB9 m9
       replace hB9 : Blk w9 w.heap.size 35 #[.slice A1 d.length dc, .slice C9 n9 c9, .int .i64 (la + 1)] := hB9)
  have hQ9 := hQ8.mod m9 (by omega)
  have bb9 := bb8.thenM m9 bb8.size (fun i hi e => by omega)
  have rl9 := RdL.mod rl8 m9 (fun b hb e => by have := hb.1; omega)
  clear hB8 hQ8 bb8 rl8 m9
  refine r_start (R := RG (w.heap.size + 2)) (by rfl) (n := 6) (L := #[false, false, false, false, false, false]) rfl rfl ?_
  have bd : Below w9.heap.size w9 w9.drew := (Below.refl _ _).drew
  replace hB9 := hB9.below bd
  replace hQ9 := hQ9.below bd
  replace bb9 := bb9.thenB' bd
  replace rl9 := RdL.below rl9 bd
  clear bd
  generalize w9.drew = wd at *
  have hq12 : ¬ w.heap.size = w.heap.size + 2 := by omega
  refine r_flt (RG_refl (w.heap.size + 2)) 0 112 #[true, false, false, false, false, false] (by simp only [List.getElem?_toArray, List.getElem?_cons_zero]; rfl) (by rfl) (by kernel_rfl) (by kernel_rfl) (by kernel_rfl) (fun _ _ _ _ h => h) rfl (by rfl) ?_
  apply Exists.intro
  apply And.intro
  · intro W hW
    exact exec_load_row rfl rfl (hB9.mod hW hq12) Tryd.underlying35 infoIm
  (try simp only [Act.put, List.setIfInBounds_toArray]); (try simp only [List.set_cons_succ]); (try simp only [List.set_cons_zero])
  refine r_flt (RG_refl (w.heap.size + 2)) 1 113 #[true, true, false, false, false, false] (by simp only [List.getElem?_toArray, List.getElem?_cons_succ, List.getElem?_cons_zero]; rfl) (by rfl) (by kernel_rfl) (by kernel_rfl) (by kernel_rfl) (fun _ _ _ _ h => h) rfl (by rfl) ?_
  apply Exists.intro
  apply And.intro
  · intro W hW
    first | (go_simp; with_reducible rfl) | go_simp
  (try simp only [Act.put, List.setIfInBounds_toArray]); (try simp only [List.set_cons_succ]); (try simp only [List.set_cons_zero])
  refine r_flt (RG_refl (w.heap.size + 2)) 2 114 #[true, true, true, false, false, false] (by simp only [List.getElem?_toArray, List.getElem?_cons_succ, List.getElem?_cons_zero]; rfl) (by rfl) (by kernel_rfl) (by kernel_rfl) (by kernel_rfl) (fun _ _ _ _ h => h) rfl (by rfl) ?_
  apply Exists.intro
  apply And.intro
  · intro W hW
    have c := (hB9.mod hW hq12).cell 2
    simp at c
    go_simp; rfl
  (try simp only [Act.put, List.setIfInBounds_toArray]); (try simp only [List.set_cons_succ]); (try simp only [List.set_cons_zero])
  refine r_one (RG_trans (w.heap.size + 2)) 3 (by kernel_rfl) ?_
  refine alt_none #[true, true, true, true, false, false] (by simp only [List.getElem?_toArray, List.getElem?_cons_succ, List.getElem?_cons_zero]; rfl) (by rfl) rfl (by rfl) (exec_store_row (cells := #[.slice A1 d.length dc, .slice C9 n9 c9, .int .i64 (la + 1)]) rfl rfl rfl hQ9 infoIm rfl (by simp [Value.oneCell'])) ?_ ?_
  · exact mod_setRow _
  (try simp only [Act.put, List.setIfInBounds_toArray]); (try simp only [List.set_cons_succ]); (try simp only [List.set_cons_zero])
  refine r_flt (RG_refl (w.heap.size + 2)) 4 5 #[true, true, true, true, true, false] (by simp only [List.getElem?_toArray, List.getElem?_cons_succ, List.getElem?_cons_zero]; rfl) (by rfl) (by kernel_rfl) (by kernel_rfl) (by kernel_rfl) (fun _ _ _ _ h => h) rfl (by rfl) ?_
  apply Exists.intro
  apply And.intro
  · intro W hW
    first | (go_simp; with_reducible rfl) | go_simp
  (try simp only [Act.put, List.setIfInBounds_toArray]); (try simp only [List.set_cons_succ]); (try simp only [List.set_cons_zero])
  refine r_flt (RG_refl (w.heap.size + 2)) 5 6 #[true, true, true, true, true, true] (by simp only [List.getElem?_toArray, List.getElem?_cons_succ, List.getElem?_cons_zero]; rfl) (by rfl) (by kernel_rfl) (by kernel_rfl) (by kernel_rfl) (fun _ _ _ _ h => h) rfl (by rfl) ?_
  apply Exists.intro
  apply And.intro
  · intro W hW
    first | (go_simp; with_reducible rfl) | go_simp
  (try simp only [Act.put, List.setIfInBounds_toArray]); (try simp only [List.set_cons_succ]); (try simp only [List.set_cons_zero])
  refine r_done (by kernel_rfl) ?_
  go_wp2_with fail
  (try simp only [Exit.inBlock, Exit.then])
  refine bodyPost_ret (results_cell_tmp2 rfl _ _ (w.heap.size + 2) _ _ (0, 0) _ rfl (setRow_heap _ _ _ _ _ _ hQ9) Tryd.underlying35 rfl infoIm) rfl ?_
  rw [E.out]
  have m11 : Mod (· = w.heap.size + 2) wd (wd.setRow (w.heap.size + 2) #[.slice A1 d.length dc, .slice C9 n9 c9, .int .i64 (la + 1)]) := mod_setRow _
  have bb11 := bb9.thenM m11 bb9.size (fun i hi e => by omega)
  refine ⟨⟨A1, d, dc, C9, S ++ [⟨la + 1, A1, d, dc⟩], c9, la + 1⟩, by rw [HN9.out]; rfl, ?_, ?_, bb11⟩
  · show PI.mk d (pureC (S ++ [_])) (la + 1) = _
    unfold pureC
    rw [List.map_append]
    rfl
  · refine hr.setS bb11 (rl9.mod m11 fun b hb e => by have := hb.1; omega) (by rw [← HN9.out]; exact l9) (by unfold maxLen at mx9; omega) (fun b hb => .inr (by first | (have := hb.1; omega) | (have := hb; omega))) (fun s hs => ?_) (la + 1)
    rcases List.mem_append.1 hs with hs | hs
    · exact ((hr.cp s hs).below bb11).imp fun _ _ hb => .inl hb
    · rw [List.mem_singleton.1 hs]
      exact ⟨Rd.imp (RdB.below hr.rd bb11) (fun _ _ hb => .inl hb) (by decide), hdl, hdm⟩
end Go.Proofs.YthkeoimjjgmppaaDoor

/- The document's Do: a drop, back to a snapshot; any operation. -/
namespace Go.Proofs.YthkeoimjjgmppaaDoor
open Go.RowKit
set_option linter.unusedVariables false
set_option maxRecDepth 100000

set_option maxHeartbeats 8000000 in
set_option maxRecDepth 100000 in
theorem rDo_x (D De : Nat → Prop) (i : ImV) (e : E7) (A : Option Addr) (c : Nat) (w : World) (hr : ImR w D i) (hrd : RdB w De A e.data) (hdc : e.data.length ≤ c) (hcm : c ≤ 9223372036854775807) (hm : mayI i.p = true) (hme : mayE e = true) (hk : e.kind = 5) :
    Calls Tryd.prog 12 #[.agg (imA i), enV e A c] w fun x w' => ∃ j : ImV, x = .returned (.tuple #[.agg (imA j), .int .i64 (doP i.p e).2.1, .int .i64 (doP i.p e).2.2]) ∧ j.p = (doP i.p e).1 ∧ ImR w' (DoD D w.heap.size) j ∧ Below w.heap.size w w' := by
  obtain ⟨hB, hE, hQ, bb, hs0⟩ := do_pre i e A c w
  have hr0 := hr.below bb
  have hck := rMay18_any D i _ hr0
  have hce := fun w => rMay_any e A c w
  have hbd := mayI_bd hm
  have hcb := copiesO_bd _ _ _ hbd.2.2.2.2
  have hp := of_decide_eq_true (show decide (mayP e) = true from hme)
  have E0 := doP_c hm hme
  rw [hm] at hck
  rw [hme] at hce
  clear hm hme
  obtain ⟨sq, ow, kd, off, len, sn, data⟩ := e
  obtain ⟨A1, d, dc, C1, S, cc, la⟩ := i
  unfold ImV.p at *
  dsimp only at *
  have hl0 : d.length ≤ 512 := hbd.1
  have hS0 : S.length ≤ 4 := by have := hbd.2.1; rw [pureC_len] at this; exact this
  have hla0 : 0 ≤ la ∧ la ≤ 100 := ⟨hbd.2.2.1, hbd.2.2.2.1⟩
  clear hbd
  unfold mayP at hp
  dsimp only at hp
  have hdl : d.length ≤ dc := hr.dl
  have hdm : dc ≤ 9223372036854775807 := hr.dm
  rw [← ids_p S, pureC_len] at E0
  have hfb := findO_bd (idsO S) sn
  rw [ids_len] at hfb
  have hfd := fun W (h : ImR W D ⟨A1, d, dc, C1, S, cc, la⟩) => rfind_any D ⟨A1, d, dc, C1, S, cc, la⟩ sn W h
  unfold imA at hfd
  dsimp only at hfd
  generalize findO (idsO S) sn = r at *
  subst hk
  clear hp
  rw [if_neg (by decide), if_neg (by decide), if_neg (by decide), if_neg (by decide)] at E0
  unfold enV at *
  unfold imA enA zI3 at *
  dsimp only at *
  generalize hw0 : ((w.alloc (.cells #[.slice A1 d.length dc, .slice C1 S.length cc, .int .i64 la] 35)).alloc (.cells #[.int .i64 sq, .int .i64 ow, .int .i64 5, .int .i64 off, .int .i64 len, .int .i64 sn, .slice A data.length c] 32)).alloc (.cells #[.slice none 0 0, .slice none 0 0, .int .i64 0] 35) = w0 at *
  go_enter Tryd.func12, Tryd.ntmps12
  go_wp2_with first
    | (with_reducible show wpList _ _ _ _ _ _
       refine wpList_load_row rfl 35 (.tmp 2) rfl w.heap.size rfl 35 _ (0, 0) _ hB Tryd.underlying35 rfl infoIm ?_)
  refine hck.mono ?_
  clear hck hw0
  rintro e w2 ⟨rfl, b2⟩
  replace hB := hB.below b2
  replace hE := hE.below b2
  replace hQ := hQ.below b2
  replace hr0 := hr0.below b2
  replace bb := bb.thenB' b2
  clear b2
  go_wp2_with first
    | (with_reducible show wpList _ _ _ _ _ _
       refine wpList_load_row rfl 32 (.tmp 3) rfl (w.heap.size + 1) rfl 32 _ (0, 0) _ hE Tryd.underlying32 rfl infoEy ?_)
  refine (hce w2).mono ?_
  clear hce
  rintro e w3 ⟨rfl, b3⟩
  replace hB := hB.below b3
  replace hE := hE.below b3
  replace hQ := hQ.below b3
  replace hr0 := hr0.below b3
  replace bb := bb.thenB' b3
  clear b3
  have hfd := hfd w3 hr0
  have k4 := hE.cell 5
  simp at k4
  go_wp2_with first
    | (with_reducible show wpList _ _ _ _ _ _
       refine wpList_load_row rfl 35 (.tmp 2) rfl w.heap.size rfl 35 _ (0, 0) _ hB Tryd.underlying35 rfl infoIm ?_)
  refine hfd.mono ?_
  clear hfd k4
  rintro e w5 ⟨rfl, b5⟩
  replace hB := hB.below b5
  replace hE := hE.below b5
  replace hQ := hQ.below b5
  replace hr0 := hr0.below b5
  replace bb := bb.thenB' b5
  have hs5 : w.heap.size + 3 ≤ w5.heap.size := by have := bb.size; have := hQ.lt; omega
  clear b5
  have c1 := hB.cell 0
  have c2 := hB.cell 1
  have c3 := hB.cell 2
  have k1 := hE.cell 2
  have k2 := hE.cell 3
  have k3 := hE.cell 4
  have k4 := hE.cell 5
  have k5 := hE.cell 6
  simp at c1 c2 c3 k1 k2 k3 k4 k5
  by_cases h1 : r < 0
  focus
    rw [if_pos h1] at E0
    have E := Lib.hid E0
    clear E0 hfb
    go_wp2_with first
      | (with_reducible show wpList _ _ _ _ _ _
         refine wpList_rowB rfl 35 (.tmp 4) (.tmp 119) rfl (w.heap.size + 2) 35 _ zI3 rfl rfl hQ infoIm rfl (imA_ok ⟨none, [], 0, none, [], 0, 0⟩) ?_
         intro w4 hq4 m4)
    (try simp only [Exit.inBlock, Exit.then])
    refine bodyPost_ret (results_cell_tmp2 rfl _ _ (w.heap.size + 2) _ _ (0, 0) _ rfl hq4 Tryd.underlying35 rfl infoIm) rfl ?_
    rw [E.out]
    exact ⟨⟨none, [], 0, none, [], 0, 0⟩, rfl, rfl, zeroIm _ _, bb.thenM m4 bb.size (fun i hi e => by omega)⟩
  rw [if_neg h1] at E0
  obtain ⟨k, rfl⟩ : ∃ k : Nat, r = (k : Int) := ⟨r.toNat, by omega⟩
  rw [Int.toNat_natCast] at E0
  have hk : k < S.length := by omega
  have h2 : ¬ (k : Int) < 0 := h1
  have h3 : (k : Int) < (S.length : Int) := by omega
  have h4 : (S.length : Int) ≤ 4 := by omega
  clear h1 hfb
  have hsc : S.length ≤ cc := hr.sl
  have hscm : cc ≤ 9223372036854775807 := hr.sm
  rw [if_pos trivial] at E0
  have E := Lib.hid E0
  clear E0
  have rl : RdL w5 D 2 cpC C1 S := hr0.rS
  have rf := RdL.flatC cpC_len rl
  have i1 : (k : Int) ≤ (cc : Int) := by omega
  have i2 : k ≤ cc := by omega
  have i3 : (k : Int) + 1 ≤ (S.length : Int) := by omega
  have i4 : k + 1 ≤ cc := by omega
  have i5 : (S.length : Int) ≤ (cc : Int) := by omega
  clear hr0 rl
  go_upto_region 34 with fail
  go_upto_region 35 with first
    | (with_reducible show wpList _ _ _ _ _ _
       refine wpList_appCp rfl (.tmp 120) (.tmp 124) rfl w5.heap.size (.slice none 0 0) [] (S.take k) rfl OwnC.nil D C1 k cc rfl (by rw [List.length_take]; omega) (by rw [cpF_take]; exact rf.take (by omega)) (by simp; omega) (Nat.le_refl _) ?_
       intro v7 w7 o7 x7)
  have b7 : Below w5.heap.size w5 w7 := Ext.of_nil x7
  have hB7 := hB.below b7
  have hQ7 := hQ.below b7
  have hE7 := hE.below b7
  have bb7 := bb.thenB' b7
  have rf7 := rf.below b7
  clear hE x7 rf
  clear c1 c2 c3 k1 k2 k3 k4 k5
  have c2 := hB7.cell 1
  have k1 := hE7.cell 2
  simp at c2 k1
  go_upto_region 36 with first
    | (with_reducible show wpList _ _ _ _ _ _
       refine wpList_appCp rfl (.tmp 126) (.tmp 131) rfl w5.heap.size v7 ([] ++ S.take k) (S.drop (k + 1)) rfl o7 D (cutA C1 (k + 1) cc 2) (S.length - (k + 1)) (cc - (k + 1)) rfl (by rw [List.length_drop]) (by rw [cpF_drop S (k + 1) (by omega)]; exact rf7.cut (by omega) hsc) (by simp; omega) b7.size ?_
       intro v8 w8 o8 x8)
  have b58 : Below w5.heap.size w5 w8 := b7.trans (x8.below o7 (Nat.le_refl _) b7.size)
  obtain ⟨C9, n9, c9, rfl, HN9, l9, mx9⟩ := OwnCp.form' o8
  have hB8 := hB.below b58
  have hQ8 := hQ.below b58
  have bb8 := bb.thenB' b58
  have rl8 := OwnCp.rd o8
  have hSn : [] ++ S.take k ++ S.drop (k + 1) = S.eraseIdx k := by rw [List.nil_append, erase_eq]
  rw [hSn] at rl8 HN9
  clear hB hQ bb hB7 hQ7 bb7 o7 o8 x8 b7 b58 rf7 hE7 c2 k1
  generalize hSq : S.eraseIdx k = Sn at *
  have HSn := Lib.hid hSq
  clear hSq hSn
  go_upto_region 41 with first
    | (with_reducible show wpList _ _ _ _ _ _
       refine wpList_fldB rfl 33 (.tmp 134) (.tmp 133) rfl w.heap.size 1 35 _ (.slice C9 n9 c9) rfl rfl rfl infoC1 hB8 3 rfl (by decide) ?_
       intro w10 hB10 m10
       replace hB10 : Blk w10 w.heap.size 35 #[.slice A1 d.length dc, .slice C9 n9 c9, .int .i64 la] := hB10)
  have hQ10 := hQ8.mod m10 (by omega)
  have bb10 := bb8.thenM m10 bb8.size (fun i hi e => by omega)
  have rl10 := RdL.mod rl8 m10 (fun b hb e => by have := hb.1; omega)
  rw [HN9.out] at hB10
  clear hB8 hQ8 bb8 rl8 m10
  go_wp2_with first
    | (with_reducible show wpList _ _ _ _ _ _
       refine wpList_load_row rfl 35 (.tmp 2) rfl w.heap.size rfl 35 _ (0, 0) _ hB10 Tryd.underlying35 rfl infoIm ?_)
    | (with_reducible show wpList _ _ _ _ _ _
       refine wpList_rowB rfl 35 (.tmp 4) (.tmp 147) rfl (w.heap.size + 2) 35 _ (imA ⟨A1, d, dc, C9, Sn, c9, la⟩) rfl rfl hQ10 infoIm rfl (imA_ok _) ?_
       intro w9 hq9 m9)
  (try simp only [Exit.inBlock, Exit.then])
  refine bodyPost_ret (results_cell_tmp2 rfl _ _ (w.heap.size + 2) _ _ (0, 0) _ rfl hq9 Tryd.underlying35 rfl infoIm) rfl ?_
  rw [E.out]
  exact ⟨⟨A1, d, dc, C9, Sn, c9, la⟩, rfl, by show PI.mk d (pureC Sn) la = _; rw [← HSn.out, pureC_erase], hr.setS (bb10.thenM m9 bb10.size (fun i hi e => by omega)) (rl10.mod m9 fun b hb e => by have := hb.1; omega) (by rw [← HN9.out]; exact l9) (by unfold maxLen at mx9; omega) (fun b hb => .inr (by first | (have := hb.1; omega) | (have := hb; omega))) (fun s hs => ((hr.cp s (List.mem_of_mem_eraseIdx (by rw [HSn.out]; exact hs))).below (bb10.thenM m9 bb10.size (fun i hi e => by omega))).imp fun _ _ hb => .inl hb) la, bb10.thenM m9 bb10.size (fun i hi e => by omega)⟩

set_option maxHeartbeats 8000000 in
set_option maxRecDepth 100000 in
theorem rDo_z (D De : Nat → Prop) (i : ImV) (e : E7) (A : Option Addr) (c : Nat) (w : World) (hr : ImR w D i) (hrd : RdB w De A e.data) (hdc : e.data.length ≤ c) (hcm : c ≤ 9223372036854775807) (hm : mayI i.p = true) (hme : mayE e = true) (hk : e.kind = 6) :
    Calls Tryd.prog 12 #[.agg (imA i), enV e A c] w fun x w' => ∃ j : ImV, x = .returned (.tuple #[.agg (imA j), .int .i64 (doP i.p e).2.1, .int .i64 (doP i.p e).2.2]) ∧ j.p = (doP i.p e).1 ∧ ImR w' (DoD D w.heap.size) j ∧ Below w.heap.size w w' := by
  obtain ⟨hB, hE, hQ, bb, hs0⟩ := do_pre i e A c w
  have hr0 := hr.below bb
  have hck := rMay18_any D i _ hr0
  have hce := fun w => rMay_any e A c w
  have hbd := mayI_bd hm
  have hcb := copiesO_bd _ _ _ hbd.2.2.2.2
  have hp := of_decide_eq_true (show decide (mayP e) = true from hme)
  have E0 := doP_c hm hme
  rw [hm] at hck
  rw [hme] at hce
  clear hm hme
  obtain ⟨sq, ow, kd, off, len, sn, data⟩ := e
  obtain ⟨A1, d, dc, C1, S, cc, la⟩ := i
  unfold ImV.p at *
  dsimp only at *
  have hl0 : d.length ≤ 512 := hbd.1
  have hS0 : S.length ≤ 4 := by have := hbd.2.1; rw [pureC_len] at this; exact this
  have hla0 : 0 ≤ la ∧ la ≤ 100 := ⟨hbd.2.2.1, hbd.2.2.2.1⟩
  clear hbd
  unfold mayP at hp
  dsimp only at hp
  have hdl : d.length ≤ dc := hr.dl
  have hdm : dc ≤ 9223372036854775807 := hr.dm
  rw [← ids_p S, pureC_len] at E0
  have hfb := findO_bd (idsO S) sn
  rw [ids_len] at hfb
  have hfd := fun W (h : ImR W D ⟨A1, d, dc, C1, S, cc, la⟩) => rfind_any D ⟨A1, d, dc, C1, S, cc, la⟩ sn W h
  unfold imA at hfd
  dsimp only at hfd
  generalize findO (idsO S) sn = r at *
  subst hk
  clear hp
  rw [if_neg (by decide), if_neg (by decide), if_neg (by decide), if_neg (by decide)] at E0
  unfold enV at *
  unfold imA enA zI3 at *
  dsimp only at *
  generalize hw0 : ((w.alloc (.cells #[.slice A1 d.length dc, .slice C1 S.length cc, .int .i64 la] 35)).alloc (.cells #[.int .i64 sq, .int .i64 ow, .int .i64 6, .int .i64 off, .int .i64 len, .int .i64 sn, .slice A data.length c] 32)).alloc (.cells #[.slice none 0 0, .slice none 0 0, .int .i64 0] 35) = w0 at *
  go_enter Tryd.func12, Tryd.ntmps12
  go_wp2_with first
    | (with_reducible show wpList _ _ _ _ _ _
       refine wpList_load_row rfl 35 (.tmp 2) rfl w.heap.size rfl 35 _ (0, 0) _ hB Tryd.underlying35 rfl infoIm ?_)
  refine hck.mono ?_
  clear hck hw0
  rintro e w2 ⟨rfl, b2⟩
  replace hB := hB.below b2
  replace hE := hE.below b2
  replace hQ := hQ.below b2
  replace hr0 := hr0.below b2
  replace bb := bb.thenB' b2
  clear b2
  go_wp2_with first
    | (with_reducible show wpList _ _ _ _ _ _
       refine wpList_load_row rfl 32 (.tmp 3) rfl (w.heap.size + 1) rfl 32 _ (0, 0) _ hE Tryd.underlying32 rfl infoEy ?_)
  refine (hce w2).mono ?_
  clear hce
  rintro e w3 ⟨rfl, b3⟩
  replace hB := hB.below b3
  replace hE := hE.below b3
  replace hQ := hQ.below b3
  replace hr0 := hr0.below b3
  replace bb := bb.thenB' b3
  clear b3
  have hfd := hfd w3 hr0
  have k4 := hE.cell 5
  simp at k4
  go_wp2_with first
    | (with_reducible show wpList _ _ _ _ _ _
       refine wpList_load_row rfl 35 (.tmp 2) rfl w.heap.size rfl 35 _ (0, 0) _ hB Tryd.underlying35 rfl infoIm ?_)
  refine hfd.mono ?_
  clear hfd k4
  rintro e w5 ⟨rfl, b5⟩
  replace hB := hB.below b5
  replace hE := hE.below b5
  replace hQ := hQ.below b5
  replace hr0 := hr0.below b5
  replace bb := bb.thenB' b5
  have hs5 : w.heap.size + 3 ≤ w5.heap.size := by have := bb.size; have := hQ.lt; omega
  clear b5
  have c1 := hB.cell 0
  have c2 := hB.cell 1
  have c3 := hB.cell 2
  have k1 := hE.cell 2
  have k2 := hE.cell 3
  have k3 := hE.cell 4
  have k4 := hE.cell 5
  have k5 := hE.cell 6
  simp at c1 c2 c3 k1 k2 k3 k4 k5
  by_cases h1 : r < 0
  focus
    rw [if_pos h1] at E0
    have E := Lib.hid E0
    clear E0 hfb
    go_wp2_with first
      | (with_reducible show wpList _ _ _ _ _ _
         refine wpList_rowB rfl 35 (.tmp 4) (.tmp 139) rfl (w.heap.size + 2) 35 _ zI3 rfl rfl hQ infoIm rfl (imA_ok ⟨none, [], 0, none, [], 0, 0⟩) ?_
         intro w4 hq4 m4)
    (try simp only [Exit.inBlock, Exit.then])
    refine bodyPost_ret (results_cell_tmp2 rfl _ _ (w.heap.size + 2) _ _ (0, 0) _ rfl hq4 Tryd.underlying35 rfl infoIm) rfl ?_
    rw [E.out]
    exact ⟨⟨none, [], 0, none, [], 0, 0⟩, rfl, rfl, zeroIm _ _, bb.thenM m4 bb.size (fun i hi e => by omega)⟩
  rw [if_neg h1] at E0
  obtain ⟨k, rfl⟩ : ∃ k : Nat, r = (k : Int) := ⟨r.toNat, by omega⟩
  rw [Int.toNat_natCast] at E0
  have hk : k < S.length := by omega
  have h2 : ¬ (k : Int) < 0 := h1
  have h3 : (k : Int) < (S.length : Int) := by omega
  have h4 : (S.length : Int) ≤ 4 := by omega
  clear h1 hfb
  have hsc : S.length ≤ cc := hr.sl
  have hscm : cc ≤ 9223372036854775807 := hr.sm
  rw [if_neg (by decide), pureC_getD S k hk] at E0
  have E := Lib.hid E0
  clear E0
  have hrS : RdL w5 D 2 cpC C1 S := hr0.rS
  obtain ⟨ad, rfl, d0, d1⟩ := hrS.cp hk
  obtain ⟨rk, lk, mk⟩ := hr.cp S[k] (List.getElem_mem hk)
  obtain ⟨x, hxe⟩ : ∃ x, x = S[k].m := ⟨_, rfl⟩
  rw [← hxe] at E d1 rk lk
  clear hxe hr0 hrS
  generalize S[k].A = Ax at *
  generalize S[k].c = cx at *
  go_upto_region 40 with fail
  go_upto_region 41 with first
    | (with_reducible show wpList _ _ _ _ _ _
       refine wpList_fldB rfl 23 (.tmp 146) (.tmp 145) rfl w.heap.size 0 35 _ (.slice Ax x.length cx) rfl rfl rfl infoD1 hB 3 rfl (by decide) ?_
       intro w10 hB10 m10
       replace hB10 : Blk w10 w.heap.size 35 #[.slice Ax x.length cx, .slice (some ad) S.length cc, .int .i64 la] := hB10)
  have hQ10 := hQ.mod m10 (by omega)
  have bb10 := bb.thenM m10 bb.size (fun i hi e => by omega)
  clear hB hQ hE bb m10 d0 d1
  clear c1 c2 c3 k1 k2 k3 k4 k5
  go_wp2_with first
    | (with_reducible show wpList _ _ _ _ _ _
       refine wpList_load_row rfl 35 (.tmp 2) rfl w.heap.size rfl 35 _ (0, 0) _ hB10 Tryd.underlying35 rfl infoIm ?_)
    | (with_reducible show wpList _ _ _ _ _ _
       refine wpList_rowB rfl 35 (.tmp 4) (.tmp 147) rfl (w.heap.size + 2) 35 _ (imA ⟨Ax, x, cx, some ad, S, cc, la⟩) rfl rfl hQ10 infoIm rfl (imA_ok _) ?_
       intro w9 hq9 m9)
  (try simp only [Exit.inBlock, Exit.then])
  refine bodyPost_ret (results_cell_tmp2 rfl _ _ (w.heap.size + 2) _ _ (0, 0) _ rfl hq9 Tryd.underlying35 rfl infoIm) rfl ?_
  rw [E.out]
  exact ⟨⟨Ax, x, cx, some ad, S, cc, la⟩, rfl, rfl, hr.setD (bb10.thenM m9 bb10.size (fun i hi e => by omega)) (RdB.below rk (bb10.thenM m9 bb10.size (fun i hi e => by omega))) lk mk (fun b hb => .inl hb), bb10.thenM m9 bb10.size (fun i hi e => by omega)⟩
theorem rDo_at (D De : Nat → Prop) (i : ImV) (e : E7) (A : Option Addr) (c : Nat) (w : World) (hr : ImR w D i) (hrd : RdB w De A e.data) (hdc : e.data.length ≤ c) (hcm : c ≤ 9223372036854775807) :
    Calls Tryd.prog 12 #[.agg (imA i), enV e A c] w fun x w' => ∃ j : ImV, x = .returned (.tuple #[.agg (imA j), .int .i64 (doP i.p e).2.1, .int .i64 (doP i.p e).2.2]) ∧ j.p = (doP i.p e).1 ∧ ImR w' (DoD D w.heap.size) j ∧ Below w.heap.size w w' := by
  cases hm : mayI i.p
  · exact rDo_a D De i e A c w hr hrd hdc hcm hm
  cases hme : mayE e
  · exact rDo_b D De i e A c w hr hrd hdc hcm hm hme
  have hp := of_decide_eq_true (show decide (mayP e) = true from hme)
  unfold mayP at hp
  rcases hp.2 with h | h | h | h | ⟨h | h, _⟩
  · exact rDo_w D De i e A c w hr hrd hdc hcm hm hme h.1
  · exact rDo_d D De i e A c w hr hrd hdc hcm hm hme h.1
  · exact rDo_r D De i e A c w hr hrd hdc hcm hm hme h.1
  · exact rDo_s D De i e A c w hr hrd hdc hcm hm hme h
  · exact rDo_x D De i e A c w hr hrd hdc hcm hm hme h
  · exact rDo_z D De i e A c w hr hrd hdc hcm hm hme h
theorem rDo_any (D De : Nat → Prop) (i : ImV) (e : E7) (A : Option Addr) (c : Nat) (w : World) (hr : ImR w D i) (hrd : RdB w De A e.data) (hdc : e.data.length ≤ c) (hcm : c ≤ 9223372036854775807) :
    Calls Tryd.prog 12 #[.agg (imA i), enV e A c] w fun x w' => ∃ j : ImV, x = .returned (.tuple #[.agg (imA j), .int .i64 (doP i.p e).2.1, .int .i64 (doP i.p e).2.2]) ∧ j.p = (doP i.p e).1 ∧ ImR w' (fun _ => True) j ∧ Below w.heap.size w w' :=
  (rDo_at D De i e A c w hr hrd hdc hcm).mono fun _ _ ⟨j, h1, h2, h3, h4⟩ => ⟨j, h1, h2, h3.imp fun _ _ _ => trivial, h4⟩
end Go.Proofs.YthkeoimjjgmppaaDoor

/- An image's bytes, as it is or as of a snapshot; Read; few. -/
namespace Go.Proofs.YthkeoimjjgmppaaDoor
open Go.RowKit
set_option linter.unusedVariables false
set_option maxRecDepth 100000

def asO (p : PI) (snap : Int) : Option (List UInt8) := if snap = 0 then some p.d else if findO (idsP p.S) snap < 0 then none else some (p.S.getD (findO (idsP p.S) snap).toNat (0, [])).2
def asE (p : PI) (snap : Int) : Int := if mayI p = false then 1 else if (asO p snap).isSome then 0 else 182
def asD (p : PI) (snap : Int) : List UInt8 := if mayI p = false then [] else (asO p snap).getD []
def bytesD (p : PI) (snap : Int) : List UInt8 := (asO p snap).getD []
theorem asO_zero (p : PI) : asO p 0 = some p.d := by unfold asO; rw [if_pos rfl]
theorem asO_none {p : PI} {snap : Int} (h0 : snap ≠ 0) (h : findO (idsP p.S) snap < 0) : asO p snap = none := by unfold asO; rw [if_neg h0, if_pos h]
theorem asO_some {p : PI} {snap : Int} {k : Nat} (h0 : snap ≠ 0) (h : findO (idsP p.S) snap = (k : Int)) : asO p snap = some (p.S.getD k (0, [])).2 := by unfold asO; rw [if_neg h0, h, if_neg (by omega), Int.toNat_natCast]

/-- What tells the bytes: a slice that reads, and a word beside it. -/
def Told (w : World) (D : Nat → Prop) (xs : List UInt8) (u : Value) (e : Ending) (w' : World) : Prop := ∃ A c, e = .returned (.tuple #[.slice A xs.length c, u]) ∧ RdB w' D A xs ∧ xs.length ≤ c ∧ c ≤ 9223372036854775807 ∧ Below w.heap.size w w'
theorem told_nil {w w' : World} {D : Nat → Prop} {u : Value} (b : Below w.heap.size w w') : Told w D [] u (.returned (.tuple #[.slice none 0 0, u])) w' := ⟨none, 0, rfl, RdB.nil, Nat.le_refl _, by decide, b⟩

set_option maxHeartbeats 8000000 in
theorem as_any (D : Nat → Prop) (i : ImV) (snap : Int) (w : World) (hr : ImR w D i) :
    Calls Tryd.prog 75 #[.agg (imA i), .int .i64 snap] w (Told w D (asD i.p snap) (.int .i64 (asE i.p snap))) := by
  have bb := below_new w (.cells (imA i) 35)
  have hB := Blk.new w 35 (imA i)
  have hr0 := hr.below bb
  have hck := Check18_any D i _ hr0
  have hfd := fun W (h : ImR W D i) => find_any D i snap W h
  have hfb := findO_bd (idsO i.S) snap
  rw [ids_len] at hfb
  cases hm : mayI i.p
  focus
    have E : Hid (asE i.p snap = 1 ∧ asD i.p snap = []) := by unfold Hid asE asD; rw [hm]; exact ⟨rfl, rfl⟩
    rw [hm, show eno false 1 = 1 from rfl] at hck
    clear hm hr0 hfd
    unfold imA at *
    generalize hw0 : w.alloc (.cells #[.slice i.DA i.d.length i.dc, .slice i.CA i.S.length i.cc, .int .i64 i.last] 35) = w0 at *
    go_enter Tryd.func75, Tryd.ntmps75
    go_wp2_with first
      | (with_reducible show wpList _ _ _ _ _ _
         refine wpList_load_row rfl 35 (.tmp 2) rfl w.heap.size rfl 35 _ (0, 0) _ hB Tryd.underlying35 rfl infoIm ?_)
    refine hck.mono ?_
    clear hck hw0
    rintro e w2 ⟨rfl, b2⟩
    go_wp2_with fail
    (try simp only [Exit.inBlock, Exit.then])
    refine bodyPost_ret (results_tmp2 rfl _ _ _) rfl ?_
    rw [E.out.1, E.out.2]
    exact told_nil (bb.thenB' b2)
  have E0 : asE i.p snap = (if (asO i.p snap).isSome then 0 else 182) ∧ asD i.p snap = (asO i.p snap).getD [] := by unfold asE asD; rw [hm]; exact ⟨rfl, rfl⟩
  rw [hm, show eno true 1 = 0 from rfl] at hck
  clear hm
  unfold imA at *
  generalize hw0 : w.alloc (.cells #[.slice i.DA i.d.length i.dc, .slice i.CA i.S.length i.cc, .int .i64 i.last] 35) = w0 at *
  by_cases h0 : snap = 0
  focus
    subst h0
    rw [asO_zero] at E0
    have E := Lib.hid E0
    clear E0 hfd hfb
    have rd := hr.rd
    have l1 := hr.dl
    have l2 := hr.dm
    go_enter Tryd.func75, Tryd.ntmps75
    go_wp2_with first
      | (with_reducible show wpList _ _ _ _ _ _
         refine wpList_load_row rfl 35 (.tmp 2) rfl w.heap.size rfl 35 _ (0, 0) _ hB Tryd.underlying35 rfl infoIm ?_)
    refine hck.mono ?_
    clear hck hw0
    rintro e w2 ⟨rfl, b2⟩
    have c1 := (hB.below b2).cell 0
    simp at c1
    go_wp2_with fail
    (try simp only [Exit.inBlock, Exit.then])
    refine bodyPost_ret (results_tmp2 rfl _ _ _) rfl ?_
    rw [E.out.1, E.out.2]
    exact ⟨i.DA, i.dc, rfl, rd.below (bb.thenB' b2), l1, l2, bb.thenB' b2⟩
  rw [ids_p] at hfb hfd
  by_cases h1 : findO (idsP i.p.S) snap < 0
  focus
    rw [asO_none h0 h1] at E0
    have E := Lib.hid E0
    have h2 : findO (idsP (pureC i.S)) snap < 0 := h1
    clear E0 h1
    generalize findO (idsP (pureC i.S)) snap = r at *
    go_enter Tryd.func75, Tryd.ntmps75
    go_wp2_with first
      | (with_reducible show wpList _ _ _ _ _ _
         refine wpList_load_row rfl 35 (.tmp 2) rfl w.heap.size rfl 35 _ (0, 0) _ hB Tryd.underlying35 rfl infoIm ?_)
    refine hck.mono ?_
    clear hck hw0
    rintro e w2 ⟨rfl, b2⟩
    replace hB := hB.below b2
    have hfd := hfd w2 (hr0.below b2)
    go_wp2_with first
      | (with_reducible show wpList _ _ _ _ _ _
         refine wpList_load_row rfl 35 (.tmp 2) rfl w.heap.size rfl 35 _ (0, 0) _ hB Tryd.underlying35 rfl infoIm ?_)
    refine hfd.mono ?_
    clear hfd
    rintro e w3 ⟨rfl, b3⟩
    go_wp2_with fail
    (try simp only [Exit.inBlock, Exit.then])
    refine bodyPost_ret (results_tmp2 rfl _ _ _) rfl ?_
    rw [E.out.1, E.out.2]
    exact told_nil ((bb.thenB' b2).thenB' b3)
  obtain ⟨k, hk⟩ : ∃ k : Nat, findO (idsP (pureC i.S)) snap = (k : Int) := ⟨(findO (idsP (pureC i.S)) snap).toNat, by
    have : ¬ findO (idsP (pureC i.S)) snap < 0 := h1
    omega⟩
  rw [asO_some h0 hk] at E0
  rw [hk] at hfb hfd
  clear h1 hk
  have hkl : k < i.S.length := by omega
  have e9 : i.p.S.getD k (0, []) = (i.S[k].id, i.S[k].m) := pureC_getD i.S k hkl
  rw [e9] at E0
  have E := Lib.hid E0
  clear E0 e9
  have h2 : ¬ (k : Int) < 0 := by omega
  have h3 : (k : Int) < (i.S.length : Int) := by omega
  have h4 : (i.S.length : Int) ≤ 9223372036854775807 := by have := hr.sl; have := hr.sm; omega
  obtain ⟨rk, lk, mk⟩ := hr.cp i.S[k] (List.getElem_mem hkl)
  have hS := fun W (b : Below w.heap.size w W) => (RdL.below hr.rS b).cp hkl
  obtain ⟨x, hxe⟩ : ∃ x, x = i.S[k].m := ⟨_, rfl⟩
  rw [← hxe] at E rk lk
  simp only [← hxe] at hS
  clear hxe hfb
  generalize i.S[k].A = Ax at *
  generalize i.S[k].c = cx at *
  go_enter Tryd.func75, Tryd.ntmps75
  go_wp2_with first
    | (with_reducible show wpList _ _ _ _ _ _
       refine wpList_load_row rfl 35 (.tmp 2) rfl w.heap.size rfl 35 _ (0, 0) _ hB Tryd.underlying35 rfl infoIm ?_)
  refine hck.mono ?_
  clear hck hw0
  rintro e w2 ⟨rfl, b2⟩
  replace hB := hB.below b2
  have hfd := hfd w2 (hr0.below b2)
  replace bb := bb.thenB' b2
  go_wp2_with first
    | (with_reducible show wpList _ _ _ _ _ _
       refine wpList_load_row rfl 35 (.tmp 2) rfl w.heap.size rfl 35 _ (0, 0) _ hB Tryd.underlying35 rfl infoIm ?_)
  refine hfd.mono ?_
  clear hfd
  rintro e w3 ⟨rfl, b3⟩
  replace hB := hB.below b3
  replace bb := bb.thenB' b3
  have c2 := hB.cell 1
  simp at c2
  obtain ⟨ad, had, d0, d1⟩ := hS w3 bb
  rw [had] at c2
  clear hS had
  go_wp2_with fail
  (try simp only [Exit.inBlock, Exit.then])
  refine bodyPost_ret (results_tmp2 rfl _ _ _) rfl ?_
  rw [E.out.1, E.out.2]
  exact ⟨Ax, cx, rfl, rk.below bb, lk, mk, bb⟩
end Go.Proofs.YthkeoimjjgmppaaDoor
