/- Parts of the proof, joined: PsO PsP. -/
import Derived.Test.YthkeoimjjgmppaaDoorQo
/- The past: whether each commit is a record's: the code. -/
namespace Go.Proofs.YthkeoimjjgmppaaDoor
open Go.RowKit
set_option linter.unusedVariables false
set_option maxRecDepth 100000

theorem CmsR.at2 {w : World} {D : Nat → Prop} {ad : Addr} {c : Nat} {L : List CmV} (h : CmsR w D (some ad) c L) {i : Nat} (hi : i < L.length) :
    w.cell? (ad.add (i * 9)) = some (.int .i64 L[i].ix) ∧ w.cell? ⟨(ad.add (i * 9)).block, (ad.add (i * 9)).off + 1, none⟩ = some (.int .i64 L[i].im) ∧ w.cell? ⟨(ad.add (i * 9)).block, (ad.add (i * 9)).off + 2, none⟩ = some (.int .i64 L[i].e.seq) ∧ w.cell? ⟨(ad.add (i * 9)).block, (ad.add (i * 9)).off + 3, none⟩ = some (.int .i64 L[i].e.owner) ∧ w.cell? ⟨(ad.add (i * 9)).block, (ad.add (i * 9)).off + 4, none⟩ = some (.int .i64 L[i].e.kind) ∧ w.cell? ⟨(ad.add (i * 9)).block, (ad.add (i * 9)).off + 5, none⟩ = some (.int .i64 L[i].e.off) ∧ w.cell? ⟨(ad.add (i * 9)).block, (ad.add (i * 9)).off + 6, none⟩ = some (.int .i64 L[i].e.len) ∧ w.cell? ⟨(ad.add (i * 9)).block, (ad.add (i * 9)).off + 7, none⟩ = some (.int .i64 L[i].e.snap) ∧ w.cell? ⟨(ad.add (i * 9)).block, (ad.add (i * 9)).off + 8, none⟩ = some (.slice L[i].A L[i].e.data.length L[i].c) := by
  obtain ⟨ad2, e, h0⟩ := h.at_ hi
  injection e with e
  subst e
  exact h0
theorem RcsR.at2 {w : World} {D : Nat → Prop} {ad : Addr} {c : Nat} {L : List RcV} (h : RcsR w D (some ad) c L) {i : Nat} (hi : i < L.length) :
    w.cell? (ad.add (i * 14)) = some (.int .i64 L[i].cl) ∧ w.cell? ⟨(ad.add (i * 14)).block, (ad.add (i * 14)).off + 1, none⟩ = some (.int .i64 L[i].call.image) ∧ w.cell? ⟨(ad.add (i * 14)).block, (ad.add (i * 14)).off + 2, none⟩ = some (.int .i64 L[i].call.kind) ∧ w.cell? ⟨(ad.add (i * 14)).block, (ad.add (i * 14)).off + 3, none⟩ = some (.int .i64 L[i].call.off) ∧ w.cell? ⟨(ad.add (i * 14)).block, (ad.add (i * 14)).off + 4, none⟩ = some (.int .i64 L[i].call.len) ∧ w.cell? ⟨(ad.add (i * 14)).block, (ad.add (i * 14)).off + 5, none⟩ = some (.int .i64 L[i].call.snap) ∧ w.cell? ⟨(ad.add (i * 14)).block, (ad.add (i * 14)).off + 6, none⟩ = some (.slice L[i].A L[i].call.data.length L[i].c) ∧ w.cell? ⟨(ad.add (i * 14)).block, (ad.add (i * 14)).off + 7, none⟩ = some (.int .i64 L[i].fr) ∧ w.cell? ⟨(ad.add (i * 14)).block, (ad.add (i * 14)).off + 8, none⟩ = some (.int .i64 L[i].tt) ∧ w.cell? ⟨(ad.add (i * 14)).block, (ad.add (i * 14)).off + 9, none⟩ = some (.bool L[i].done) ∧ w.cell? ⟨(ad.add (i * 14)).block, (ad.add (i * 14)).off + 10, none⟩ = some (.int .i64 L[i].E) ∧ w.cell? ⟨(ad.add (i * 14)).block, (ad.add (i * 14)).off + 11, none⟩ = some (.slice L[i].rA L[i].rd.length L[i].rc) ∧ w.cell? ⟨(ad.add (i * 14)).block, (ad.add (i * 14)).off + 12, none⟩ = some (.int .i64 L[i].N) ∧ w.cell? ⟨(ad.add (i * 14)).block, (ad.add (i * 14)).off + 13, none⟩ = some (.int .i64 L[i].rx) := by
  obtain ⟨ad2, e, h0⟩ := h.at_ hi
  injection e with e
  subst e
  exact h0

/-! ### marks -/
def boA (t : List Bool) : Array Value := (t.map Value.bool).toArray
theorem boA_at (t : List Bool) {k : Nat} (h : k < t.length) : (boA t)[k]? = some (.bool t[k]) := by unfold boA; simp [h]
theorem boA_set (t : List Bool) (k : Nat) : (boA t).setIfInBounds k (.bool true) = boA (t.set k true) := by unfold boA; rw [List.setIfInBounds_toArray, List.map_set]
theorem infoBo : (Tryd.prog.info? 4).map (fun i => (i.zero, i.size, i.bytes)) = some (some (.bool false), 1, 1) := by kernel_rfl
theorem make_bools (n : Nat) (hn : n ≤ 1000) (u : World) : (Instr.makeSlice 90 (.int .i64 (n : Int)) (.int .i64 (n : Int))).run Tryd.prog u = .ok (.slice (some ⟨u.heap.size, 0, none⟩) n n) (u.alloc (.cells (boA (List.replicate n false)) 4)) := by
  obtain ⟨i, hi, hz0, hz1, hz2⟩ := info_parts infoBo
  have := run_make (P := Tryd.prog) u 90 4 i (.bool false) Tryd.underlying90 hi hz0 .i64 .i64 (n : Int) (n : Int) (by omega) (Int.le_refl _) (by rw [hz2]; omega) (by omega)
  rw [this, hz1]
  simp only [Int.toNat_natCast, Nat.mul_one]
  have e : madeCells (Value.bool false).cells n = boA (List.replicate n false) := by
    apply Array.toList_inj.1
    unfold boA
    rw [List.map_replicate]
    exact toList_madeCells_one _ _
  rw [e]

/-! ### plain -/
theorem free_step (c : PC) (R : List RcV) (t : List Bool) (k : Nat) (hk : k < R.length) (ht : k < t.length) : freeO c (prs (R.drop k)) (t.drop k) = if t[k] = false ∧ matchP R[k].p c = true then some 0 else (freeO c (prs (R.drop (k + 1))) (t.drop (k + 1))).map (· + 1) := by
  rw [List.drop_eq_getElem_cons hk, List.drop_eq_getElem_cons ht]
  rfl
theorem free_end (c : PC) (R : List RcV) (t : List Bool) (k : Nat) (hk : R.length ≤ k) : freeO c (prs (R.drop k)) (t.drop k) = none := by
  rw [List.drop_eq_nil_of_le hk]
  cases t.drop k <;> rfl
theorem own_step (R : List PR) (L : List CmV) (j : Nat) (hj : j < L.length) (t : List Bool) : ownO R (pcs (L.drop j)) t = match freeO L[j].p R t with | none => false | some k => ownO R (pcs (L.drop (j + 1))) (t.set k true) := by
  rw [List.drop_eq_getElem_cons hj]
  rfl
set_option maxHeartbeats 8000000 in
theorem Owned_any (D D' : Nat → Prop) (A A' : Option Addr) (c c' : Nat) (L : List CmV) (R : List RcV) (w : World) (hL : CmsR w D A c L) (hR : RcsR w D' A' c' R) (ht : TabE w) (hl1 : ∀ s ∈ R, s.call.data.length ≤ big) (hl2 : ∀ s ∈ L, s.e.data.length ≤ big) (hn : R.length ≤ 1000) :
    Calls Tryd.prog 20 #[.slice A L.length c, .slice A' R.length c'] w fun e w' => e = .returned (.bool (ownedP (pcs L) (prs R))) ∧ Below w.heap.size w w' := by
  have hmk := make_bools R.length hn
  have b1 := below_new w (.cells (boA (List.replicate R.length false)) 4)
  have hTb := Blk.new w 4 (boA (List.replicate R.length false))
  have hc := hL.cap
  have hm := hL.max
  have hc' := hR.cap
  have hm' := hR.max
  obtain ⟨t0, ht0⟩ : ∃ t0, List.replicate R.length false = t0 := ⟨_, rfl⟩
  have hl0 : t0.length = R.length := by rw [← ht0, List.length_replicate]
  have HO0 : Hid (ownO (prs R) (pcs L) t0 = ownedP (pcs L) (prs R)) := Lib.hid (by unfold ownedP; rw [prs_len, ht0])
  rw [ht0] at b1 hTb
  rw [ht0] at hmk
  clear ht0
  generalize hw1 : w.alloc (.cells (boA t0) 4) = w1 at *
  go_enter Tryd.func20, Tryd.ntmps20
  go_wp2_with fail
  obtain ⟨gT, hgT⟩ : ∃ gT, w.heap.size = gT := ⟨_, rfl⟩
  rw [hgT] at hTb
  rw [hgT]
  have hgT := Lib.hid hgT
  clear hw1 hmk
  go_loopw [7, 8, 14] (fun s7 s8 s14 wr => ∃ (j : Nat) (t : List Bool), s14 = .int .i64 (j : Int) ∧ j ≤ L.length ∧ t.length = R.length ∧ Hid (ownO (prs R) (pcs (L.drop j)) t = ownedP (pcs L) (prs R)) ∧ Blk wr gT 4 (boA t) ∧ Below w.heap.size w wr) (fun _ _ s14 _ => L.length - (intOf s14).toNat)
  case atStart => exact ⟨0, t0, rfl, Nat.zero_le _, hl0, HO0, hTb, b1⟩
  case round =>
    clear hTb b1 hl0 HO0
    obtain ⟨j, t, rfl, hj, htl, HO, hTb, bb⟩ := hrel
    by_cases hlt : j < L.length
    · have hs0 := fun u (hu : Below w.heap.size w u) => (hL.below hu).all _ (List.getElem_mem hlt)
      have hs1 := hl2 _ (List.getElem_mem hlt)
      obtain ⟨ad, rfl, d0, d1, d2, d3, d4, d5, d6, d7, d8⟩ := (hL.below bb).at_ hlt
      have HS := Lib.hid (own_step (prs R) L j hlt t)
      generalize L[j] = s at *
      obtain ⟨ix, im, ⟨e1, e2, e3, e4, e5, e6, e7⟩, eA, ec⟩ := s
      simp only at d0 d1 d2 d3 d4 d5 d6 d7 d8 hs1
      have bn := below_new wr (.cells #[.int .i64 ix, .int .i64 im, .int .i64 e1, .int .i64 e2, .int .i64 e3, .int .i64 e4, .int .i64 e5, .int .i64 e6, .slice eA e7.length ec] 50)
      have hB7 := Blk.new wr 50 #[.int .i64 ix, .int .i64 im, .int .i64 e1, .int .i64 e2, .int .i64 e3, .int .i64 e4, .int .i64 e5, .int .i64 e6, .slice eA e7.length ec]
      have hTb := hTb.below bn
      have bb := bb.thenB bn bb.size
      go_upto_region 5 with fail
      clear d0 d1 d2 d3 d4 d5 d6 d7 d8 bn
      generalize wr.alloc (.cells #[.int .i64 ix, .int .i64 im, .int .i64 e1, .int .i64 e2, .int .i64 e3, .int .i64 e4, .int .i64 e5, .int .i64 e6, .slice eA e7.length ec] 50) = wb at *
      generalize wr.heap.size = g7 at *
      obtain ⟨cc, hcc⟩ : ∃ cc, CmV.p ⟨ix, im, ⟨e1, e2, e3, e4, e5, e6, e7⟩, eA, ec⟩ = cc := ⟨_, rfl⟩
      rw [hcc] at HS
      have HCC := Lib.hid hcc
      clear hcc
      go_wp2_with fail
      go_loopw [8] (fun s8 wx => ∃ k : Nat, s8 = .int .i64 (k : Int) ∧ k ≤ R.length ∧ Hid ((freeO cc (prs (R.drop k)) (t.drop k)).map (· + k) = freeO cc (prs R) t) ∧ Blk wx g7 50 #[.int .i64 ix, .int .i64 im, .int .i64 e1, .int .i64 e2, .int .i64 e3, .int .i64 e4, .int .i64 e5, .int .i64 e6, .slice eA e7.length ec] ∧ Blk wx gT 4 (boA t) ∧ Below w.heap.size w wx) (fun s8 _ => R.length - (intOf s8).toNat)
      case atStart => exact ⟨0, rfl, Nat.zero_le _, Lib.hid (by rw [List.drop_zero, List.drop_zero]; cases freeO cc (prs R) t <;> rfl), hB7, hTb, bb⟩
      case round =>
        clear hB7 hTb bb
        obtain ⟨k, rfl, hk, HF, hB7, hTb, bb⟩ := hrel
        by_cases hkl : k < R.length
        · have hkt : k < t.length := by omega
          have hRx := hR.below bb
          have hr := hRx.all _ (List.getElem_mem hkl)
          have hr1 := hl1 _ (List.getElem_mem hkl)
          obtain ⟨ad', hA', _⟩ := hRx.at_ hkl
          subst hA'
          have HC : ∀ W, Below wr.heap.size wr W → _ := fun W hW => (hRx.below hW).at2 hkl
          have HFS := Lib.hid (free_step cc R t k hkl hkt)
          have hs := hs0 _ bb
          have ht := ht.below bb
          generalize R[k] = r at *
          have HC := Lib.hid HC
          cases htk : t[k]
          · obtain ⟨mb, hmb⟩ : ∃ mb, matchP r.p cc = mb := ⟨_, rfl⟩
            have HM : Hid (matchP r.p (CmV.p ⟨ix, im, ⟨e1, e2, e3, e4, e5, e6, e7⟩, eA, ec⟩) = mb) := Lib.hid (by rw [HCC.out]; exact hmb)
            cases mb
            · have HN : Hid ((freeO cc (prs (R.drop (k + 1))) (t.drop (k + 1))).map (· + (k + 1)) = freeO cc (prs R) t) := Lib.hid (by
                rw [← HF.out, HFS.out, hmb, if_neg (fun h => by cases h.2)]
                cases freeO cc (prs (R.drop (k + 1))) (t.drop (k + 1)) with
                | none => rfl
                | some y => show some (y + (k + 1)) = some (y + 1 + k); congr 1; omega)
              clear HF HFS hmb
              go_wp2_with fail
              refine r_start (R := RB) (by rfl) (n := 19) (L := #[false, false, false, false, false, false, false, false, false, false, false, false, false, false, false, false, false, false, false]) rfl rfl ?_
              have bd : Below wr.heap.size wr wr.drew := (Below.refl _ _).drew
              have hB7 := hB7.below bd
              have hTb := hTb.below bd
              have hRx := hRx.below bd
              have hr := (show RcR _ D' r from ⟨hr.1.below bd, hr.2.below bd⟩)
              have hs := RdC.below hs bd
              have ht := ht.below bd
              have bb := bb.thenB bd bb.size
              have HC := fun W hW => HC.out W (bd.trans (Below.mono hW bd.size))
              clear bd
              generalize wr.drew = wq at *
              have hmt := Match_any r ⟨ix, im, ⟨e1, e2, e3, e4, e5, e6, e7⟩, eA, ec⟩ D' D wq hr hs ht hr1 hs1
              rw [HM.out] at hmt
              unfold rcC cmC at hmt
              simp only at hmt
              refine r_flt RB_refl 0 18 #[true, false, false, false, false, false, false, false, false, false, false, false, false, false, false, false, false, false, false] (by simp only [List.getElem?_toArray, List.getElem?_cons_zero]; rfl) (by rfl) (by kernel_rfl) (by kernel_rfl) (by kernel_rfl) (fun _ _ _ _ h => h) rfl (by rfl) ?_
              apply Exists.intro
              apply And.intro
              · intro W hW
                first | (go_simp; with_reducible rfl) | go_simp
              (try simp only [Act.put, List.setIfInBounds_toArray]); (try simp only [List.set_cons_succ]); (try simp only [List.set_cons_zero])
              refine r_flt RB_refl 1 19 #[true, true, false, false, false, false, false, false, false, false, false, false, false, false, false, false, false, false, false] (by simp only [List.getElem?_toArray, List.getElem?_cons_succ, List.getElem?_cons_zero]; rfl) (by rfl) (by kernel_rfl) (by kernel_rfl) (by kernel_rfl) (fun _ _ _ _ h => h) rfl (by rfl) ?_
              apply Exists.intro
              apply And.intro
              · intro W hW
                first | (go_simp; with_reducible rfl) | go_simp
              (try simp only [Act.put, List.setIfInBounds_toArray]); (try simp only [List.set_cons_succ]); (try simp only [List.set_cons_zero])
              refine r_flt RB_refl 2 20 #[true, true, true, false, false, false, false, false, false, false, false, false, false, false, false, false, false, false, false] (by simp only [List.getElem?_toArray, List.getElem?_cons_succ, List.getElem?_cons_zero]; rfl) (by rfl) (by kernel_rfl) (by kernel_rfl) (by kernel_rfl) (fun _ _ _ _ h => h) rfl (by rfl) ?_
              apply Exists.intro
              apply And.intro
              · intro W hW
                first | (go_simp; with_reducible rfl) | go_simp
              (try simp only [Act.put, List.setIfInBounds_toArray]); (try simp only [List.set_cons_succ]); (try simp only [List.set_cons_zero])
              refine r_flt RB_refl 3 21 #[true, true, true, true, false, false, false, false, false, false, false, false, false, false, false, false, false, false, false] (by simp only [List.getElem?_toArray, List.getElem?_cons_succ, List.getElem?_cons_zero]; rfl) (by rfl) (by kernel_rfl) (by kernel_rfl) (by kernel_rfl) (fun _ _ _ _ h => h) rfl (by rfl) ?_
              apply Exists.intro
              apply And.intro
              · intro W hW
                first | (go_simp; with_reducible rfl) | go_simp
              (try simp only [Act.put, List.setIfInBounds_toArray]); (try simp only [List.set_cons_succ]); (try simp only [List.set_cons_zero])
              refine r_flt RB_refl 4 22 #[true, true, true, true, true, false, false, false, false, false, false, false, false, false, false, false, false, false, false] (by simp only [List.getElem?_toArray, List.getElem?_cons_succ, List.getElem?_cons_zero]; rfl) (by rfl) (by kernel_rfl) (by kernel_rfl) (by kernel_rfl) (fun _ _ _ _ h => h) rfl (by rfl) ?_
              apply Exists.intro
              apply And.intro
              · intro W hW
                first | (go_simp; with_reducible rfl) | go_simp
              (try simp only [Act.put, List.setIfInBounds_toArray]); (try simp only [List.set_cons_succ]); (try simp only [List.set_cons_zero])
              refine r_flt RB_refl 5 23 #[true, true, true, true, true, true, false, false, false, false, false, false, false, false, false, false, false, false, false] (by simp only [List.getElem?_toArray, List.getElem?_cons_succ, List.getElem?_cons_zero]; rfl) (by rfl) (by kernel_rfl) (by kernel_rfl) (by kernel_rfl) (fun _ _ _ _ h => h) rfl (by rfl) ?_
              apply Exists.intro
              apply And.intro
              · intro W hW
                first | (go_simp; with_reducible rfl) | go_simp
              (try simp only [Act.put, List.setIfInBounds_toArray]); (try simp only [List.set_cons_succ]); (try simp only [List.set_cons_zero])
              refine r_flt RB_refl 6 24 #[true, true, true, true, true, true, true, false, false, false, false, false, false, false, false, false, false, false, false] (by simp only [List.getElem?_toArray, List.getElem?_cons_succ, List.getElem?_cons_zero]; rfl) (by rfl) (by kernel_rfl) (by kernel_rfl) (by kernel_rfl) (fun _ _ _ _ h => h) rfl (by rfl) ?_
              apply Exists.intro
              apply And.intro
              · intro W hW
                first | (go_simp; with_reducible rfl) | go_simp
              (try simp only [Act.put, List.setIfInBounds_toArray]); (try simp only [List.set_cons_succ]); (try simp only [List.set_cons_zero])
              refine r_flt RB_refl 7 25 #[true, true, true, true, true, true, true, true, false, false, false, false, false, false, false, false, false, false, false] (by simp only [List.getElem?_toArray, List.getElem?_cons_succ, List.getElem?_cons_zero]; rfl) (by rfl) (by kernel_rfl) (by kernel_rfl) (by kernel_rfl) (fun _ _ _ _ h => h) rfl (by rfl) ?_
              apply Exists.intro
              apply And.intro
              · intro W hW
                first | (go_simp; with_reducible rfl) | go_simp
              (try simp only [Act.put, List.setIfInBounds_toArray]); (try simp only [List.set_cons_succ]); (try simp only [List.set_cons_zero])
              refine r_flt RB_refl 8 26 #[true, true, true, true, true, true, true, true, true, false, false, false, false, false, false, false, false, false, false] (by simp only [List.getElem?_toArray, List.getElem?_cons_succ, List.getElem?_cons_zero]; rfl) (by rfl) (by kernel_rfl) (by kernel_rfl) (by kernel_rfl) (fun _ _ _ _ h => h) rfl (by rfl) ?_
              apply Exists.intro
              apply And.intro
              · intro W hW
                have c0 := (hTb.below hW).cell k
                rw [boA_at _ hkt, htk] at c0
                go_simp; rfl
              (try simp only [Act.put, List.setIfInBounds_toArray]); (try simp only [List.set_cons_succ]); (try simp only [List.set_cons_zero])
              refine r_flt RB_refl 9 27 #[true, true, true, true, true, true, true, true, true, true, false, false, false, false, false, false, false, false, false] (by simp only [List.getElem?_toArray, List.getElem?_cons_succ, List.getElem?_cons_zero]; rfl) (by rfl) (by kernel_rfl) (by kernel_rfl) (by kernel_rfl) (fun _ _ _ _ h => h) rfl (by rfl) ?_
              apply Exists.intro
              apply And.intro
              · intro W hW
                first | (go_simp; with_reducible rfl) | go_simp
              (try simp only [Act.put, List.setIfInBounds_toArray]); (try simp only [List.set_cons_succ]); (try simp only [List.set_cons_zero])
              refine r_flt RB_refl 10 28 #[true, true, true, true, true, true, true, true, true, true, true, false, false, false, false, false, false, false, false] (by simp only [List.getElem?_toArray, List.getElem?_cons_succ, List.getElem?_cons_zero]; rfl) (by rfl) (by kernel_rfl) (by kernel_rfl) (by kernel_rfl) (fun _ _ _ _ h => h) rfl (by rfl) ?_
              apply Exists.intro
              apply And.intro
              · intro W hW
                first | (go_simp; with_reducible rfl) | go_simp
              (try simp only [Act.put, List.setIfInBounds_toArray]); (try simp only [List.set_cons_succ]); (try simp only [List.set_cons_zero])
              refine r_flt RB_refl 11 29 #[true, true, true, true, true, true, true, true, true, true, true, true, false, false, false, false, false, false, false] (by simp only [List.getElem?_toArray, List.getElem?_cons_succ, List.getElem?_cons_zero]; rfl) (by rfl) (by kernel_rfl) (by kernel_rfl) (by kernel_rfl) (fun _ _ _ _ h => h) rfl (by rfl) ?_
              apply Exists.intro
              apply And.intro
              · intro W hW
                first | (go_simp; with_reducible rfl) | go_simp
              (try simp only [Act.put, List.setIfInBounds_toArray]); (try simp only [List.set_cons_succ]); (try simp only [List.set_cons_zero])
              refine r_flt RB_refl 12 30 #[true, true, true, true, true, true, true, true, true, true, true, true, true, false, false, false, false, false, false] (by simp only [List.getElem?_toArray, List.getElem?_cons_succ, List.getElem?_cons_zero]; rfl) (by rfl) (by kernel_rfl) (by kernel_rfl) (by kernel_rfl) (fun _ _ _ _ h => h) rfl (by rfl) ?_
              apply Exists.intro
              apply And.intro
              · intro W hW
                first | (go_simp; with_reducible rfl) | go_simp
              (try simp only [Act.put, List.setIfInBounds_toArray]); (try simp only [List.set_cons_succ]); (try simp only [List.set_cons_zero])
              refine r_flt RB_refl 13 31 #[true, true, true, true, true, true, true, true, true, true, true, true, true, true, false, false, false, false, false] (by simp only [List.getElem?_toArray, List.getElem?_cons_succ, List.getElem?_cons_zero]; rfl) (by rfl) (by kernel_rfl) (by kernel_rfl) (by kernel_rfl) (fun _ _ _ _ h => h) rfl (by rfl) ?_
              apply Exists.intro
              apply And.intro
              · intro W hW
                obtain ⟨c0, c1, c2, c3, c4, c5, c6, c7, c8, c9, c10, c11, c12, c13⟩ := HC W hW
                go_simp; rfl
              (try simp only [Act.put, List.setIfInBounds_toArray]); (try simp only [List.set_cons_succ]); (try simp only [List.set_cons_zero])
              refine r_flt RB_refl 14 32 #[true, true, true, true, true, true, true, true, true, true, true, true, true, true, true, false, false, false, false] (by simp only [List.getElem?_toArray, List.getElem?_cons_succ, List.getElem?_cons_zero]; rfl) (by rfl) (by kernel_rfl) (by kernel_rfl) (by kernel_rfl) (fun _ _ _ _ h => h) rfl (by rfl) ?_
              apply Exists.intro
              apply And.intro
              · intro W hW
                have x0 := (hB7.below hW).cell 0
                have x1 := (hB7.below hW).cell 1
                have x2 := (hB7.below hW).cell 2
                have x3 := (hB7.below hW).cell 3
                have x4 := (hB7.below hW).cell 4
                have x5 := (hB7.below hW).cell 5
                have x6 := (hB7.below hW).cell 6
                have x7 := (hB7.below hW).cell 7
                have x8 := (hB7.below hW).cell 8
                simp at x0 x1 x2 x3 x4 x5 x6 x7 x8
                go_simp; rfl
              (try simp only [Act.put, List.setIfInBounds_toArray]); (try simp only [List.set_cons_succ]); (try simp only [List.set_cons_zero])
              refine r_one RB_trans 15 (by kernel_rfl) ?_
              refine alt_call 33 #[true, true, true, true, true, true, true, true, true, true, true, true, true, true, true, true, false, false, false] (by simp only [List.getElem?_toArray, List.getElem?_cons_succ, List.getElem?_cons_zero]; rfl) (by rfl) rfl (by rfl) (by go_simp; first | exact ⟨rfl, rfl⟩ | rfl) ?_
              refine hmt.mono ?_
              clear hmt
              rintro e' w7 ⟨rfl, b7⟩
              refine ⟨_, rfl, b7, ?_⟩
              have hB7 := hB7.below b7
              have hTb := hTb.below b7
              have bb := bb.thenB b7 bb.size
              clear HC hRx hr hs b7
              (try simp only [Act.put, List.setIfInBounds_toArray]); (try simp only [List.set_cons_succ]); (try simp only [List.set_cons_zero])
              refine r_flt RB_refl 16 34 #[true, true, true, true, true, true, true, true, true, true, true, true, true, true, true, true, true, false, false] (by simp only [List.getElem?_toArray, List.getElem?_cons_succ, List.getElem?_cons_zero]; rfl) (by rfl) (by kernel_rfl) (by kernel_rfl) (by kernel_rfl) (fun _ _ _ _ h => h) rfl (by rfl) ?_
              apply Exists.intro
              apply And.intro
              · intro W hW
                first | (go_simp; with_reducible rfl) | go_simp
              (try simp only [Act.put, List.setIfInBounds_toArray]); (try simp only [List.set_cons_succ]); (try simp only [List.set_cons_zero])
              refine r_flt RB_refl 17 35 #[true, true, true, true, true, true, true, true, true, true, true, true, true, true, true, true, true, true, false] (by simp only [List.getElem?_toArray, List.getElem?_cons_succ, List.getElem?_cons_zero]; rfl) (by rfl) (by kernel_rfl) (by kernel_rfl) (by kernel_rfl) (fun _ _ _ _ h => h) rfl (by rfl) ?_
              apply Exists.intro
              apply And.intro
              · intro W hW
                first | (go_simp; with_reducible rfl) | go_simp
              (try simp only [Act.put, List.setIfInBounds_toArray]); (try simp only [List.set_cons_succ]); (try simp only [List.set_cons_zero])
              refine r_flt RB_refl 18 36 #[true, true, true, true, true, true, true, true, true, true, true, true, true, true, true, true, true, true, true] (by simp only [List.getElem?_toArray, List.getElem?_cons_succ, List.getElem?_cons_zero]; rfl) (by rfl) (by kernel_rfl) (by kernel_rfl) (by kernel_rfl) (fun _ _ _ _ h => h) rfl (by rfl) ?_
              apply Exists.intro
              apply And.intro
              · intro W hW
                first | (go_simp; with_reducible rfl) | go_simp
              (try simp only [Act.put, List.setIfInBounds_toArray]); (try simp only [List.set_cons_succ]); (try simp only [List.set_cons_zero])
              refine r_done (by kernel_rfl) ?_
              go_wp2_with fail
              go_roundw
              case rel => exact ⟨k + 1, by go_num, by omega, HN, hB7, hTb, bb⟩
              case measure => simp only [intOf]; omega
            · have HO2 : Hid (ownO (prs R) (pcs (L.drop (j + 1))) (t.set k true) = ownedP (pcs L) (prs R)) := Lib.hid (by
                rw [← HO.out, HS.out, ← HF.out, HFS.out, hmb, htk, if_pos ⟨rfl, rfl⟩]
                show _ = ownO (prs R) (pcs (L.drop (j + 1))) (t.set (0 + k) true)
                rw [Nat.zero_add])
              clear HF HFS hmb
              go_wp2_with fail
              refine r_start (R := RB) (by rfl) (n := 19) (L := #[false, false, false, false, false, false, false, false, false, false, false, false, false, false, false, false, false, false, false]) rfl rfl ?_
              have bd : Below wr.heap.size wr wr.drew := (Below.refl _ _).drew
              have hB7 := hB7.below bd
              have hTb := hTb.below bd
              have hRx := hRx.below bd
              have hr := (show RcR _ D' r from ⟨hr.1.below bd, hr.2.below bd⟩)
              have hs := RdC.below hs bd
              have ht := ht.below bd
              have bb := bb.thenB bd bb.size
              have HC := fun W hW => HC.out W (bd.trans (Below.mono hW bd.size))
              clear bd
              generalize wr.drew = wq at *
              have hmt := Match_any r ⟨ix, im, ⟨e1, e2, e3, e4, e5, e6, e7⟩, eA, ec⟩ D' D wq hr hs ht hr1 hs1
              rw [HM.out] at hmt
              unfold rcC cmC at hmt
              simp only at hmt
              refine r_flt RB_refl 0 18 #[true, false, false, false, false, false, false, false, false, false, false, false, false, false, false, false, false, false, false] (by simp only [List.getElem?_toArray, List.getElem?_cons_zero]; rfl) (by rfl) (by kernel_rfl) (by kernel_rfl) (by kernel_rfl) (fun _ _ _ _ h => h) rfl (by rfl) ?_
              apply Exists.intro
              apply And.intro
              · intro W hW
                first | (go_simp; with_reducible rfl) | go_simp
              (try simp only [Act.put, List.setIfInBounds_toArray]); (try simp only [List.set_cons_succ]); (try simp only [List.set_cons_zero])
              refine r_flt RB_refl 1 19 #[true, true, false, false, false, false, false, false, false, false, false, false, false, false, false, false, false, false, false] (by simp only [List.getElem?_toArray, List.getElem?_cons_succ, List.getElem?_cons_zero]; rfl) (by rfl) (by kernel_rfl) (by kernel_rfl) (by kernel_rfl) (fun _ _ _ _ h => h) rfl (by rfl) ?_
              apply Exists.intro
              apply And.intro
              · intro W hW
                first | (go_simp; with_reducible rfl) | go_simp
              (try simp only [Act.put, List.setIfInBounds_toArray]); (try simp only [List.set_cons_succ]); (try simp only [List.set_cons_zero])
              refine r_flt RB_refl 2 20 #[true, true, true, false, false, false, false, false, false, false, false, false, false, false, false, false, false, false, false] (by simp only [List.getElem?_toArray, List.getElem?_cons_succ, List.getElem?_cons_zero]; rfl) (by rfl) (by kernel_rfl) (by kernel_rfl) (by kernel_rfl) (fun _ _ _ _ h => h) rfl (by rfl) ?_
              apply Exists.intro
              apply And.intro
              · intro W hW
                first | (go_simp; with_reducible rfl) | go_simp
              (try simp only [Act.put, List.setIfInBounds_toArray]); (try simp only [List.set_cons_succ]); (try simp only [List.set_cons_zero])
              refine r_flt RB_refl 3 21 #[true, true, true, true, false, false, false, false, false, false, false, false, false, false, false, false, false, false, false] (by simp only [List.getElem?_toArray, List.getElem?_cons_succ, List.getElem?_cons_zero]; rfl) (by rfl) (by kernel_rfl) (by kernel_rfl) (by kernel_rfl) (fun _ _ _ _ h => h) rfl (by rfl) ?_
              apply Exists.intro
              apply And.intro
              · intro W hW
                first | (go_simp; with_reducible rfl) | go_simp
              (try simp only [Act.put, List.setIfInBounds_toArray]); (try simp only [List.set_cons_succ]); (try simp only [List.set_cons_zero])
              refine r_flt RB_refl 4 22 #[true, true, true, true, true, false, false, false, false, false, false, false, false, false, false, false, false, false, false] (by simp only [List.getElem?_toArray, List.getElem?_cons_succ, List.getElem?_cons_zero]; rfl) (by rfl) (by kernel_rfl) (by kernel_rfl) (by kernel_rfl) (fun _ _ _ _ h => h) rfl (by rfl) ?_
              apply Exists.intro
              apply And.intro
              · intro W hW
                first | (go_simp; with_reducible rfl) | go_simp
              (try simp only [Act.put, List.setIfInBounds_toArray]); (try simp only [List.set_cons_succ]); (try simp only [List.set_cons_zero])
              refine r_flt RB_refl 5 23 #[true, true, true, true, true, true, false, false, false, false, false, false, false, false, false, false, false, false, false] (by simp only [List.getElem?_toArray, List.getElem?_cons_succ, List.getElem?_cons_zero]; rfl) (by rfl) (by kernel_rfl) (by kernel_rfl) (by kernel_rfl) (fun _ _ _ _ h => h) rfl (by rfl) ?_
              apply Exists.intro
              apply And.intro
              · intro W hW
                first | (go_simp; with_reducible rfl) | go_simp
              (try simp only [Act.put, List.setIfInBounds_toArray]); (try simp only [List.set_cons_succ]); (try simp only [List.set_cons_zero])
              refine r_flt RB_refl 6 24 #[true, true, true, true, true, true, true, false, false, false, false, false, false, false, false, false, false, false, false] (by simp only [List.getElem?_toArray, List.getElem?_cons_succ, List.getElem?_cons_zero]; rfl) (by rfl) (by kernel_rfl) (by kernel_rfl) (by kernel_rfl) (fun _ _ _ _ h => h) rfl (by rfl) ?_
              apply Exists.intro
              apply And.intro
              · intro W hW
                first | (go_simp; with_reducible rfl) | go_simp
              (try simp only [Act.put, List.setIfInBounds_toArray]); (try simp only [List.set_cons_succ]); (try simp only [List.set_cons_zero])
              refine r_flt RB_refl 7 25 #[true, true, true, true, true, true, true, true, false, false, false, false, false, false, false, false, false, false, false] (by simp only [List.getElem?_toArray, List.getElem?_cons_succ, List.getElem?_cons_zero]; rfl) (by rfl) (by kernel_rfl) (by kernel_rfl) (by kernel_rfl) (fun _ _ _ _ h => h) rfl (by rfl) ?_
              apply Exists.intro
              apply And.intro
              · intro W hW
                first | (go_simp; with_reducible rfl) | go_simp
              (try simp only [Act.put, List.setIfInBounds_toArray]); (try simp only [List.set_cons_succ]); (try simp only [List.set_cons_zero])
              refine r_flt RB_refl 8 26 #[true, true, true, true, true, true, true, true, true, false, false, false, false, false, false, false, false, false, false] (by simp only [List.getElem?_toArray, List.getElem?_cons_succ, List.getElem?_cons_zero]; rfl) (by rfl) (by kernel_rfl) (by kernel_rfl) (by kernel_rfl) (fun _ _ _ _ h => h) rfl (by rfl) ?_
              apply Exists.intro
              apply And.intro
              · intro W hW
                have c0 := (hTb.below hW).cell k
                rw [boA_at _ hkt, htk] at c0
                go_simp; rfl
              (try simp only [Act.put, List.setIfInBounds_toArray]); (try simp only [List.set_cons_succ]); (try simp only [List.set_cons_zero])
              refine r_flt RB_refl 9 27 #[true, true, true, true, true, true, true, true, true, true, false, false, false, false, false, false, false, false, false] (by simp only [List.getElem?_toArray, List.getElem?_cons_succ, List.getElem?_cons_zero]; rfl) (by rfl) (by kernel_rfl) (by kernel_rfl) (by kernel_rfl) (fun _ _ _ _ h => h) rfl (by rfl) ?_
              apply Exists.intro
              apply And.intro
              · intro W hW
                first | (go_simp; with_reducible rfl) | go_simp
              (try simp only [Act.put, List.setIfInBounds_toArray]); (try simp only [List.set_cons_succ]); (try simp only [List.set_cons_zero])
              refine r_flt RB_refl 10 28 #[true, true, true, true, true, true, true, true, true, true, true, false, false, false, false, false, false, false, false] (by simp only [List.getElem?_toArray, List.getElem?_cons_succ, List.getElem?_cons_zero]; rfl) (by rfl) (by kernel_rfl) (by kernel_rfl) (by kernel_rfl) (fun _ _ _ _ h => h) rfl (by rfl) ?_
              apply Exists.intro
              apply And.intro
              · intro W hW
                first | (go_simp; with_reducible rfl) | go_simp
              (try simp only [Act.put, List.setIfInBounds_toArray]); (try simp only [List.set_cons_succ]); (try simp only [List.set_cons_zero])
              refine r_flt RB_refl 11 29 #[true, true, true, true, true, true, true, true, true, true, true, true, false, false, false, false, false, false, false] (by simp only [List.getElem?_toArray, List.getElem?_cons_succ, List.getElem?_cons_zero]; rfl) (by rfl) (by kernel_rfl) (by kernel_rfl) (by kernel_rfl) (fun _ _ _ _ h => h) rfl (by rfl) ?_
              apply Exists.intro
              apply And.intro
              · intro W hW
                first | (go_simp; with_reducible rfl) | go_simp
              (try simp only [Act.put, List.setIfInBounds_toArray]); (try simp only [List.set_cons_succ]); (try simp only [List.set_cons_zero])
              refine r_flt RB_refl 12 30 #[true, true, true, true, true, true, true, true, true, true, true, true, true, false, false, false, false, false, false] (by simp only [List.getElem?_toArray, List.getElem?_cons_succ, List.getElem?_cons_zero]; rfl) (by rfl) (by kernel_rfl) (by kernel_rfl) (by kernel_rfl) (fun _ _ _ _ h => h) rfl (by rfl) ?_
              apply Exists.intro
              apply And.intro
              · intro W hW
                first | (go_simp; with_reducible rfl) | go_simp
              (try simp only [Act.put, List.setIfInBounds_toArray]); (try simp only [List.set_cons_succ]); (try simp only [List.set_cons_zero])
              refine r_flt RB_refl 13 31 #[true, true, true, true, true, true, true, true, true, true, true, true, true, true, false, false, false, false, false] (by simp only [List.getElem?_toArray, List.getElem?_cons_succ, List.getElem?_cons_zero]; rfl) (by rfl) (by kernel_rfl) (by kernel_rfl) (by kernel_rfl) (fun _ _ _ _ h => h) rfl (by rfl) ?_
              apply Exists.intro
              apply And.intro
              · intro W hW
                obtain ⟨c0, c1, c2, c3, c4, c5, c6, c7, c8, c9, c10, c11, c12, c13⟩ := HC W hW
                go_simp; rfl
              (try simp only [Act.put, List.setIfInBounds_toArray]); (try simp only [List.set_cons_succ]); (try simp only [List.set_cons_zero])
              refine r_flt RB_refl 14 32 #[true, true, true, true, true, true, true, true, true, true, true, true, true, true, true, false, false, false, false] (by simp only [List.getElem?_toArray, List.getElem?_cons_succ, List.getElem?_cons_zero]; rfl) (by rfl) (by kernel_rfl) (by kernel_rfl) (by kernel_rfl) (fun _ _ _ _ h => h) rfl (by rfl) ?_
              apply Exists.intro
              apply And.intro
              · intro W hW
                have x0 := (hB7.below hW).cell 0
                have x1 := (hB7.below hW).cell 1
                have x2 := (hB7.below hW).cell 2
                have x3 := (hB7.below hW).cell 3
                have x4 := (hB7.below hW).cell 4
                have x5 := (hB7.below hW).cell 5
                have x6 := (hB7.below hW).cell 6
                have x7 := (hB7.below hW).cell 7
                have x8 := (hB7.below hW).cell 8
                simp at x0 x1 x2 x3 x4 x5 x6 x7 x8
                go_simp; rfl
              (try simp only [Act.put, List.setIfInBounds_toArray]); (try simp only [List.set_cons_succ]); (try simp only [List.set_cons_zero])
              refine r_one RB_trans 15 (by kernel_rfl) ?_
              refine alt_call 33 #[true, true, true, true, true, true, true, true, true, true, true, true, true, true, true, true, false, false, false] (by simp only [List.getElem?_toArray, List.getElem?_cons_succ, List.getElem?_cons_zero]; rfl) (by rfl) rfl (by rfl) (by go_simp; first | exact ⟨rfl, rfl⟩ | rfl) ?_
              refine hmt.mono ?_
              clear hmt
              rintro e' w7 ⟨rfl, b7⟩
              refine ⟨_, rfl, b7, ?_⟩
              have hB7 := hB7.below b7
              have hTb := hTb.below b7
              have bb := bb.thenB b7 bb.size
              clear HC hRx hr hs b7
              (try simp only [Act.put, List.setIfInBounds_toArray]); (try simp only [List.set_cons_succ]); (try simp only [List.set_cons_zero])
              refine r_flt RB_refl 16 34 #[true, true, true, true, true, true, true, true, true, true, true, true, true, true, true, true, true, false, false] (by simp only [List.getElem?_toArray, List.getElem?_cons_succ, List.getElem?_cons_zero]; rfl) (by rfl) (by kernel_rfl) (by kernel_rfl) (by kernel_rfl) (fun _ _ _ _ h => h) rfl (by rfl) ?_
              apply Exists.intro
              apply And.intro
              · intro W hW
                first | (go_simp; with_reducible rfl) | go_simp
              (try simp only [Act.put, List.setIfInBounds_toArray]); (try simp only [List.set_cons_succ]); (try simp only [List.set_cons_zero])
              refine r_flt RB_refl 17 35 #[true, true, true, true, true, true, true, true, true, true, true, true, true, true, true, true, true, true, false] (by simp only [List.getElem?_toArray, List.getElem?_cons_succ, List.getElem?_cons_zero]; rfl) (by rfl) (by kernel_rfl) (by kernel_rfl) (by kernel_rfl) (fun _ _ _ _ h => h) rfl (by rfl) ?_
              apply Exists.intro
              apply And.intro
              · intro W hW
                first | (go_simp; with_reducible rfl) | go_simp
              (try simp only [Act.put, List.setIfInBounds_toArray]); (try simp only [List.set_cons_succ]); (try simp only [List.set_cons_zero])
              refine r_flt RB_refl 18 36 #[true, true, true, true, true, true, true, true, true, true, true, true, true, true, true, true, true, true, true] (by simp only [List.getElem?_toArray, List.getElem?_cons_succ, List.getElem?_cons_zero]; rfl) (by rfl) (by kernel_rfl) (by kernel_rfl) (by kernel_rfl) (fun _ _ _ _ h => h) rfl (by rfl) ?_
              apply Exists.intro
              apply And.intro
              · intro W hW
                first | (go_simp; with_reducible rfl) | go_simp
              (try simp only [Act.put, List.setIfInBounds_toArray]); (try simp only [List.set_cons_succ]); (try simp only [List.set_cons_zero])
              refine r_done (by kernel_rfl) ?_
              have hTk := hTb.cell k
              have hTf := hTb.frozen k
              rw [boA_at _ hkt] at hTk
              have hsx := (Mod.refl (· = gT) w7).setG k (.bool true)
              have hTs := hTb.set_ k (.bool true)
              rw [boA_set] at hTs
              have hgT := hgT.out
              have hke : ((k : Int) == (R.length : Int)) = false := by simp; omega
              go_wp2_with fail
              go_roundw
              case rel => exact ⟨j + 1, t.set k true, by go_num, hlt, by rw [List.length_set]; exact htl, HO2, hTs, bb.thenM hsx bb.size fun b hb e => by omega⟩
              case measure => simp only [intOf]; omega
          · have HN : Hid ((freeO cc (prs (R.drop (k + 1))) (t.drop (k + 1))).map (· + (k + 1)) = freeO cc (prs R) t) := Lib.hid (by
              rw [← HF.out, HFS.out, htk, if_neg (fun h => by cases h.1)]
              cases freeO cc (prs (R.drop (k + 1))) (t.drop (k + 1)) with
              | none => rfl
              | some y => show some (y + (k + 1)) = some (y + 1 + k); congr 1; omega)
            have c0 := hTb.cell k
            rw [boA_at _ hkt, htk] at c0
            clear HF HFS HC hRx hr hs
            go_wp2_with fail
            go_quiet (fail)
            have bd := below_drewN (Below.refl wr.heap.size wr) nq
            have hB7 := hB7.below bd
            have hTb := hTb.below bd
            have bb := bb.thenB bd bb.size
            go_wp2_with fail
            go_roundw
            case rel => exact ⟨k + 1, by go_num, by omega, HN, hB7, hTb, bb⟩
            case measure => simp only [intOf]; omega
        · obtain rfl : k = R.length := by omega
          have HE : Hid (ownedP (pcs L) (prs R) = false) := Lib.hid (by
            rw [← HO.out, HS.out, ← HF.out, free_end cc R t R.length (Nat.le_refl _)]; rfl)
          clear HF
          go_wp2_with fail
          go_quiet (fail)
          have bd := below_drewN (Below.refl wr.heap.size wr) nq
          have bb := bb.thenB bd bb.size
          go_wp2_with fail
          go_ret
          exact ⟨by rw [HE.out] <;> rfl, bb⟩
    · obtain rfl : j = L.length := by omega
      have HE : Hid (ownedP (pcs L) (prs R) = true) := Lib.hid (by rw [← HO.out, List.drop_length]; rfl)
      go_wp2_with fail
      go_ret
      exact ⟨by rw [HE.out] <;> rfl, bb⟩
end Go.Proofs.YthkeoimjjgmppaaDoor

/- The past: whether all records can have been: the code. -/
namespace Go.Proofs.YthkeoimjjgmppaaDoor
open Go.RowKit
set_option linter.unusedVariables false
set_option maxRecDepth 100000

def allO (size : Int) (cs : List PC) : Nat → Bool
  | 0 => true
  | m + 1 => allO size cs m && (imO size cs (m : Int) (lastO 0 cs)).isSome
theorem all_four (size : Int) (cs : List PC) (rs : List PR) : rightP size cs rs = (allO size cs 4 && ownedP cs rs && rs.all (answeredP size cs)) := by
  unfold rightP allO allO allO allO allO
  rw [Bool.true_and]
  rfl
theorem all_no {size : Int} {cs : List PC} {m : Nat} (h : (imO size cs (m : Int) (lastO 0 cs)).isSome = false) : ∀ k, m < k → allO size cs k = false
  | 0, hk => absurd hk (by omega)
  | k + 1, hk => by
    unfold allO
    by_cases e : m = k
    · subst e; rw [h, Bool.and_false]
    · rw [all_no h k (by omega), Bool.false_and]
theorem last_step (L : List CmV) (j : Nat) (hj : j < L.length) (a : Int) : lastO a (pcs (L.drop j)) = lastO (max a L[j].ix) (pcs (L.drop (j + 1))) := by
  rw [List.drop_eq_getElem_cons hj]
  rfl
set_option maxHeartbeats 8000000 in
theorem all_any (D : Nat → Prop) (A : Option Addr) (c : Nat) (L : List CmV) (size : Int) (g6 g5 : Nat) (w : World) (hL : CmsR w D A c L) (h6 : Blk w g6 27 #[.slice A L.length c]) (h5 : Blk w g5 3 #[.int .i64 size]) :
    Calls Tryd.prog 35 #[.pointer (some ⟨g6, 0, none⟩), .pointer (some ⟨g5, 0, none⟩)] w fun e w' => e = .returned (.bool (allO size (pcs L) 4)) ∧ Below w.heap.size w w' := by
  have hc := hL.cap
  have hm := hL.max
  have c6 := h6.cell 0
  have c5 := h5.cell 0
  simp at c6 c5
  go_enter Tryd.func35, Tryd.ntmps35
  go_wp2_with fail
  go_loopw [3, 4, 6, 7, 8, 9] (fun s3 s4 s6 s7 s8 s9 wr => ∃ m : Nat, s9 = .int .i64 (m : Int) ∧ m ≤ 4 ∧ Hid (allO size (pcs L) m = true) ∧ Below w.heap.size w wr) (fun _ _ _ _ _ s9 _ => 4 - (intOf s9).toNat)
  case atStart => exact ⟨0, rfl, Nat.zero_le _, Lib.hid rfl, Below.refl _ _⟩
  case round =>
    clear c6 c5
    obtain ⟨m, rfl, hm4, HA, bb⟩ := hrel
    by_cases hlt : m < 4
    · have hmd : decide ((m : Int) < 4) = true := decide_eq_true (by omega)
      have c6 := (h6.below bb).cell 0
      simp at c6
      go_wp2_with fail
      go_loopw [4, 6, 14] (fun s4 s6 s14 wx => ∃ (j : Nat) (a : Int), s14 = .int .i64 (j : Int) ∧ s4 = .int .i64 a ∧ j ≤ L.length ∧ Hid (lastO a (pcs (L.drop j)) = lastO 0 (pcs L)) ∧ Below w.heap.size w wx) (fun _ _ s14 _ => L.length - (intOf s14).toNat)
      case atStart => exact ⟨0, 0, rfl, rfl, Nat.zero_le _, Lib.hid rfl, bb⟩
      case round =>
        clear bb c6
        obtain ⟨j, a, rfl, rfl, hj, HLs, bb⟩ := hrel
        by_cases hjl : j < L.length
        · obtain ⟨ad, rfl, d0, d1, d2, d3, d4, d5, d6, d7, d8⟩ := (hL.below bb).at_ hjl
          have HS := Lib.hid (last_step L j hjl a)
          generalize L[j] = s at *
          obtain ⟨ix, im, ⟨e1, e2, e3, e4, e5, e6, e7⟩, eA, ec⟩ := s
          simp only at d0 d1 d2 d3 d4 d5 d6 d7 d8
          have bn := below_new wr (.cells #[.int .i64 ix, .int .i64 im, .int .i64 e1, .int .i64 e2, .int .i64 e3, .int .i64 e4, .int .i64 e5, .int .i64 e6, .slice eA e7.length ec] 50)
          have H2 : Hid (lastO (max a ix) (pcs (L.drop (j + 1))) = lastO 0 (pcs L)) := Lib.hid (by rw [← HLs.out, HS.out])
          clear HLs HS
          go_wp2_with fail
          go_roundw
          case rel => exact ⟨j + 1, max a ix, by go_num, rfl, hjl, H2, bb.thenB bn bb.size⟩
          case measure => simp only [intOf]; omega
        · obtain rfl : j = L.length := by omega
          have H2 : Hid (a = lastO 0 (pcs L)) := Lib.hid (by rw [← HLs.out, List.drop_length]; rfl)
          have c6 := (h6.below bb).cell 0
          have c5 := (h5.below bb).cell 0
          simp at c6 c5
          have hat := At_any D A c L size (m : Int) a wr (hL.below bb)
          unfold AtR at hat
          have HN : Hid ((imO size (pcs L) (m : Int) a).isSome = false → allO size (pcs L) 4 = false) := Lib.hid (fun h => all_no (m := m) (by rw [← H2.out]; exact h) 4 hlt)
          have HY : Hid ((imO size (pcs L) (m : Int) a).isSome = true → allO size (pcs L) (m + 1) = true) := Lib.hid (fun h => by unfold allO; rw [HA.out, ← H2.out, h]; rfl)
          generalize (imO size (pcs L) (m : Int) a).isSome = z at *
          clear HLs H2 HA
          go_wp2_with fail
          refine hat.mono ?_
          clear hat
          rintro e w4 ⟨i, rfl, _, _, b4⟩
          have bb := bb.thenB b4 bb.size
          cases z
          · have HE := Lib.hid (HN.out rfl)
            clear HN HY
            go_wp2_with first
              | (with_reducible show wpList _ _ _ _ _ _
                 refine wpList_rowB rfl 35 (.tmp 7) (.tmp 29) rfl w4.heap.size 35 _ (imA i) rfl rfl (Blk.new w4 35 #[.slice none 0 0, .slice none 0 0, .int .i64 0]) infoIm rfl (imA_ok _) ?_
                 intro w5 hB9 mm
                 have nn := im_new mm)
            go_ret
            exact ⟨by rw [HE.out] <;> rfl, bb.thenB nn bb.size⟩
          · have HE := Lib.hid (HY.out rfl)
            clear HN HY
            go_wp2_with first
              | (with_reducible show wpList _ _ _ _ _ _
                 refine wpList_rowB rfl 35 (.tmp 7) (.tmp 29) rfl w4.heap.size 35 _ (imA i) rfl rfl (Blk.new w4 35 #[.slice none 0 0, .slice none 0 0, .int .i64 0]) infoIm rfl (imA_ok _) ?_
                 intro w5 hB9 mm
                 have nn := im_new mm)
            go_roundw
            case rel => exact ⟨m + 1, by go_num, by omega, HE, bb.thenB nn bb.size⟩
            case measure => simp only [intOf]; omega
    · obtain rfl : m = 4 := by omega
      go_wp2_with fail
      go_ret
      exact ⟨by rw [HA.out] <;> rfl, bb⟩
set_option maxHeartbeats 2000000 in
theorem owned3_any (D D' : Nat → Prop) (A A' : Option Addr) (c c' : Nat) (L : List CmV) (R : List RcV) (g6 g7 : Nat) (w : World) (hL : CmsR w D A c L) (hR : RcsR w D' A' c' R) (ht : TabE w) (hl1 : ∀ s ∈ R, s.call.data.length ≤ big) (hl2 : ∀ s ∈ L, s.e.data.length ≤ big) (hn : R.length ≤ 1000)
    (h6 : Blk w g6 27 #[.slice A L.length c]) (h7 : Blk w g7 28 #[.slice A' R.length c']) :
    Calls Tryd.prog 39 #[.pointer (some ⟨g6, 0, none⟩), .pointer (some ⟨g7, 0, none⟩)] w fun e w' => e = .returned (.bool (ownedP (pcs L) (prs R))) ∧ Below w.heap.size w w' := by
  have c6 := h6.cell 0
  have c7 := h7.cell 0
  simp at c6 c7
  have ho := Owned_any D D' A A' c c' L R w hL hR ht hl1 hl2 hn
  go_enter Tryd.func39, Tryd.ntmps39
  go_wp2_with fail
  refine ho.mono ?_
  rintro e w2 ⟨rfl, b2⟩
  go_wp2_with fail
  go_ret
  exact ⟨rfl, b2⟩
/-! ### each -/
set_option maxHeartbeats 4000000 in
theorem eachclo_any (D D' : Nat → Prop) (A : Option Addr) (c : Nat) (L : List CmV) (size : Int) (r : RcV) (g4 g5 g6 : Nat) (w : World) (hL : CmsR w D' A c L) (hr : RcR w D r) (ht : TabE w) (hl1 : r.call.data.length ≤ big) (hl2 : ∀ s ∈ L, s.e.data.length ≤ big) (h64 : r.call.len ≤ 9223372036854775807)
    (h4 : Blk w g4 47 #[.int .i64 4, .int .i64 2, .int .i64 16]) (h5 : Blk w g5 3 #[.int .i64 size]) (h6 : Blk w g6 27 #[.slice A L.length c]) :
    Calls Tryd.prog 38 #[.agg (rcC r).toArray, .pointer (some ⟨g4, 0, none⟩), .pointer (some ⟨g5, 0, none⟩), .pointer (some ⟨g6, 0, none⟩)] w fun e w' => e = .returned (.bool (!answeredP size (pcs L) r.p)) ∧ Below w.heap.size w w' := by
  have bn := below_new w (.cells (rcC r).toArray 44)
  have hN := Blk.new w 44 (rcC r).toArray
  have ha := Answered_any D D' A c L size r _ (hL.below bn) ⟨hr.1.below bn, hr.2.below bn⟩ (ht.below bn) hl1 hl2 h64
  have x0 := (h4.below bn).cell 0
  have x1 := (h4.below bn).cell 1
  have x2 := (h4.below bn).cell 2
  have y0 := (h5.below bn).cell 0
  have z0 := (h6.below bn).cell 0
  simp at x0 x1 x2 y0 z0
  have i1 := infoRc r
  generalize answeredP size (pcs L) r.p = mb at *
  generalize (rcC r).toArray = cR at *
  go_enter Tryd.func38, Tryd.ntmps38
  go_wp2_with first
    | (with_reducible show wpList _ _ _ _ _ _
       refine wpList_load_row rfl 44 (.tmp 4) rfl w.heap.size rfl 44 _ (0, 0) _ hN Tryd.underlying44 rfl i1 ?_)
  refine ha.mono ?_
  clear ha
  rintro e w2 ⟨rfl, b2⟩
  go_wp2_with fail
  go_ret
  exact ⟨rfl, bn.thenB' b2⟩
def idxA (f : PR → Bool) : List PR → Nat → Int
  | [], _ => -1
  | r :: rs, k => if f r = true then (k : Int) else idxA f rs (k + 1)
theorem idxA_any (f : PR → Bool) : ∀ (rs : List PR) (k : Nat), decide (0 ≤ idxA f rs k) = rs.any f
  | [], _ => rfl
  | r :: rs, k => by
    unfold idxA
    rw [List.any_cons]
    by_cases h : f r = true
    · rw [if_pos h, h]; exact decide_eq_true (by omega)
    · rw [if_neg h, show f r = false by simpa using h, Bool.false_or]; exact idxA_any f rs (k + 1)
theorem idxA_here {f : PR → Bool} {R : List RcV} {k : Nat} (hk : k < R.length) (h : idxA f (prs (R.drop k)) k = idxA f (prs R) 0) (he : f R[k].p = true) : idxA f (prs R) 0 = (k : Int) := by
  rw [List.drop_eq_getElem_cons hk] at h
  rw [← h]
  show (if f R[k].p = true then _ else _) = _
  rw [if_pos he]
theorem idxA_next {f : PR → Bool} {R : List RcV} {k : Nat} (hk : k < R.length) (h : idxA f (prs (R.drop k)) k = idxA f (prs R) 0) (he : f R[k].p = false) : idxA f (prs (R.drop (k + 1))) (k + 1) = idxA f (prs R) 0 := by
  rw [List.drop_eq_getElem_cons hk] at h
  rw [← h]
  show _ = (if f R[k].p = true then _ else _)
  rw [if_neg (by rw [he]; decide)]
  rfl
set_option maxHeartbeats 4000000 in
theorem rcIndex_any (D D' : Nat → Prop) (A A' : Option Addr) (c c' : Nat) (L : List CmV) (R : List RcV) (size : Int) (g4 g5 g6 : Nat) (w : World) (hL : CmsR w D A c L) (hR : RcsR w D' A' c' R) (ht : TabE w) (hl1 : ∀ s ∈ R, s.call.data.length ≤ big) (hl2 : ∀ s ∈ L, s.e.data.length ≤ big) (h64 : ∀ s ∈ R, s.call.len ≤ 9223372036854775807)
    (h4 : Blk w g4 47 #[.int .i64 4, .int .i64 2, .int .i64 16]) (h5 : Blk w g5 3 #[.int .i64 size]) (h6 : Blk w g6 27 #[.slice A L.length c]) :
    Calls Tryd.prog 59 #[.slice A' R.length c', .func (.func 38) #[] #[.pointer (some ⟨g4, 0, none⟩), .pointer (some ⟨g5, 0, none⟩), .pointer (some ⟨g6, 0, none⟩)]] w fun e w' => e = .returned (.int .i64 (idxA (fun r => !answeredP size (pcs L) r) (prs R) 0)) ∧ Below w.heap.size w w' := by
  have hent : ∀ (args : Array Value) (w : World), (callFunc 38 args).run Tryd.prog w = .ok (.enter 38 args) w := Go.Proofs.enters_of Tryd.func38 (by kernel_rfl) rfl
  have hc := hR.cap
  have hm := hR.max
  obtain ⟨f, hf⟩ : ∃ f : PR → Bool, f = fun r => !answeredP size (pcs L) r := ⟨_, rfl⟩
  rw [← hf]
  have HFn : Hid (∀ r, (!answeredP size (pcs L) r) = f r) := Lib.hid (fun r => by rw [hf])
  clear hf
  go_enter Tryd.func59, Tryd.ntmps59
  go_wp2_with fail
  go_loopw [5, 8] (fun s5 i wr => ∃ k : Nat, k ≤ R.length ∧ i = .int .i64 (k : Int) ∧ Hid (idxA f (prs (R.drop k)) k = idxA f (prs R) 0) ∧ Below w.heap.size w wr) (fun _ i _ => R.length - (intOf i).toNat)
  case atStart => exact ⟨0, Nat.zero_le _, rfl, Lib.hid rfl, Below.refl _ _⟩
  case round =>
    obtain ⟨k, hk, rfl, HF, bb⟩ := hrel
    by_cases hlt : k < R.length
    · have hs := (hR.below bb).all _ (List.getElem_mem hlt)
      obtain ⟨ad, rfl, d0, d1, d2, d3, d4, d5, d6, d7, d8, d9, d10, d11, d12, d13⟩ := (hR.below bb).at_ hlt
      have hcl := eachclo_any D' D A c L size R[k] g4 g5 g6 wr (hL.below bb) hs (ht.below bb) (hl1 _ (List.getElem_mem hlt)) hl2 (h64 _ (List.getElem_mem hlt)) (h4.below bb) (h5.below bb) (h6.below bb)
      rw [HFn.out] at hcl
      obtain ⟨mb, hmb⟩ : ∃ mb, f R[k].p = mb := ⟨_, rfl⟩
      rw [hmb] at hcl
      have E1 := fun he => Lib.hid (idxA_here hlt HF.out he)
      have E2 := fun he => Lib.hid (idxA_next hlt HF.out he)
      rw [hmb] at E1 E2
      unfold rcC at hcl
      clear hmb HF hs
      generalize R[k] = s at *
      obtain ⟨x1, ⟨x2, x3, x4, x5, x6, x7⟩, x8, x9, x10, x11, x12, x13, x14, x15, x16, x17, x18⟩ := s
      simp only at d0 d1 d2 d3 d4 d5 d6 d7 d8 d9 d10 d11 d12 d13 hcl
      cases mb
      · have E := E2 rfl
        clear E1 E2
        go_wp2_with fail
        refine hcl.mono ?_
        clear hcl
        rintro e w2 ⟨rfl, b2⟩
        go_wp2_with fail
        go_roundw
        case rel => exact ⟨k + 1, by omega, by go_num, E, bb.thenB' b2⟩
        case measure => simp [intOf] <;> omega
      · have E := E1 rfl
        clear E1 E2
        go_wp2_with fail
        refine hcl.mono ?_
        clear hcl
        rintro e w2 ⟨rfl, b2⟩
        go_wp2_with fail
        go_ret
        exact ⟨by rw [E.out] <;> rfl, bb.thenB' b2⟩
    · have hk0 : k = R.length := by omega
      have E : Hid (idxA f (prs R) 0 = -1) := Lib.hid (by rw [← HF.out, hk0, List.drop_length]; rfl)
      clear HF
      go_wp2_with fail
      go_ret
      exact ⟨by rw [E.out] <;> rfl, bb⟩
theorem any_not (f : PR → Bool) : ∀ rs : List PR, (!(rs.any fun r => !f r)) = rs.all f
  | [] => rfl
  | r :: rs => by
    rw [List.any_cons, List.all_cons, ← any_not f rs]
    cases f r <;> simp
set_option maxHeartbeats 2000000 in
theorem each_any (D D' : Nat → Prop) (A A' : Option Addr) (c c' : Nat) (L : List CmV) (R : List RcV) (size : Int) (g7 g4 g5 g6 : Nat) (w : World) (hL : CmsR w D A c L) (hR : RcsR w D' A' c' R) (ht : TabE w) (hl1 : ∀ s ∈ R, s.call.data.length ≤ big) (hl2 : ∀ s ∈ L, s.e.data.length ≤ big) (h64 : ∀ s ∈ R, s.call.len ≤ 9223372036854775807)
    (h7 : Blk w g7 28 #[.slice A' R.length c']) (h4 : Blk w g4 47 #[.int .i64 4, .int .i64 2, .int .i64 16]) (h5 : Blk w g5 3 #[.int .i64 size]) (h6 : Blk w g6 27 #[.slice A L.length c]) :
    Calls Tryd.prog 36 #[.pointer (some ⟨g7, 0, none⟩), .pointer (some ⟨g4, 0, none⟩), .pointer (some ⟨g5, 0, none⟩), .pointer (some ⟨g6, 0, none⟩)] w fun e w' => e = .returned (.bool ((prs R).all (answeredP size (pcs L)))) ∧ Below w.heap.size w w' := by
  have c7 := h7.cell 0
  simp at c7
  have hix := rcIndex_any D D' A A' c c' L R size g4 g5 g6 w hL hR ht hl1 hl2 h64 h4 h5 h6
  have hz := idxA_any (fun r => !answeredP size (pcs L) r) (prs R) 0
  rw [← any_not, ← hz]
  clear hz
  have hcon : Calls Tryd.prog 37 #[.slice A' R.length c', .func (.func 38) #[] #[.pointer (some ⟨g4, 0, none⟩), .pointer (some ⟨g5, 0, none⟩), .pointer (some ⟨g6, 0, none⟩)]] w fun e w' => e = .returned (.bool (decide (0 ≤ idxA (fun r => !answeredP size (pcs L) r) (prs R) 0))) ∧ Below w.heap.size w w' := by
    generalize idxA (fun r => !answeredP size (pcs L) r) (prs R) 0 = z at *
    go_enter Tryd.func37, Tryd.ntmps37
    go_wp2_with fail
    refine hix.mono ?_
    rintro e w2 ⟨rfl, b2⟩
    go_wp2_with fail
    go_ret
    exact ⟨rfl, b2⟩
  clear hix
  generalize idxA (fun r => !answeredP size (pcs L) r) (prs R) 0 = z at *
  go_enter Tryd.func36, Tryd.ntmps36
  go_wp2_with fail
  refine hcon.mono ?_
  rintro e w2 ⟨rfl, b2⟩
  go_wp2_with fail
  go_ret
  exact ⟨rfl, b2⟩
end Go.Proofs.YthkeoimjjgmppaaDoor
