/- Parts of the proof, joined: PsF PsG PsH PsI. -/
import Derived.Test.YthkeoimjjgmppaaDoorQm
import Derived.Test.YthkeoimjjgmppaaDoorQj
import Derived.Deep.Cut
import Derived.Deep.CutBlock
import Derived.Deep.CutRange
import Derived.Shelf.Abstract
/- The past: an image behind the commits up to an index: the document. -/
namespace Go.Proofs.YthkeoimjjgmppaaDoor
open Go.RowKit
set_option linter.unusedVariables false
set_option maxRecDepth 100000

def prevO (L : List CmV) (j : Nat) : Int := match j with
  | 0 => 0
  | k + 1 => match L[k]? with | some s => s.ix | none => 0
theorem prev_succ {L : List CmV} {k : Nat} (hk : k < L.length) : prevO L (k + 1) = L[k].ix := by
  unfold prevO
  simp only [List.getElem?_eq_getElem hk]
def notLt (a b : Int) : Bool := !decide (a < b)
set_option maxHeartbeats 8000000 in
theorem rAt_any (D : Nat → Prop) (A : Option Addr) (c : Nat) (L : List CmV) (size image index : Int) (w : World) (h : CmsR w D A c L) :
    Calls Tryd.prog 23 #[.int .i64 size, .slice A L.length c, .int .i64 image, .int .i64 index] w (AtR size (pcs L) image index w) := by
  have hc := h.cap
  have hm := h.max
  have hB8 := Blk.new w 35 (imA zIm)
  have b0 := below_new w (.cells (imA zIm) 35)
  have hnew := fun u => rNew18_any size u
  unfold zIm imA at hB8 b0
  simp only [List.length_nil] at hB8 b0
  generalize hw0 : w.alloc (.cells #[.slice none 0 0, .slice none 0 0, .int .i64 0] 35) = w0 at *
  go_enter Tryd.func23, Tryd.ntmps23
  go_wp2_with fail
  refine (hnew _).mono ?_
  clear hnew hw0
  rintro e w2 ⟨i0, rfl, hi0, o0, b2⟩
  have hB8 := hB8.below b2
  have hg : w.heap.size < w2.heap.size := hB8.lt
  have b2 := b0.thenB' b2
  have r0 := o0.rd
  have hI0 := Lib.hid hi0
  clear o0 hi0 b0
  go_wp2_with first
    | (with_reducible show wpList _ _ _ _ _ _
       refine wpList_rowB rfl 35 (.tmp 10) (.tmp 19) rfl w2.heap.size 35 _ (imA i0) rfl rfl (Blk.new w2 35 #[.slice none 0 0, .slice none 0 0, .int .i64 0]) infoIm rfl (imA_ok _) ?_
       intro w3 hB10 mm
       have nn := im_new mm)
  have hB8 := hB8.below nn
  have b3 := b2.thenB' nn
  have r0 := (((r0.below nn).off hB10).off (j := zIm) hB8).imp (D' := fun b => b ≠ w.heap.size ∧ b ≠ w2.heap.size) fun b _ h => ⟨h.2, h.1.2⟩
  clear mm nn b2
  generalize w2.heap.size = g10 at *
  go_wp2_with fail
  go_loopw [11, 12] (fun s11 s12 wr => ∃ (j : Nat), s11 = .int .i64 (j : Int) ∧ j ≤ L.length ∧ Hid (risO (prevO L j) (pcs (L.drop j)) = risO 0 (pcs L)) ∧ (0 ≤ prevO L j) ∧ Below w3.heap.size w3 wr) (fun s11 _ _ => L.length - (intOf s11).toNat)
  case atStart => exact ⟨0, rfl, Nat.zero_le _, Lib.hid rfl, Int.le_refl _, Below.refl _ _⟩
  case round =>
    obtain ⟨j, rfl, hj, HR, hp0, bq⟩ := hrel
    have bb := b3.thenB' bq
    by_cases hlt : j < L.length
    · obtain ⟨ad, rfl, d0, d1, d2, d3, d4, d5, d6, d7, d8⟩ := (h.below bb).at_ hlt
      have HS := Lib.hid (ris_step L j hlt (prevO L j))
      have HP := Lib.hid (prev_succ hlt)
      generalize L[j] = s at *
      obtain ⟨ix, im, ⟨e1, e2, e3, e4, e5, e6, e7⟩, eA, ec⟩ := s
      simp only at d0 d1 d2 d3 d4 d5 d6 d7 d8
      have bn := below_new wr (.cells #[.int .i64 ix, .int .i64 im, .int .i64 e1, .int .i64 e2, .int .i64 e3, .int .i64 e4, .int .i64 e5, .int .i64 e6, .slice eA e7.length ec] 50)
      have bq2 := bq.thenB' bn
      have bb2 := b3.thenB' bq2
      have hN := Blk.new wr 50 #[.int .i64 ix, .int .i64 im, .int .i64 e1, .int .i64 e2, .int .i64 e3, .int .i64 e4, .int .i64 e5, .int .i64 e6, .slice eA e7.length ec]
      go_upto_region 6 with fail
      clear d0 d1 d2 d3 d4 d5 d6 d7 d8 bn bb bq
      generalize wr.alloc (.cells #[.int .i64 ix, .int .i64 im, .int .i64 e1, .int .i64 e2, .int .i64 e3, .int .i64 e4, .int .i64 e5, .int .i64 e6, .slice eA e7.length ec] 50) = wb at *
      generalize wr.heap.size = bx at *
      have d0 := hN.cell 0
      simp at d0
      go_cut [47] from 20 to 48 (fun s47 wx => s47 = .bool (notLt (prevO L j) ix) ∧ Below wb.heap.size wb wx)
      case first =>
        rcases j with _ | k
        · have HX : Hid (notLt (prevO L 0) ix = decide (ix < 1)) := by
            unfold Hid notLt prevO
            simp only
            by_cases h1 : ix < 1
            · rw [decide_eq_true h1, decide_eq_false (by omega)]; rfl
            · rw [decide_eq_false h1, decide_eq_true (by omega)]; rfl
          by_cases h1 : ix < 1
          · go_quiet (fail)
            go_wp2_with fail
            go_meet
            case rel => exact ⟨by rw [HX.out, decide_eq_true h1], below_drewN (Below.refl _ _) _⟩
          · go_quiet (fail)
            go_wp2_with fail
            go_meet
            case rel => exact ⟨by rw [HX.out, decide_eq_false (by omega)], below_drewN (Below.refl _ _) _⟩
        · have hk : k < L.length := by omega
          obtain ⟨_, hA, c0, _⟩ := (h.below bb2).at_ hk
          injection hA with hA
          subst hA
          rw [← prev_succ hk] at c0
          generalize prevO L (k + 1) = pv at *
          by_cases h1 : ix < 1
          · have HX : Hid (notLt pv ix = true) := by unfold Hid notLt; rw [decide_eq_false (by omega)]; rfl
            go_quiet (fail)
            go_wp2_with fail
            go_meet
            case rel => exact ⟨by rw [HX.out], below_drewN (Below.refl _ _) _⟩
          · have hwr : IntKind.i64.wrap (((k + 1 : Nat) : Int) - 1) = (k : Int) := by rw [IntKind.wrap_i64]; omega
            have hwr2 : IntKind.i64.wrap ((k : Int) + 1 - 1) = (k : Int) := by rw [IntKind.wrap_i64]; omega
            have HX : Hid (notLt pv ix = decide (ix ≤ pv)) := by
              unfold Hid notLt
              by_cases h2 : ix ≤ pv
              · rw [decide_eq_true h2, decide_eq_false (by omega)]; rfl
              · rw [decide_eq_false h2, decide_eq_true (by omega)]; rfl
            go_quiet (fail)
            go_wp2_with fail
            go_meet
            case rel => exact ⟨by rw [HX.out], below_drewN (Below.refl _ _) _⟩
      case rest =>
        obtain ⟨rfl, bw⟩ := hcut
        have bb3 := bb2.thenB' bw
        have bq3 := bq2.thenB' bw
        have hB8 := hB8.below (bq2.thenB' bw)
        clear hN d0 bw
        obtain ⟨t, ht⟩ : ∃ t, notLt (prevO L j) ix = t := ⟨_, rfl⟩
        rw [ht]
        unfold notLt at ht
        cases t
        · have hlt2 : prevO L j < ix := by simpa using ht
          have H2 : Hid (risO (prevO L (j + 1)) (pcs (L.drop (j + 1))) = risO 0 (pcs L)) := Lib.hid (by rw [HP.out, ← HR.out, HS.out]; simp [hlt2])
          have hp1 : 0 ≤ prevO L (j + 1) := by rw [HP.out]; show 0 ≤ ix; omega
          clear HR HS ht
          go_wp2_with fail
          go_roundw
          case rel => exact ⟨j + 1, by go_num, hlt, H2, hp1, bq3⟩
          case measure => simp only [intOf]; omega
        · have hlt2 : ¬ prevO L j < ix := by simpa using ht
          have HE : Hid (imO size (pcs L) image index = none) := Lib.hid (by
            have : risO 0 (pcs L) = false := by rw [← HR.out, HS.out]; simp; intro h; exact absurd h hlt2
            unfold imO; rw [this]; rfl)
          clear HR HS ht hlt2
          go_wp2_with first
            | (with_reducible show wpList _ _ _ _ _ _
               refine wpList_rowB rfl 35 (.tmp 8) (.tmp 48) rfl w.heap.size 35 _ #[.slice none 0 0, .slice none 0 0, .int .i64 0] rfl rfl hB8 infoIm rfl (imA_ok zIm) ?_
               intro w7 hq8 m7)
          (try simp only [Exit.inBlock, Exit.then])
          refine bodyPost_ret (results_cell_tmp rfl _ _ w.heap.size _ _ (0, 0) _ rfl hq8 Tryd.underlying35 rfl infoIm) rfl ?_
          exact AtR.no HE.out (bb3.thenM m7 bb3.size fun i hi e => by omega)
    · obtain rfl : j = L.length := by omega
      have HY : Hid (∀ o, atF image index (pcs L) (newP size) = o → imO size (pcs L) image index = o) := Lib.hid (by
        have hr : risO 0 (pcs L) = true := by rw [← HR.out, List.drop_length]; rfl
        intro o ho; unfold imO; rw [hr, if_pos rfl]; exact ho)
      have hB8 := hB8.below bq
      have hB10 := hB10.below bq
      have r0 := r0.below bq
      have hgx := hB10.lt
      clear HR hp0 bq
      go_wp2_with fail
      go_loopw [13, 14, 15, 16, 17] (fun s13 s14 s15 s16 s17 wr => ∃ (j : Nat) (i : ImV), s13 = .int .i64 (j : Int) ∧ j ≤ L.length ∧ Blk wr g10 35 (imA i) ∧ ImR wr (fun b => b ≠ w.heap.size ∧ b ≠ g10) i ∧ Blk wr w.heap.size 35 #[.slice none 0 0, .slice none 0 0, .int .i64 0] ∧ Hid (atF image index (pcs (L.drop j)) i.p = atF image index (pcs L) (newP size)) ∧ Below w.heap.size w wr) (fun s13 _ _ _ _ _ => L.length - (intOf s13).toNat)
      case atStart => exact ⟨0, i0, rfl, Nat.zero_le _, hB10, r0, hB8, Lib.hid (by rw [hI0.out]; rfl), bb⟩
      case round =>
        clear hB10 r0 hB8 bb hI0
        obtain ⟨j, i, rfl, hj, hB10, rI, hB8, HF, bb⟩ := hrel
        by_cases hlt : j < L.length
        · have hS := (h.below bb).all _ (List.getElem_mem hlt)
          obtain ⟨ad, rfl, d0, d1, d2, d3, d4, d5, d6, d7, d8⟩ := (h.below bb).at_ hlt
          have HS := Lib.hid (atF_step image index L j hlt i.p)
          generalize L[j] = s at *
          obtain ⟨ix, im, ⟨e1, e2, e3, e4, e5, e6, e7⟩, eA, ec⟩ := s
          obtain ⟨rx, hxc, hxm⟩ := hS
          simp only at d0 d1 d2 d3 d4 d5 d6 d7 d8 rx hxc hxm
          have bn := below_new wr (.cells #[.int .i64 ix, .int .i64 im, .int .i64 e1, .int .i64 e2, .int .i64 e3, .int .i64 e4, .int .i64 e5, .int .i64 e6, .slice eA e7.length ec] 50)
          have b2 := bb.thenB bn bb.size
          have hN := Blk.new wr 50 #[.int .i64 ix, .int .i64 im, .int .i64 e1, .int .i64 e2, .int .i64 e3, .int .i64 e4, .int .i64 e5, .int .i64 e6, .slice eA e7.length ec]
          have hB10' := hB10.below bn
          have hB8' := hB8.below bn
          have rI' := rI.below bn
          have rx' := RdB.below rx bn
          go_upto_region 12 with fail
          clear d0 d1 d2 d3 d4 d5 d6 d7 d8 bn hB10 hB8 rI bb rx
          generalize wr.alloc (.cells #[.int .i64 ix, .int .i64 im, .int .i64 e1, .int .i64 e2, .int .i64 e3, .int .i64 e4, .int .i64 e5, .int .i64 e6, .slice eA e7.length ec] 50) = wb at *
          generalize wr.heap.size = bx at *
          have d0 := hN.cell 0
          have d1 := hN.cell 1
          have d2 := hN.cell 2
          have d3 := hN.cell 3
          have d4 := hN.cell 4
          have d5 := hN.cell 5
          have d6 := hN.cell 6
          have d7 := hN.cell 7
          have d8 := hN.cell 8
          simp at d0 d1 d2 d3 d4 d5 d6 d7 d8
          by_cases h12 : im = image ∧ ix ≤ index
          · obtain ⟨rfl, h2⟩ := h12
            have h2' : ¬ index < ix := by omega
            have hdo := rDo_any _ _ i ⟨e1, e2, e3, e4, e5, e6, e7⟩ eA ec wb rI' rx' hxc hxm
            have HD : Hid (atF im index (pcs L) (newP size) = if (doP i.p ⟨e1, e2, e3, e4, e5, e6, e7⟩).2.2 = 0 then atF im index (pcs (L.drop (j + 1))) (doP i.p ⟨e1, e2, e3, e4, e5, e6, e7⟩).1 else none) := Lib.hid (by rw [← HF.out, HS.out]; exact if_pos ⟨rfl, h2⟩)
            clear HF HS
            generalize doP i.p ⟨e1, e2, e3, e4, e5, e6, e7⟩ = dp at *
            obtain ⟨q1, q2, q3⟩ := dp
            unfold enV enA at hdo
            simp only at hdo HD
            go_wp2_with first
              | (with_reducible show wpList _ _ _ _ _ _
                 refine wpList_load_row rfl 35 (.tmp 10) rfl g10 rfl 35 _ (0, 0) _ hB10' Tryd.underlying35 rfl infoIm ?_)
            refine hdo.mono ?_
            clear hdo
            rintro e w5 ⟨jm, rfl, hjp, oj, b5⟩
            have hB10 := hB10'.below b5
            have hB8 := hB8'.below b5
            have b5' := b2.thenB b5 b2.size
            have rj := oj
            have HJ := Lib.hid hjp
            have hgb : g10 < w5.heap.size := hB10.lt
            have hgb8 : w.heap.size < w5.heap.size := hB8.lt
            clear hB10' hB8' rI' rx' d0 d1 d2 d3 d4 d5 d6 d7 d8 hN oj hjp
            by_cases hq : q3 = 0
            · subst hq
              have HE : Hid (atF im index (pcs (L.drop (j + 1))) jm.p = atF im index (pcs L) (newP size)) := Lib.hid (by rw [HD.out, HJ.out, if_pos rfl])
              clear HD HJ
              go_wp2_with first
                | (with_reducible show wpList _ _ _ _ _ _
                   refine wpList_rowB rfl 35 (.tmp 15) (.tmp 74) rfl w5.heap.size 35 _ (imA jm) rfl rfl (Blk.new w5 35 #[.slice none 0 0, .slice none 0 0, .int .i64 0]) infoIm rfl (imA_ok _) ?_
                   intro w6 hB13 mm
                   have nn := im_new mm
                   have hB10 := hB10.below nn
                   have hB8 := hB8.below nn
                   have b6 := b5'.thenB nn b5'.size
                   have rj := ((rj.below nn).off hB10).off (j := zIm) hB8
                   clear nn mm)
                | (with_reducible show wpList _ _ _ _ _ _
                   refine wpList_load_row rfl 35 (.tmp 15) rfl w5.heap.size rfl 35 _ (0, 0) _ hB13 Tryd.underlying35 rfl infoIm ?_)
                | (with_reducible show wpList _ _ _ _ _ _
                   refine wpList_rowB rfl 35 (.tmp 10) (.tmp 80) rfl g10 35 _ (imA jm) rfl rfl hB10 infoIm rfl (imA_ok _) ?_
                   intro w7 hB10n m7)
              go_roundw
              case rel => exact ⟨j + 1, jm, by go_num, hlt, hB10n, (rj.mod m7 fun b hb e => hb.1.2 e).imp fun b _ hb => ⟨hb.2, hb.1.2⟩, hB8.mod m7 (by omega), HE, b6.thenM m7 b6.size fun b hb e => by omega⟩
              case measure => simp only [intOf]; omega
            · have HE : Hid (imO size (pcs L) im index = none) := Lib.hid (HY.out _ (by rw [HD.out, if_neg hq]))
              have hq' : (q3 != 0) = true := by simpa using hq
              clear HD HJ hq
              go_wp2_with first
                | (with_reducible show wpList _ _ _ _ _ _
                   refine wpList_rowB rfl 35 (.tmp 15) (.tmp 74) rfl w5.heap.size 35 _ (imA jm) rfl rfl (Blk.new w5 35 #[.slice none 0 0, .slice none 0 0, .int .i64 0]) infoIm rfl (imA_ok _) ?_
                   intro w6 hB13 mm
                   have nn := im_new mm
                   have hB8 := hB8.below nn
                   have b6 := b5'.thenB nn b5'.size
                   clear nn mm)
                | (with_reducible show wpList _ _ _ _ _ _
                   refine wpList_rowB rfl 35 (.tmp 8) (.tmp 79) rfl w.heap.size 35 _ #[.slice none 0 0, .slice none 0 0, .int .i64 0] rfl rfl hB8 infoIm rfl (imA_ok zIm) ?_
                   intro w7 hq8 m7)
              (try simp only [Exit.inBlock, Exit.then])
              refine bodyPost_ret (results_cell_tmp rfl _ _ w.heap.size _ _ (0, 0) _ rfl hq8 Tryd.underlying35 rfl infoIm) rfl ?_
              exact AtR.no HE.out (b6.thenM m7 b6.size fun i hi e => by omega)
          · have HD : Hid (atF image index (pcs (L.drop (j + 1))) i.p = atF image index (pcs L) (newP size)) := Lib.hid (by rw [← HF.out, HS.out]; exact (if_neg h12).symm)
            clear HF HS
            by_cases h1 : im = image
            · have h2 : index < ix := by
                by_cases h2 : ix ≤ index
                · exact absurd ⟨h1, h2⟩ h12
                · omega
              subst h1
              clear h12
              go_wp2_with fail
              go_roundw
              case rel => exact ⟨j + 1, i, by go_num, hlt, hB10', rI', hB8', HD, b2⟩
              case measure => simp only [intOf]; omega
            · have h1' : (im != image) = true := by simpa using h1
              clear h12 h1
              go_wp2_with fail
              go_roundw
              case rel => exact ⟨j + 1, i, by go_num, hlt, hB10', rI', hB8', HD, b2⟩
              case measure => simp only [intOf]; omega
        · obtain rfl : j = L.length := by omega
          have HE : Hid (imO size (pcs L) image index = some i.p) := Lib.hid (HY.out _ (by rw [← HF.out, List.drop_length]; rfl))
          clear HF HY
          go_wp2_with first
            | (with_reducible show wpList _ _ _ _ _ _
               refine wpList_load_row rfl 35 (.tmp 10) rfl g10 rfl 35 _ (0, 0) _ hB10 Tryd.underlying35 rfl infoIm ?_)
            | (with_reducible show wpList _ _ _ _ _ _
               refine wpList_rowB rfl 35 (.tmp 8) (.tmp 81) rfl w.heap.size 35 _ (imA i) rfl rfl hB8 infoIm rfl (imA_ok _) ?_
               intro w7 hq8 m7)
          (try simp only [Exit.inBlock, Exit.then])
          refine bodyPost_ret (results_cell_tmp rfl _ _ w.heap.size _ _ (0, 0) _ rfl hq8 Tryd.underlying35 rfl infoIm) rfl ?_
          exact AtR.yes HE.out (rI.mod m7 fun b hb e => hb.1 e) (bb.thenM m7 bb.size fun i hi e => by omega)
end Go.Proofs.YthkeoimjjgmppaaDoor

/- The past: whether a commit can be a record's: the code. -/
namespace Go.Proofs.YthkeoimjjgmppaaDoor
open Go.RowKit
set_option linter.unusedVariables false
set_option maxRecDepth 100000

theorem enA_ok (e : E7) (A : Option Addr) (c : Nat) : (enA e A c).all (·.oneCell') = true := by unfold enA; simp [Value.oneCell']
theorem infoEn7' : (Tryd.prog.info? 32).map (·.size) = some 7 := by kernel_rfl
def doneO (r : PR) (c : PC) : Bool := r.done && !(decide (r.E = 0) && decide (r.rx = c.ix) && decide (c.ix ≤ r.tt))
def eqE (a b : E7) : Bool := decide (a.owner = b.owner) && decide (a.kind = b.kind) && decide (a.off = b.off) && decide (a.len = b.len) && decide (a.snap = b.snap) && decide (a.data = b.data)
theorem match_no {r : PR} {c : PC} (h : mutP r.call = false ∨ r.call.image ≠ c.im ∨ c.ix ≤ r.fr ∨ doneO r c = true) : matchP r c = false := by
  unfold matchP
  rcases h with h | h | h | h
  · rw [h]; rfl
  · rw [decide_eq_false h]; simp
  · rw [decide_eq_false (show ¬ r.fr < c.ix by omega)]; simp
  · unfold doneO at h
    generalize (decide (r.E = 0) && decide (r.rx = c.ix) && decide (c.ix ≤ r.tt)) = y at *
    cases hd : r.done <;> cases y <;> simp_all
theorem same_drop (x : PL) (cl s : Int) (e : E7) (hs : e.seq = s) : sameO (cleanO (entP s cl x)) (cleanO e) = eqE (cleanO (entP 0 cl x)) (cleanO e) := by
  unfold sameO eqE
  have h1 : (cleanO (entP s cl x)).seq = (cleanO e).seq := hs.symm
  rw [Bool.eq_iff_iff]
  simp only [decide_eq_true_eq, Bool.and_eq_true]
  constructor
  · rintro ⟨_, h2, h3, h4, h5, h6, h7⟩
    exact ⟨⟨⟨⟨⟨h2, h3⟩, h4⟩, h5⟩, h6⟩, h7⟩
  · rintro ⟨⟨⟨⟨⟨h2, h3⟩, h4⟩, h5⟩, h6⟩, h7⟩
    exact ⟨h1, h2, h3, h4, h5, h6, h7⟩
theorem match_yes {r : PR} {c : PC} (h1 : mutP r.call = true) (h2 : r.call.image = c.im) (h3 : r.fr < c.ix) (h4 : doneO r c = false) : matchP r c = eqE (cleanO (entP 0 r.cl r.call)) (cleanO c.e) := by
  unfold matchP
  have h5 : (!r.done || (decide (r.E = 0) && decide (r.rx = c.ix) && decide (c.ix ≤ r.tt))) = true := by
    unfold doneO at h4
    cases hd : r.done
    · rfl
    · rw [hd, Bool.true_and] at h4
      simpa using h4
  rw [h1, decide_eq_true h2, decide_eq_true h3, h5, same_drop r.call r.cl c.e.seq c.e rfl]
  simp
set_option maxHeartbeats 8000000 in
theorem Match_any (r : RcV) (s : CmV) (D D' : Nat → Prop) (w : World) (hr : RcR w D r) (hs : CmR w D' s) (ht : TabE w) (hl1 : r.call.data.length ≤ big) (hl2 : s.e.data.length ≤ big) :
    Calls Tryd.prog 18 #[.agg (rcC r).toArray, .agg (cmC s).toArray] w fun e w' => e = .returned (.bool (matchP r.p s.p)) ∧ Below w.heap.size w w' := by
  have b1 := below_new w (.cells (rcC r).toArray 44)
  have hB2 := Blk.new w 44 (rcC r).toArray
  have s1 : (w.alloc (.cells (rcC r).toArray 44)).heap.size = w.heap.size + 1 := Array.size_push ..
  generalize hw1 : w.alloc (.cells (rcC r).toArray 44) = w1 at *
  have b2 := below_new w1 (.cells (cmC s).toArray 50)
  have hB3 := Blk.new w1 50 (cmC s).toArray
  have s2 : (w1.alloc (.cells (cmC s).toArray 50)).heap.size = w1.heap.size + 1 := Array.size_push ..
  generalize hw2 : w1.alloc (.cells (cmC s).toArray 50) = w2 at *
  have b3 := below_new w2 (.cells (caC r.call r.A r.c).toArray 25)
  have hB5 := Blk.new w2 25 (caC r.call r.A r.c).toArray
  generalize hw3 : w2.alloc (.cells (caC r.call r.A r.c).toArray 25) = w3 at *
  have hB2' := hB2.below b2
  have hB2 := hB2'.below b3
  have hB3 := hB3.below b3
  have bb := (b1.thenB' b2).thenB' b3
  rw [s1] at hB3 s2
  rw [s2] at hB5
  have hm := mutation_any r.call r.A r.c w3
  have hr := (show RcR w3 D r from ⟨hr.1.below bb, hr.2.below bb⟩)
  have hs : CmR w3 D' s := RdC.below hs bb
  have ht := ht.below bb
  obtain ⟨cl, ⟨c1, c2, c3, c4, c5, c6⟩, rA, rc0, fr, tt, dn, E, rA2, rdd, rc2, N, rx⟩ := r
  obtain ⟨ix, im, ⟨e1, e2, e3, e4, e5, e6, e7⟩, eA, ec⟩ := s
  clear b1 b2 b3
  unfold RcV.p CmV.p
  simp only at *
  unfold rcC at hw1 hB2 hB2'
  unfold cmC at hw2 hB3
  unfold caC at hw3 hB5 hm
  simp only at hw1 hw2 hw3 hB2 hB3 hB5 hm hB2'
  unfold rcC cmC
  simp only
  have k1 := hB2'.cell 1
  have k2 := hB2'.cell 2
  have k3 := hB2'.cell 3
  have k4 := hB2'.cell 4
  have k5 := hB2'.cell 5
  have k6 := hB2'.cell 6
  simp at k1 k2 k3 k4 k5 k6
  clear hB2'
  go_enter Tryd.func18, Tryd.ntmps18
  go_upto_region 2 with fail
  clear hw1 hw2 hw3 k1 k2 k3 k4 k5 k6 s1 s2
  have k0 := hB5.cell 0
  have k1 := hB5.cell 1
  have k2 := hB5.cell 2
  have k3 := hB5.cell 3
  have k4 := hB5.cell 4
  have k5 := hB5.cell 5
  simp at k0 k1 k2 k3 k4 k5
  go_wp2_with fail
  refine hm.mono ?_
  clear hm
  rintro e w4 ⟨rfl, b4⟩
  have hB2 := hB2.below b4
  have hB3 := hB3.below b4
  have hB5 := hB5.below b4
  have ht := ht.below b4
  have hrd := hr.1.1.below b4
  have hsd : RdB w4 D' eA e7 := hs.1.below b4
  have bb := bb.thenB' b4
  clear k0 k1 k2 k3 k4 k5 b4 hr hs
  have k0 := hB5.cell 0
  have k1 := hB5.cell 1
  have k2 := hB5.cell 2
  have k3 := hB5.cell 3
  have k4 := hB5.cell 4
  have k5 := hB5.cell 5
  have l0 := hB2.cell 0
  have l7 := hB2.cell 7
  have l8 := hB2.cell 8
  have l9 := hB2.cell 9
  have l10 := hB2.cell 10
  have l13 := hB2.cell 13
  have q0 := hB3.cell 0
  have q1 := hB3.cell 1
  simp at k0 k1 k2 k3 k4 k5 l0 l7 l8 l9 l10 l13 q0 q1
  have hno := fun h => Lib.hid (match_no (r := ⟨cl, ⟨c1, c2, c3, c4, c5, c6⟩, fr, tt, dn, E, rdd, N, rx⟩) (c := ⟨ix, im, ⟨e1, e2, e3, e4, e5, e6, e7⟩⟩) h)
  have hyes := fun h1 h2 h3 h4 => match_yes (r := ⟨cl, ⟨c1, c2, c3, c4, c5, c6⟩, fr, tt, dn, E, rdd, N, rx⟩) (c := ⟨ix, im, ⟨e1, e2, e3, e4, e5, e6, e7⟩⟩) h1 h2 h3 h4
  have HNO := Lib.hid hno
  have HYES := Lib.hid hyes
  clear hno hyes
  obtain ⟨dz, hdz⟩ : ∃ dz, doneO ⟨cl, ⟨c1, c2, c3, c4, c5, c6⟩, fr, tt, dn, E, rdd, N, rx⟩ ⟨ix, im, ⟨e1, e2, e3, e4, e5, e6, e7⟩⟩ = dz := ⟨_, rfl⟩
  have HDZ := Lib.hid hdz
  have HDD : Hid ((dn && !(decide (E = 0) && decide (rx = ix) && decide (ix ≤ tt))) = dz) := Lib.hid hdz
  clear hdz
  obtain ⟨mz, hmz⟩ : ∃ mz, mutP ⟨c1, c2, c3, c4, c5, c6⟩ = mz := ⟨_, rfl⟩
  rw [hmz]
  have HMZ := Lib.hid hmz
  clear hmz
  cases mz
  · have HN := HNO.out (.inl HMZ.out)
    go_wp2_with fail
    go_ret
    exact ⟨by rw [HN.out] <;> rfl, bb⟩
  by_cases hi : c1 = im
  focus
    have hi' : (c1 != im) = false := by simp [hi]
    by_cases hx : fr < ix
    focus
      have hx' : ¬ ix ≤ fr := by omega
      go_upto_region 6 with fail
      go_cut [24] from 8 to 104 (fun s24 wx => s24 = .bool dz ∧ w4 = wx)
      case first =>
        cases dn
        · have hd0 : dz = false := by rw [← HDD.out]; rfl
          clear HDD
          go_wp2_with fail
          go_meet
          case rel => exact ⟨by rw [hd0], rfl⟩
        · by_cases hE : E = 0
          · have hE' : (E != 0) = false := by simp [hE]
            by_cases hr : rx = ix
            · have hr' : (rx != ix) = false := by simp [hr]
              by_cases ht2 : ix ≤ tt
              · have hd0 : dz = false := by rw [← HDD.out]; simp [hE, hr, ht2]
                have ht3 : ¬ tt < ix := by omega
                clear HDD hE hr
                go_wp2_with fail
                go_meet
                case rel => exact ⟨by rw [hd0], rfl⟩
              · have hd0 : dz = true := by rw [← HDD.out]; simp [ht2]
                have ht3 : tt < ix := by omega
                clear HDD hE hr
                go_wp2_with fail
                go_meet
                case rel => exact ⟨by rw [hd0], rfl⟩
            · have hd0 : dz = true := by rw [← HDD.out]; simp [hr]
              have hr' : (rx != ix) = true := by simpa using hr
              clear HDD hE hr
              go_wp2_with fail
              go_meet
              case rel => exact ⟨by rw [hd0], rfl⟩
          · have hd0 : dz = true := by rw [← HDD.out]; simp [hE]
            have hE' : (E != 0) = true := by simpa using hE
            clear HDD hE
            go_wp2_with fail
            go_meet
            case rel => exact ⟨by rw [hd0], rfl⟩
      case rest =>
        obtain ⟨rfl, rfl⟩ := hcut
        cases dz
        · have HY := Lib.hid (HYES.out HMZ.out hi hx HDZ.out)
          unfold entP at HY
          simp only at HY
          clear HNO HYES HDZ HDD HMZ hi hx
          have hcl := eClean_any ⟨0, cl, c2, c3, c4, c5, c6⟩ D rA rc0 w4 hrd hl1 ht
          have hcl2 := fun u h h' => eClean_any ⟨e1, e2, e3, e4, e5, e6, e7⟩ D' eA ec u h hl2 h'
          unfold Cleaned enV at hcl hcl2
          generalize cleanO ⟨0, cl, c2, c3, c4, c5, c6⟩ = ca at *
          generalize cleanO ⟨e1, e2, e3, e4, e5, e6, e7⟩ = cb at *
          have hcl : Calls Tryd.prog 47 #[.agg #[.int .i64 0, .int .i64 cl, .int .i64 c2, .int .i64 c3, .int .i64 c4, .int .i64 c5, .slice rA c6.length rc0]] w4 _ := hcl
          go_wp2_with fail
          refine hcl.mono ?_
          clear hcl
          rintro e w5 ⟨A6, n6, rfl, o6, b5⟩
          have hB3 := hB3.below b5
          have hsd := hsd.below b5
          have ht := ht.below b5
          have b5 := bb.thenB' b5
          clear bb l0 l7 l8 l9 l10 l13 q0 q1 k0 k1 k2 k3 k4 k5 hrd hB2 hB5
          go_wp2_with first
            | (with_reducible show wpList _ _ _ _ _ _
               refine wpList_rowB rfl 32 (.tmp 6) (.tmp 61) rfl w5.heap.size 32 _ (enA ca A6 n6) rfl rfl (Blk.new w5 32 #[.int .i64 0, .int .i64 0, .int .i64 0, .int .i64 0, .int .i64 0, .int .i64 0, .slice none 0 0]) infoEn7' rfl (enA_ok _ _ _) ?_
               intro w6 hB6 mm
               have nn := im_new mm
               have hB3 := hB3.below nn
               have hsd := hsd.below nn
               have ht := ht.below nn
               have b6 := b5.thenB' nn
               have o6 := o6.below nn
               have q2 := hB3.cell 2
               have q3 := hB3.cell 3
               have q4 := hB3.cell 4
               have q5 := hB3.cell 5
               have q6 := hB3.cell 6
               have q7 := hB3.cell 7
               have q8 := hB3.cell 8
               simp at q2 q3 q4 q5 q6 q7 q8
               clear nn mm)
          refine (show Calls Tryd.prog 47 #[.agg #[.int .i64 e1, .int .i64 e2, .int .i64 e3, .int .i64 e4, .int .i64 e5, .int .i64 e6, .slice eA e7.length ec]] w6 _ from hcl2 _ hsd ht).mono ?_
          clear hcl2
          rintro e w7 ⟨A7, n7, rfl, o7, b7⟩
          have hB6 := hB6.below b7
          have o6 := o6.below b7
          have b7 := b6.thenB' b7
          clear q2 q3 q4 q5 q6 q7 q8 hsd ht hB3 b5 b6
          have e6' : (enA ca A6 n6) = #[.int .i64 ca.seq, .int .i64 ca.owner, .int .i64 ca.kind, .int .i64 ca.off, .int .i64 ca.len, .int .i64 ca.snap, .slice A6 ca.data.length n6] := rfl
          go_upto_region 10 with first
            | (with_reducible show wpList _ _ _ _ _ _
               refine wpList_rowB rfl 32 (.tmp 7) (.tmp 64) rfl w7.heap.size 32 _ (enA cb A7 n7) rfl rfl (Blk.new w7 32 #[.int .i64 0, .int .i64 0, .int .i64 0, .int .i64 0, .int .i64 0, .int .i64 0, .slice none 0 0]) infoEn7' rfl (enA_ok _ _ _) ?_
               intro w8 hB7 mm
               have nn := im_new mm
               have hB6 := hB6.below nn
               have b8 := b7.thenB' nn
               have r6 := (Rd.of_own o6).below nn
               have r7 := (Rd.of_own o7).below nn
               clear nn mm)
          generalize w5.heap.size = g6 at *
          generalize w7.heap.size = g7 at *
          clear o6 o7 b7
          unfold enA at hB6 hB7
          have x1 := hB6.cell 1
          have x2 := hB6.cell 2
          have x3 := hB6.cell 3
          have x4 := hB6.cell 4
          have x5 := hB6.cell 5
          have x6 := hB6.cell 6
          have y1 := hB7.cell 1
          have y2 := hB7.cell 2
          have y3 := hB7.cell 3
          have y4 := hB7.cell 4
          have y5 := hB7.cell 5
          have y6 := hB7.cell 6
          simp at x1 x2 x3 x4 x5 x6 y1 y2 y3 y4 y5 y6
          clear hB6 hB7 e6'
          by_cases p1 : ca.owner = cb.owner
          · by_cases p2 : ca.kind = cb.kind
            · by_cases p3 : ca.off = cb.off
              · by_cases p4 : ca.len = cb.len
                · by_cases p5 : ca.snap = cb.snap
                  · have HX : Hid (eqE ca cb = decide (ca.data = cb.data)) := by unfold Hid eqE; rw [decide_eq_true p1, decide_eq_true p2, decide_eq_true p3, decide_eq_true p4, decide_eq_true p5]; simp
                    have he := bEqual_any _ _ A6 A7 n6 n7 ca.data cb.data w8 r6 r7
                    go_wp2_with fail
                    refine he.mono ?_
                    clear he
                    rintro e w9 ⟨rfl, b9⟩
                    go_wp2_with fail
                    go_ret
                    exact ⟨by rw [HY.out, HX.out] <;> rfl, b8.thenB b9 b8.size⟩
                  · have HX : Hid (eqE ca cb = false) := by unfold Hid eqE; rw [decide_eq_false p5]; simp
                    have hp : (ca.snap == cb.snap) = false := by simpa using p5
                    go_wp2_with fail
                    go_ret
                    exact ⟨by rw [HY.out, HX.out] <;> rfl, b8⟩
                · have HX : Hid (eqE ca cb = false) := by unfold Hid eqE; rw [decide_eq_false p4]; simp
                  have hp : (ca.len == cb.len) = false := by simpa using p4
                  go_wp2_with fail
                  go_ret
                  exact ⟨by rw [HY.out, HX.out] <;> rfl, b8⟩
              · have HX : Hid (eqE ca cb = false) := by unfold Hid eqE; rw [decide_eq_false p3]; simp
                have hp : (ca.off == cb.off) = false := by simpa using p3
                go_wp2_with fail
                go_ret
                exact ⟨by rw [HY.out, HX.out] <;> rfl, b8⟩
            · have HX : Hid (eqE ca cb = false) := by unfold Hid eqE; rw [decide_eq_false p2]; simp
              have hp : (ca.kind == cb.kind) = false := by simpa using p2
              go_wp2_with fail
              go_ret
              exact ⟨by rw [HY.out, HX.out] <;> rfl, b8⟩
          · have HX : Hid (eqE ca cb = false) := by unfold Hid eqE; rw [decide_eq_false p1]; simp
            have hp : (ca.owner == cb.owner) = false := by simpa using p1
            go_wp2_with fail
            go_ret
            exact ⟨by rw [HY.out, HX.out] <;> rfl, b8⟩
        · have HN := HNO.out (.inr (.inr (.inr HDZ.out)))
          go_wp2_with fail
          go_ret
          exact ⟨by rw [HN.out] <;> rfl, bb⟩
    · have HN := HNO.out (.inr (.inr (.inl (show ix ≤ fr by omega))))
      have hx' : ix ≤ fr := by omega
      go_wp2_with fail
      go_ret
      exact ⟨by rw [HN.out] <;> rfl, bb⟩
  · have HN := HNO.out (.inr (.inl hi))
    have hi' : (c1 != im) = true := by simpa using hi
    go_wp2_with fail
    go_ret
    exact ⟨by rw [HN.out] <;> rfl, bb⟩
end Go.Proofs.YthkeoimjjgmppaaDoor

/- The past: whether a commit can be a record's: the document. -/
namespace Go.Proofs.YthkeoimjjgmppaaDoor
open Go.RowKit
set_option linter.unusedVariables false
set_option maxRecDepth 100000

theorem match_cl {r : PR} {c : PC} (h : r.cl ≠ c.e.owner) : matchP r c = false := by
  have h1 : sameO (cleanO (entP c.e.seq r.cl r.call)) (cleanO c.e) = false := by
    unfold sameO
    exact decide_eq_false fun x => h x.2.1
  unfold matchP
  rw [h1]; simp
theorem match_yes' {r : PR} {c : PC} (h1 : mutP r.call = true) (h2 : r.call.image = c.im) (h3 : r.fr < c.ix) (h4 : doneO r c = false) : matchP r c = sameO (cleanO (entP c.e.seq r.cl r.call)) (cleanO c.e) := by
  rw [match_yes h1 h2 h3 h4, same_drop r.call r.cl c.e.seq c.e rfl]
set_option maxHeartbeats 8000000 in
theorem rMatch_any (r : RcV) (s : CmV) (D D' : Nat → Prop) (w : World) (hr : RcR w D r) (hs : CmR w D' s) :
    Calls Tryd.prog 19 #[.agg (rcC r).toArray, .agg (cmC s).toArray] w fun e w' => e = .returned (.bool (matchP r.p s.p)) ∧ Below w.heap.size w w' := by
  have b1 := below_new w (.cells (rcC r).toArray 44)
  have hB2 := Blk.new w 44 (rcC r).toArray
  have s1 : (w.alloc (.cells (rcC r).toArray 44)).heap.size = w.heap.size + 1 := Array.size_push ..
  generalize hw1 : w.alloc (.cells (rcC r).toArray 44) = w1 at *
  have b2 := below_new w1 (.cells (cmC s).toArray 50)
  have hB3 := Blk.new w1 50 (cmC s).toArray
  have s2 : (w1.alloc (.cells (cmC s).toArray 50)).heap.size = w1.heap.size + 1 := Array.size_push ..
  generalize hw2 : w1.alloc (.cells (cmC s).toArray 50) = w2 at *
  have b3 := below_new w2 (.cells (caC r.call r.A r.c).toArray 25)
  have hB5 := Blk.new w2 25 (caC r.call r.A r.c).toArray
  generalize hw3 : w2.alloc (.cells (caC r.call r.A r.c).toArray 25) = w3 at *
  have hB2' := hB2.below b2
  have hB2 := hB2'.below b3
  have hB3 := hB3.below b3
  have bb := (b1.thenB' b2).thenB' b3
  rw [s1] at hB3 s2
  rw [s2] at hB5
  have hm := rmutation_any r.call r.A r.c w3
  have hr := (show RcR w3 D r from ⟨hr.1.below bb, hr.2.below bb⟩)
  have hs : CmR w3 D' s := RdC.below hs bb
  obtain ⟨cl, ⟨c1, c2, c3, c4, c5, c6⟩, rA, rc0, fr, tt, dn, E, rA2, rdd, rc2, N, rx⟩ := r
  obtain ⟨ix, im, ⟨e1, e2, e3, e4, e5, e6, e7⟩, eA, ec⟩ := s
  clear b1 b2 b3
  unfold RcV.p CmV.p
  simp only at *
  unfold rcC at hw1 hB2 hB2'
  unfold cmC at hw2 hB3
  unfold caC at hw3 hB5 hm
  simp only at hw1 hw2 hw3 hB2 hB3 hB5 hm hB2'
  unfold rcC cmC
  simp only
  have k1 := hB2'.cell 1
  have k2 := hB2'.cell 2
  have k3 := hB2'.cell 3
  have k4 := hB2'.cell 4
  have k5 := hB2'.cell 5
  have k6 := hB2'.cell 6
  simp at k1 k2 k3 k4 k5 k6
  clear hB2'
  go_enter Tryd.func19, Tryd.ntmps19
  go_upto_region 2 with fail
  clear hw1 hw2 hw3 k1 k2 k3 k4 k5 k6 s1 s2
  have k0 := hB5.cell 0
  have k1 := hB5.cell 1
  have k2 := hB5.cell 2
  have k3 := hB5.cell 3
  have k4 := hB5.cell 4
  have k5 := hB5.cell 5
  simp at k0 k1 k2 k3 k4 k5
  go_wp2_with fail
  refine hm.mono ?_
  clear hm
  rintro e w4 ⟨rfl, b4⟩
  have hB2 := hB2.below b4
  have hB3 := hB3.below b4
  have hB5 := hB5.below b4
  have hrd := hr.1.1.below b4
  have hr1 : c6.length ≤ rc0 := hr.1.2.1
  have hr2 : rc0 ≤ 9223372036854775807 := hr.1.2.2
  have hsd : RdB w4 D' eA e7 := hs.1.below b4
  have hs1 : e7.length ≤ ec := hs.2.1
  have hs2 : ec ≤ 9223372036854775807 := hs.2.2
  have bb := bb.thenB' b4
  clear k0 k1 k2 k3 k4 k5 b4 hr hs
  have k0 := hB5.cell 0
  have k1 := hB5.cell 1
  have k2 := hB5.cell 2
  have k3 := hB5.cell 3
  have k4 := hB5.cell 4
  have k5 := hB5.cell 5
  have l0 := hB2.cell 0
  have l7 := hB2.cell 7
  have l8 := hB2.cell 8
  have l9 := hB2.cell 9
  have l10 := hB2.cell 10
  have l13 := hB2.cell 13
  have q0 := hB3.cell 0
  have q1 := hB3.cell 1
  have q2 := hB3.cell 2
  have q3 := hB3.cell 3
  simp at k0 k1 k2 k3 k4 k5 l0 l7 l8 l9 l10 l13 q0 q1 q2 q3
  have hno := fun h => Lib.hid (match_no (r := ⟨cl, ⟨c1, c2, c3, c4, c5, c6⟩, fr, tt, dn, E, rdd, N, rx⟩) (c := ⟨ix, im, ⟨e1, e2, e3, e4, e5, e6, e7⟩⟩) h)
  have hncl := fun h => Lib.hid (match_cl (r := ⟨cl, ⟨c1, c2, c3, c4, c5, c6⟩, fr, tt, dn, E, rdd, N, rx⟩) (c := ⟨ix, im, ⟨e1, e2, e3, e4, e5, e6, e7⟩⟩) h)
  have hyes := fun h1 h2 h3 h4 => match_yes' (r := ⟨cl, ⟨c1, c2, c3, c4, c5, c6⟩, fr, tt, dn, E, rdd, N, rx⟩) (c := ⟨ix, im, ⟨e1, e2, e3, e4, e5, e6, e7⟩⟩) h1 h2 h3 h4
  have HNO := Lib.hid hno
  have HNC := Lib.hid hncl
  have HYES := Lib.hid hyes
  clear hno hyes hncl
  obtain ⟨dz, hdz⟩ : ∃ dz, doneO ⟨cl, ⟨c1, c2, c3, c4, c5, c6⟩, fr, tt, dn, E, rdd, N, rx⟩ ⟨ix, im, ⟨e1, e2, e3, e4, e5, e6, e7⟩⟩ = dz := ⟨_, rfl⟩
  have HDZ := Lib.hid hdz
  have HDD : Hid ((dn && !(decide (E = 0) && decide (rx = ix) && decide (ix ≤ tt))) = dz) := Lib.hid hdz
  clear hdz
  obtain ⟨mz, hmz⟩ : ∃ mz, mutP ⟨c1, c2, c3, c4, c5, c6⟩ = mz := ⟨_, rfl⟩
  rw [hmz]
  have HMZ := Lib.hid hmz
  clear hmz
  cases mz
  · have HN := HNO.out (.inl HMZ.out)
    go_wp2_with fail
    go_ret
    exact ⟨by rw [HN.out] <;> rfl, bb⟩
  by_cases hi : c1 = im
  focus
    have hi' : (c1 != im) = false := by simp [hi]
    by_cases hcl : cl = e2
    focus
      have hcl' : (cl != e2) = false := by simp [hcl]
      by_cases hx : fr < ix
      focus
        have hx' : ¬ ix ≤ fr := by omega
        go_upto_region 4 with fail
        go_cut [56] from 7 to 78 (fun s24 wx => s24 = .bool dz ∧ w4 = wx)
        case first =>
          cases dn
          · have hd0 : dz = false := by rw [← HDD.out]; rfl
            clear HDD
            go_wp2_with fail
            go_meet
            case rel => exact ⟨by rw [hd0], rfl⟩
          · by_cases hE : E = 0
            · have hE' : (E != 0) = false := by simp [hE]
              by_cases hr : rx = ix
              · have hr' : (rx != ix) = false := by simp [hr]
                by_cases ht2 : ix ≤ tt
                · have hd0 : dz = false := by rw [← HDD.out]; simp [hE, hr, ht2]
                  have ht3 : ¬ tt < ix := by omega
                  clear HDD hE hr
                  go_wp2_with fail
                  go_meet
                  case rel => exact ⟨by rw [hd0], rfl⟩
                · have hd0 : dz = true := by rw [← HDD.out]; simp [ht2]
                  have ht3 : tt < ix := by omega
                  clear HDD hE hr
                  go_wp2_with fail
                  go_meet
                  case rel => exact ⟨by rw [hd0], rfl⟩
              · have hd0 : dz = true := by rw [← HDD.out]; simp [hr]
                have hr' : (rx != ix) = true := by simpa using hr
                clear HDD hE hr
                go_wp2_with fail
                go_meet
                case rel => exact ⟨by rw [hd0], rfl⟩
            · have hd0 : dz = true := by rw [← HDD.out]; simp [hE]
              have hE' : (E != 0) = true := by simpa using hE
              clear HDD hE
              go_wp2_with fail
              go_meet
              case rel => exact ⟨by rw [hd0], rfl⟩
        case rest =>
         obtain ⟨rfl, rfl⟩ := hcut
         cases dz
         focus
          have HY := Lib.hid (HYES.out HMZ.out hi hx HDZ.out)
          unfold entP at HY
          simp only at HY
          clear HNO HYES HDZ HDD HMZ hi hx HNC hcl hcl'
          have hcl := erClean_any ⟨e1, cl, c2, c3, c4, c5, c6⟩ D rA rc0 w4 hrd hr1 hr2
          unfold RCleaned enV at hcl
          obtain ⟨cb, hcb⟩ : ∃ cb, cleanO ⟨e1, e2, e3, e4, e5, e6, e7⟩ = cb := ⟨_, rfl⟩
          have HCB := Lib.hid hcb
          rw [hcb] at HY
          clear hcb
          generalize cleanO ⟨e1, cl, c2, c3, c4, c5, c6⟩ = ca at *
          have hcl : Calls Tryd.prog 49 #[.agg #[.int .i64 e1, .int .i64 cl, .int .i64 c2, .int .i64 c3, .int .i64 c4, .int .i64 c5, .slice rA c6.length rc0]] w4 _ := hcl
          go_wp2_with fail
          refine hcl.mono ?_
          clear hcl
          rintro e w5 ⟨A6, n6, rfl, r6, b5, _, _⟩
          have hB3 := hB3.below b5
          have hsd := hsd.below b5
          have b5 := bb.thenB' b5
          clear bb l0 l7 l8 l9 l10 l13 q0 q1 q2 q3 k0 k1 k2 k3 k4 k5 hrd hB2 hB5
          go_wp2_with first
            | (with_reducible show wpList _ _ _ _ _ _
               refine wpList_rowB rfl 32 (.tmp 6) (.tmp 73) rfl w5.heap.size 32 _ (enA ca A6 n6) rfl rfl (Blk.new w5 32 #[.int .i64 0, .int .i64 0, .int .i64 0, .int .i64 0, .int .i64 0, .int .i64 0, .slice none 0 0]) infoEn7' rfl (enA_ok _ _ _) ?_
               intro w6 hB6 mm
               have nn := im_new mm
               have hB3 := hB3.below nn
               have hsd := hsd.below nn
               have b6 := b5.thenB' nn
               have r6 := r6.below nn
               clear nn mm)
          generalize w5.heap.size = g6 at *
          clear b5
          refine r_start (R := RB) (by rfl) (n := 6) (L := #[false, false, false, false, false, false]) rfl rfl ?_
          have bd : Below w6.heap.size w6 w6.drew := (Below.refl _ _).drew
          have hB3 := hB3.below bd
          have hB6 := hB6.below bd
          have hsd := hsd.below bd
          have r6 := r6.below bd
          have b6 := b6.thenB bd b6.size
          clear bd
          generalize w6.drew = w6 at *
          have hcl := erClean_any ⟨e1, e2, e3, e4, e5, e6, e7⟩ D' eA ec w6 hsd hs1 hs2
          unfold RCleaned enV at hcl
          have hca : Hid (cleanO ⟨e1, e2, e3, e4, e5, e6, e7⟩ = cb) := HCB
          rw [hca.out] at hcl
          have hcl : Calls Tryd.prog 49 #[.agg #[.int .i64 e1, .int .i64 e2, .int .i64 e3, .int .i64 e4, .int .i64 e5, .int .i64 e6, .slice eA e7.length ec]] w6 _ := hcl
          refine r_flt RB_refl 0 74 #[true, false, false, false, false, false] (by simp only [List.getElem?_toArray, List.getElem?_cons_zero]; rfl) (by rfl) (by kernel_rfl) (by kernel_rfl) (by kernel_rfl) (fun _ _ _ _ h => h) rfl (by rfl) ?_
          apply Exists.intro
          apply And.intro
          · intro W hW
            have x0 := (hB6.below hW).cell 0
            have x1 := (hB6.below hW).cell 1
            have x2 := (hB6.below hW).cell 2
            have x3 := (hB6.below hW).cell 3
            have x4 := (hB6.below hW).cell 4
            have x5 := (hB6.below hW).cell 5
            have x6 := (hB6.below hW).cell 6
            unfold enA at x0 x1 x2 x3 x4 x5 x6
            simp at x0 x1 x2 x3 x4 x5 x6
            go_simp; rfl
          (try simp only [Act.put, List.setIfInBounds_toArray]); (try simp only [List.set_cons_succ]); (try simp only [List.set_cons_zero])
          refine r_flt RB_refl 1 75 #[true, true, false, false, false, false] (by simp only [List.getElem?_toArray, List.getElem?_cons_succ, List.getElem?_cons_zero]; rfl) (by rfl) (by kernel_rfl) (by kernel_rfl) (by kernel_rfl) (fun _ _ _ _ h => h) rfl (by rfl) ?_
          apply Exists.intro
          apply And.intro
          · intro W hW
            first | (go_simp; with_reducible rfl) | go_simp
          (try simp only [Act.put, List.setIfInBounds_toArray]); (try simp only [List.set_cons_succ]); (try simp only [List.set_cons_zero])
          refine r_flt RB_refl 2 76 #[true, true, true, false, false, false] (by simp only [List.getElem?_toArray, List.getElem?_cons_succ, List.getElem?_cons_zero]; rfl) (by rfl) (by kernel_rfl) (by kernel_rfl) (by kernel_rfl) (fun _ _ _ _ h => h) rfl (by rfl) ?_
          apply Exists.intro
          apply And.intro
          · intro W hW
            have x2 := (hB3.below hW).cell 2
            have x3 := (hB3.below hW).cell 3
            have x4 := (hB3.below hW).cell 4
            have x5 := (hB3.below hW).cell 5
            have x6 := (hB3.below hW).cell 6
            have x7 := (hB3.below hW).cell 7
            have x8 := (hB3.below hW).cell 8
            simp at x2 x3 x4 x5 x6 x7 x8
            go_simp; rfl
          (try simp only [Act.put, List.setIfInBounds_toArray]); (try simp only [List.set_cons_succ]); (try simp only [List.set_cons_zero])
          refine r_one RB_trans 3 (by kernel_rfl) ?_
          refine alt_call 77 #[true, true, true, true, false, false] (by simp only [List.getElem?_toArray, List.getElem?_cons_succ, List.getElem?_cons_zero]; rfl) (by rfl) rfl (by rfl) (by go_simp; first | exact ⟨rfl, rfl⟩ | rfl) ?_
          refine hcl.mono ?_
          clear hcl
          rintro e' w7 ⟨A7, n7, rfl, r7, b7, _, _⟩
          refine ⟨_, rfl, b7, ?_⟩
          have r6 := r6.below b7
          have b7 := b6.thenB b7 b6.size
          have hsm := erSame_any ca cb _ _ A6 A7 n6 n7 w7 r6 r7
          unfold enV enA at hsm
          (try simp only [Act.put, List.setIfInBounds_toArray]); (try simp only [List.set_cons_succ]); (try simp only [List.set_cons_zero])
          refine r_one RB_trans 4 (by kernel_rfl) ?_
          refine alt_call 78 #[true, true, true, true, true, false] (by simp only [List.getElem?_toArray, List.getElem?_cons_succ, List.getElem?_cons_zero]; rfl) (by rfl) rfl (by rfl) (by go_simp; first | exact ⟨rfl, rfl⟩ | rfl) ?_
          refine hsm.mono ?_
          clear hsm
          rintro e' w8 ⟨rfl, b8⟩
          refine ⟨_, rfl, b8, ?_⟩
          have b8 := b7.thenB b8 b7.size
          (try simp only [Act.put, List.setIfInBounds_toArray]); (try simp only [List.set_cons_succ]); (try simp only [List.set_cons_zero])
          refine r_flt RB_refl 5 4 #[true, true, true, true, true, true] (by simp only [List.getElem?_toArray, List.getElem?_cons_succ, List.getElem?_cons_zero]; rfl) (by rfl) (by kernel_rfl) (by kernel_rfl) (by kernel_rfl) (fun _ _ _ _ h => h) rfl (by rfl) ?_
          apply Exists.intro
          apply And.intro
          · intro W hW
            first | (go_simp; with_reducible rfl) | go_simp
          (try simp only [Act.put, List.setIfInBounds_toArray]); (try simp only [List.set_cons_succ]); (try simp only [List.set_cons_zero])
          refine r_done (by kernel_rfl) ?_
          go_wp2_with fail
          go_ret
          exact ⟨by rw [HY.out] <;> rfl, b8⟩
         · have HN := HNO.out (.inr (.inr (.inr HDZ.out)))
           go_wp2_with fail
           go_ret
           exact ⟨by rw [HN.out] <;> rfl, bb⟩
      · have HN := HNO.out (.inr (.inr (.inl (show ix ≤ fr by omega))))
        have hx' : ix ≤ fr := by omega
        go_wp2_with fail
        go_ret
        exact ⟨by rw [HN.out] <;> rfl, bb⟩
    · have HN := HNC.out hcl
      have hcl' : (cl != e2) = true := by simpa using hcl
      go_wp2_with fail
      go_ret
      exact ⟨by rw [HN.out] <;> rfl, bb⟩
  · have HN := HNO.out (.inr (.inl hi))
    have hi' : (c1 != im) = true := by simpa using hi
    go_wp2_with fail
    go_ret
    exact ⟨by rw [HN.out] <;> rfl, bb⟩
end Go.Proofs.YthkeoimjjgmppaaDoor

/- The past: whether a mutation's answer is right: the code. -/
namespace Go.Proofs.YthkeoimjjgmppaaDoor
open Go.RowKit
set_option linter.unusedVariables false
set_option maxRecDepth 100000

theorem infoRc (r : RcV) : (Tryd.prog.info? 44).map (·.size) = some (rcC r).toArray.size := by
  show _ = some 14
  kernel_rfl
theorem infoCm (s : CmV) : (Tryd.prog.info? 50).map (·.size) = some (cmC s).toArray.size := by
  show _ = some 9
  kernel_rfl
theorem infoCa (x : PL) (A : Option Addr) (c : Nat) : (Tryd.prog.info? 25).map (·.size) = some (caC x A c).toArray.size := by
  show _ = some 6
  kernel_rfl
def idxC (r : PR) : List PC → Nat → Int
  | [], _ => -1
  | c :: cs, k => if matchP r c = true then (k : Int) else idxC r cs (k + 1)
theorem idxC_find (r : PR) : ∀ (cs : List PC) (k : Nat), (idxC r cs k = -1 ∧ cs.find? (matchP r) = none) ∨ ∃ j c, idxC r cs k = ((k + j : Nat) : Int) ∧ cs[j]? = some c ∧ cs.find? (matchP r) = some c
  | [], k => .inl ⟨rfl, rfl⟩
  | c :: cs, k => by
    by_cases h : matchP r c = true
    · exact .inr ⟨0, c, by rw [idxC, if_pos h]; rfl, rfl, by rw [List.find?_cons, h]⟩
    · rcases idxC_find r cs (k + 1) with ⟨h1, h2⟩ | ⟨j, c', h1, h2, h3⟩
      · exact .inl ⟨by rw [idxC, if_neg h]; exact h1, by rw [List.find?_cons]; simp [h, h2]⟩
      · exact .inr ⟨j + 1, c', by rw [idxC, if_neg h, h1]; congr 1; omega, by simpa using h2, by rw [List.find?_cons]; simp [h, h3]⟩
theorem idxC_here {r : PR} {L : List CmV} {k : Nat} (hk : k < L.length) (h : idxC r (pcs (L.drop k)) k = idxC r (pcs L) 0) (he : matchP r L[k].p = true) : idxC r (pcs L) 0 = (k : Int) := by
  rw [List.drop_eq_getElem_cons hk] at h
  rw [← h]
  show (if matchP r L[k].p = true then _ else _) = _
  rw [if_pos he]
theorem idxC_next {r : PR} {L : List CmV} {k : Nat} (hk : k < L.length) (h : idxC r (pcs (L.drop k)) k = idxC r (pcs L) 0) (he : matchP r L[k].p = false) : idxC r (pcs (L.drop (k + 1))) (k + 1) = idxC r (pcs L) 0 := by
  rw [List.drop_eq_getElem_cons hk] at h
  rw [← h]
  show _ = (if matchP r L[k].p = true then _ else _)
  rw [if_neg (by rw [he]; decide)]
  rfl
set_option maxHeartbeats 4000000 in
theorem chgclo_any (bx : Nat) (r : RcV) (s : CmV) (D D' : Nat → Prop) (w : World) (hB : Blk w bx 44 (rcC r).toArray) (hr : RcR w D r) (hs : CmR w D' s) (ht : TabE w) (hl1 : r.call.data.length ≤ big) (hl2 : s.e.data.length ≤ big) :
    Calls Tryd.prog 61 #[.agg (cmC s).toArray, .pointer (some ⟨bx, 0, none⟩)] w fun e w' => e = .returned (.bool (matchP r.p s.p)) ∧ Below w.heap.size w w' := by
  have hb := below_new w (.cells (cmC s).toArray 50)
  have hN := Blk.new w 50 (cmC s).toArray
  have hB := hB.below hb
  have hm := Match_any r s D D' _ ⟨hr.1.below hb, hr.2.below hb⟩ (RdC.below hs hb) (ht.below hb) hl1 hl2
  have i1 := infoRc r
  have i2 := infoCm s
  have HM : Hid (matchP r.p s.p = matchP r.p s.p) := rfl
  generalize matchP r.p s.p = mb at *
  generalize (rcC r).toArray = cR at *
  generalize (cmC s).toArray = cC at *
  clear hr hs ht HM
  go_enter Tryd.func61, Tryd.ntmps61
  go_wp2_with first
    | (with_reducible show wpList _ _ _ _ _ _
       refine wpList_load_row rfl 44 (.tmp 1) rfl bx rfl 44 _ (0, 0) _ hB Tryd.underlying44 rfl i1 ?_)
    | (with_reducible show wpList _ _ _ _ _ _
       refine wpList_load_row rfl 50 (.tmp 2) rfl w.heap.size rfl 50 _ (0, 0) _ hN Tryd.underlying50 rfl i2 ?_)
  refine hm.mono ?_
  clear hm
  rintro e w2 ⟨rfl, b2⟩
  go_wp2_with fail
  go_ret
  exact ⟨rfl, hb.thenB' b2⟩
set_option maxHeartbeats 4000000 in
theorem cmIndex_any (bx : Nat) (r : RcV) (D D' : Nat → Prop) (A : Option Addr) (c : Nat) (L : List CmV) (w : World) (hB : Blk w bx 44 (rcC r).toArray) (hr : RcR w D r) (h : CmsR w D' A c L) (ht : TabE w) (hl1 : r.call.data.length ≤ big) (hl2 : ∀ s ∈ L, s.e.data.length ≤ big) :
    Calls Tryd.prog 60 #[.slice A L.length c, .func (.func 61) #[] #[.pointer (some ⟨bx, 0, none⟩)]] w fun e w' => e = .returned (.int .i64 (idxC r.p (pcs L) 0)) ∧ Below w.heap.size w w' := by
  have hent : ∀ (args : Array Value) (w : World), (callFunc 61 args).run Tryd.prog w = .ok (.enter 61 args) w := Go.Proofs.enters_of Tryd.func61 (by kernel_rfl) rfl
  have hc := h.cap
  have hm := h.max
  go_enter Tryd.func60, Tryd.ntmps60
  go_wp2_with fail
  go_loopw [5, 8] (fun s5 i wr => ∃ k : Nat, k ≤ L.length ∧ i = .int .i64 (k : Int) ∧ Hid (idxC r.p (pcs (L.drop k)) k = idxC r.p (pcs L) 0) ∧ Below w.heap.size w wr) (fun _ i _ => L.length - (intOf i).toNat)
  case atStart => exact ⟨0, Nat.zero_le _, rfl, Lib.hid rfl, Below.refl _ _⟩
  case round =>
    obtain ⟨k, hk, rfl, HF, bb⟩ := hrel
    by_cases hlt : k < L.length
    · have hs := (h.below bb).all _ (List.getElem_mem hlt)
      obtain ⟨ad, rfl, d0, d1, d2, d3, d4, d5, d6, d7, d8⟩ := (h.below bb).at_ hlt
      have hcl := chgclo_any bx r L[k] D D' wr (hB.below bb) ⟨hr.1.below bb, hr.2.below bb⟩ hs (ht.below bb) hl1 (hl2 _ (List.getElem_mem hlt))
      obtain ⟨mb, hmb⟩ : ∃ mb, matchP r.p L[k].p = mb := ⟨_, rfl⟩
      rw [hmb] at hcl
      have E1 := fun he => Lib.hid (idxC_here hlt HF.out he)
      have E2 := fun he => Lib.hid (idxC_next hlt HF.out he)
      rw [hmb] at E1 E2
      unfold cmC at hcl
      clear hmb HF hs
      generalize L[k] = s at *
      obtain ⟨ix, im, ⟨e1, e2, e3, e4, e5, e6, e7⟩, eA, ec⟩ := s
      simp only at d0 d1 d2 d3 d4 d5 d6 d7 d8 hcl
      cases mb
      · have E := E2 rfl
        clear E1 E2
        go_wp2_with fail
        refine hcl.mono ?_
        clear hcl
        rintro e w2 ⟨rfl, b2⟩
        go_wp2_with fail
        go_roundw
        case rel => exact ⟨k + 1, by omega, by go_num, E, bb.thenB' b2⟩
        case measure => simp [intOf] <;> omega
      · have E := E1 rfl
        clear E1 E2
        go_wp2_with fail
        refine hcl.mono ?_
        clear hcl
        rintro e w2 ⟨rfl, b2⟩
        go_wp2_with fail
        go_ret
        exact ⟨by rw [E.out] <;> rfl, bb.thenB' b2⟩
    · have hk0 : k = L.length := by omega
      have E : Hid (idxC r.p (pcs L) 0 = -1) := Lib.hid (by rw [← HF.out, hk0, List.drop_length]; rfl)
      clear HF
      go_wp2_with fail
      go_ret
      exact ⟨by rw [E.out] <;> rfl, bb⟩
end Go.Proofs.YthkeoimjjgmppaaDoor
