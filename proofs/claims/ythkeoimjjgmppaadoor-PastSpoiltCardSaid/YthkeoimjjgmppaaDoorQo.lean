/- Parts of the proof, joined: PsJ PsK PsL PsM PsN. -/
import Derived.Test.YthkeoimjjgmppaaDoorQn
import Derived.Shelf.Bytes.SlIndexAt
/- The past: whether a mutation's answer is right. -/
namespace Go.Proofs.YthkeoimjjgmppaaDoor
open Go.RowKit
set_option linter.unusedVariables false
set_option maxRecDepth 100000

theorem pcs_at {L : List CmV} {k : Nat} {c : PC} (h : (pcs L)[k]? = some c) : ∃ hk : k < L.length, L[k].p = c := by
  unfold pcs at h
  rw [List.getElem?_map] at h
  cases hL : L[k]? with
  | none => rw [hL] at h; cases h
  | some s =>
    rw [hL] at h
    obtain ⟨hk, he⟩ := List.getElem?_eq_some_iff.1 hL
    exact ⟨hk, by rw [he]; simpa using h⟩
def chgM (r : PR) (c : PC) : Option PI → Bool
  | none => false
  | some m => decide ((doP m c.e).2.2 = 0) && decide (r.N = (doP m c.e).2.1) && decide (r.rd.length = 0)
theorem changed_is {size : Int} {cs : List PC} {r : PR} {c : PC} (h : cs.find? (matchP r) = some c) : changedP size cs r = chgM r c (imO size cs c.im (wrap64 (c.ix - 1))) := by
  unfold changedP
  rw [h]
  simp only
  cases imO size cs c.im (wrap64 (c.ix - 1)) <;> rfl
set_option maxHeartbeats 8000000 in
theorem changed_any (D D' : Nat → Prop) (A : Option Addr) (c : Nat) (L : List CmV) (size : Int) (r : RcV) (w : World) (hL : CmsR w D' A c L) (hr : RcR w D r) (ht : TabE w) (hl1 : r.call.data.length ≤ big) (hl2 : ∀ s ∈ L, s.e.data.length ≤ big) :
    Calls Tryd.prog 41 #[.int .i64 size, .slice A L.length c, .agg (rcC r).toArray] w fun e w' => e = .returned (.bool (changedP size (pcs L) r.p)) ∧ Below w.heap.size w w' := by
  have b1 := below_new w (.cells (rcC r).toArray 44)
  have hB5 := Blk.new w 44 (rcC r).toArray
  have hL := hL.below b1
  have hc := hL.cap
  have hm := hL.max
  have hix := cmIndex_any w.heap.size r D D' A c L _ hB5 ⟨hr.1.below b1, hr.2.below b1⟩ hL (ht.below b1) hl1 hl2
  generalize hw1 : w.alloc (.cells (rcC r).toArray 44) = w1 at *
  generalize hg5 : w.heap.size = g5 at *
  go_enter Tryd.func41, Tryd.ntmps41
  go_wp2_with fail
  refine hix.mono ?_
  clear hix hw1
  rintro e w2 ⟨rfl, b2⟩
  have hB5 := hB5.below b2
  have hL := hL.below b2
  have bb : Below g5 w w2 := by rw [← hg5] at *; exact b1.thenB' b2
  clear b1 b2 hr ht
  rcases idxC_find r.p (pcs L) 0 with ⟨hi, hf⟩ | ⟨k, cc, hi, hk, hf⟩
  · have HE : Hid (changedP size (pcs L) r.p = false) := Lib.hid (by unfold changedP; rw [hf])
    rw [hi]
    clear hi hf
    go_wp2_with fail
    go_ret
    exact ⟨by rw [HE.out] <;> rfl, bb⟩
  · obtain ⟨hkl, hkp⟩ := pcs_at hk
    have HC := Lib.hid (changed_is (size := size) hf)
    rw [hi, Nat.zero_add]
    clear hi hf hk
    have hs := hL.all _ (List.getElem_mem hkl)
    obtain ⟨ad, rfl, d0, d1, d2, d3, d4, d5, d6, d7, d8⟩ := hL.at_ hkl
    generalize L[k] = s at *
    obtain ⟨ix, im, ⟨e1, e2, e3, e4, e5, e6, e7⟩, eA, ec⟩ := s
    subst hkp
    obtain ⟨rx, hxc, hxm⟩ := hs
    unfold CmV.p at HC
    simp only at d0 d1 d2 d3 d4 d5 d6 d7 d8 rx hxc hxm HC
    have bn := below_new w2 (.cells #[.int .i64 ix, .int .i64 im, .int .i64 e1, .int .i64 e2, .int .i64 e3, .int .i64 e4, .int .i64 e5, .int .i64 e6, .slice eA e7.length ec] 50)
    have hN := Blk.new w2 50 #[.int .i64 ix, .int .i64 im, .int .i64 e1, .int .i64 e2, .int .i64 e3, .int .i64 e4, .int .i64 e5, .int .i64 e6, .slice eA e7.length ec]
    have hB5 := hB5.below bn
    have hL' := hL.below bn
    have rx := RdB.below rx bn
    have hbw : g5 ≤ w2.heap.size := by have := bb.size; omega
    have bb := bb.thenB bn hbw
    go_upto_region 5 with fail
    generalize hA : some ad = A at *
    have hL := hL'
    clear d0 d1 d2 d3 d4 d5 d6 d7 d8 bn hL' hA
    generalize w2.alloc (.cells #[.int .i64 ix, .int .i64 im, .int .i64 e1, .int .i64 e2, .int .i64 e3, .int .i64 e4, .int .i64 e5, .int .i64 e6, .slice eA e7.length ec] 50) = wb at *
    generalize w2.heap.size = bx at *
    have d0 := hN.cell 0
    have d1 := hN.cell 1
    simp at d0 d1
    subst hg5
    obtain ⟨g5, hg5⟩ : ∃ g5, w.heap.size = g5 := ⟨_, rfl⟩
    rw [hg5] at hB5
    rw [hg5]
    have hg5 := Lib.hid hg5
    have hat := At_any D' _ c L size im (wrap64 (ix - 1)) wb hL
    unfold AtR at hat
    generalize imO size (pcs L) im (wrap64 (ix - 1)) = io at *
    go_wp2_with fail
    refine hat.mono ?_
    clear hat
    rintro e w4 ⟨i, rfl, hip, rI, b4⟩
    have hB5 := hB5.below b4
    have hN := hN.below b4
    have rx := RdB.below rx b4
    have bb := bb.thenB b4 bb.size
    cases io with
    | none =>
      have HE : Hid (changedP size (pcs L) r.p = false) := Lib.hid (HC.out.trans rfl)
      clear HC
      rw [show ((none : Option PI).isSome) = false from rfl]
      go_wp2_with first
        | (with_reducible show wpList _ _ _ _ _ _
           refine wpList_rowB rfl 35 (.tmp 9) (.tmp 32) rfl w4.heap.size 35 _ (imA i) rfl rfl (Blk.new w4 35 #[.slice none 0 0, .slice none 0 0, .int .i64 0]) infoIm rfl (imA_ok _) ?_
           intro w5 hB9 mm
           have nn := im_new mm)
      go_ret
      exact ⟨by rw [HE.out] <;> rfl, bb.thenB nn bb.size⟩
    | some m =>
      obtain rfl : i.p = m := hip
      have HC : Hid (changedP size (pcs L) r.p = (decide ((doP i.p ⟨e1, e2, e3, e4, e5, e6, e7⟩).2.2 = 0) && decide (r.N = (doP i.p ⟨e1, e2, e3, e4, e5, e6, e7⟩).2.1) && decide (r.rd.length = 0))) := Lib.hid (HC.out.trans rfl)
      rw [show ((some i.p : Option PI).isSome) = true from rfl]
      have d2 := hN.cell 2
      have d3 := hN.cell 3
      have d4 := hN.cell 4
      have d5 := hN.cell 5
      have d6 := hN.cell 6
      have d7 := hN.cell 7
      have d8 := hN.cell 8
      simp at d2 d3 d4 d5 d6 d7 d8
      have hdo := fun u (h1 : ImR u (fun _ => True) i) (h2 : RdB u D' eA e7) => Do_any _ _ i ⟨e1, e2, e3, e4, e5, e6, e7⟩ eA ec u h1 h2 hxc hxm
      generalize doP i.p ⟨e1, e2, e3, e4, e5, e6, e7⟩ = dp at *
      obtain ⟨q1, q2, q3⟩ := dp
      unfold enV enA at hdo
      simp only at hdo HC
      go_wp2_with first
        | (with_reducible show wpList _ _ _ _ _ _
           refine wpList_rowB rfl 35 (.tmp 9) (.tmp 32) rfl w4.heap.size 35 _ (imA i) rfl rfl (Blk.new w4 35 #[.slice none 0 0, .slice none 0 0, .int .i64 0]) infoIm rfl (imA_ok _) ?_
           intro w5 hB9 mm
           have nn := im_new mm
           have rI := rI.below nn
           have rx := RdB.below rx nn
           have hB5 := hB5.below nn
           have hN := hN.below nn
           have bb := bb.thenB nn bb.size
           have d2 := hN.cell 2
           have d3 := hN.cell 3
           have d4 := hN.cell 4
           have d5 := hN.cell 5
           have d6 := hN.cell 6
           have d7 := hN.cell 7
           have d8 := hN.cell 8
           simp at d2 d3 d4 d5 d6 d7 d8
           clear nn mm)
        | (with_reducible show wpList _ _ _ _ _ _
           refine wpList_load_row rfl 35 (.tmp 9) rfl w4.heap.size rfl 35 _ (0, 0) _ hB9 Tryd.underlying35 rfl infoIm ?_)
      refine (hdo _ rI rx).mono ?_
      clear hdo
      rintro e w6 ⟨j, rfl, _, _, b6⟩
      have hB5 := hB5.below b6
      have bb := bb.thenB b6 bb.size
      clear hN rI rx hB9 b6 d2 d3 d4 d5 d6 d7 d8
      go_upto_region 9 with first
        | (with_reducible show wpList _ _ _ _ _ _
           refine wpList_rowB rfl 35 (.tmp 11) (.tmp 41) rfl w6.heap.size 35 _ (imA j) rfl rfl (Blk.new w6 35 #[.slice none 0 0, .slice none 0 0, .int .i64 0]) infoIm rfl (imA_ok _) ?_
           intro w7 hB11 mm
           have nn := im_new mm
           have hB5 := hB5.below nn
           have bb := bb.thenB nn bb.size
           clear nn mm hB11)
      have l11 : w7.cell? ⟨g5, 11, none⟩ = some (.slice r.rA r.rd.length r.rc) := (hB5.cell 11).trans rfl
      have l12 : w7.cell? ⟨g5, 12, none⟩ = some (.int .i64 r.N) := (hB5.cell 12).trans rfl
      generalize r.rA = zA at *
      generalize r.rd = zd at *
      generalize r.rc = zc at *
      generalize r.N = zN at *
      by_cases h0 : q3 = 0
      · have h0' : (q3 == 0) = true := by simp [h0]
        by_cases hN : zN = q2
        · have HE : Hid (changedP size (pcs L) r.p = decide (zd.length = 0)) := Lib.hid (by rw [HC.out, decide_eq_true h0, decide_eq_true hN]; simp)
          by_cases hz : zd.length = 0
          · have hz' : ((zd.length : Int) == 0) = true := by simp [hz]
            have hN' : (zN == q2) = true := by simp [hN]
            have HE := Lib.hid (HE.out.trans (decide_eq_true hz))
            clear hz h0 hN HC
            go_wp2_with fail
            go_ret
            exact ⟨by rw [HE.out] <;> rfl, bb⟩
          · have hz' : ((zd.length : Int) == 0) = false := by simpa using hz
            have hN' : (zN == q2) = true := by simp [hN]
            have HE := Lib.hid (HE.out.trans (decide_eq_false hz))
            clear hz h0 hN HC
            go_wp2_with fail
            go_ret
            exact ⟨by rw [HE.out] <;> rfl, bb⟩
        · have HE : Hid (changedP size (pcs L) r.p = false) := Lib.hid (by rw [HC.out, decide_eq_false hN]; simp)
          have hN' : (zN == q2) = false := by simpa using hN
          clear hN HC h0
          go_wp2_with fail
          go_ret
          exact ⟨by rw [HE.out] <;> rfl, bb⟩
      · have HE : Hid (changedP size (pcs L) r.p = false) := Lib.hid (by rw [HC.out, decide_eq_false h0]; simp)
        have h0' : (q3 == 0) = false := by simpa using h0
        clear h0 HC
        go_wp2_with fail
        go_ret
        exact ⟨by rw [HE.out] <;> rfl, bb⟩
end Go.Proofs.YthkeoimjjgmppaaDoor

/- The past: whether a mutation's answer is right: the document. -/
namespace Go.Proofs.YthkeoimjjgmppaaDoor
open Go.RowKit
set_option linter.unusedVariables false
set_option maxRecDepth 100000

theorem find_here' {L : List CmV} {f : PC → Bool} {j : Nat} (hj : j < L.length) (h : (pcs (L.drop j)).find? f = (pcs L).find? f) (he : f L[j].p = true) : (pcs L).find? f = some L[j].p := by
  rw [← h, List.drop_eq_getElem_cons hj]
  show (L[j].p :: pcs _).find? f = _
  rw [List.find?_cons, he]
theorem find_next' {L : List CmV} {f : PC → Bool} {j : Nat} (hj : j < L.length) (h : (pcs (L.drop j)).find? f = (pcs L).find? f) (he : f L[j].p = false) : (pcs (L.drop (j + 1))).find? f = (pcs L).find? f := by
  rw [← h, List.drop_eq_getElem_cons hj]
  show _ = (L[j].p :: pcs _).find? f
  rw [List.find?_cons, he]
set_option maxHeartbeats 8000000 in
theorem rchanged_any (D D' : Nat → Prop) (A : Option Addr) (c : Nat) (L : List CmV) (size : Int) (r : RcV) (w : World) (hL : CmsR w D' A c L) (hr : RcR w D r) :
    Calls Tryd.prog 44 #[.int .i64 size, .slice A L.length c, .agg (rcC r).toArray] w fun e w' => e = .returned (.bool (changedP size (pcs L) r.p)) ∧ Below w.heap.size w w' := by
  have b1 := below_new w (.cells (rcC r).toArray 44)
  have hB5 := Blk.new w 44 (rcC r).toArray
  have i1 := infoRc r
  have hc := hL.cap
  have hm := hL.max
  generalize hw1 : w.alloc (.cells (rcC r).toArray 44) = w1 at *
  generalize hcR : (rcC r).toArray = cR at *
  have HCR := Lib.hid hcR
  clear hcR
  go_enter Tryd.func44, Tryd.ntmps44
  go_wp2_with fail
  obtain ⟨g5, hg5⟩ : ∃ g5, w.heap.size = g5 := ⟨_, rfl⟩
  rw [hg5] at hB5
  rw [hg5]
  have hg5 := Lib.hid hg5
  clear hw1
  go_loopw [7, 8, 9, 10, 11, 12, 13] (fun s7 _ _ _ _ _ _ wr => ∃ j : Nat, s7 = .int .i64 (j : Int) ∧ j ≤ L.length ∧ Hid ((pcs (L.drop j)).find? (matchP r.p) = (pcs L).find? (matchP r.p)) ∧ Blk wr g5 44 cR ∧ Below w.heap.size w wr) (fun s7 _ _ _ _ _ _ _ => L.length - (intOf s7).toNat)
  case atStart => exact ⟨0, rfl, Nat.zero_le _, Lib.hid rfl, hB5, b1⟩
  case round =>
    clear hB5 b1
    obtain ⟨j, rfl, hj, HF, hB5, bb⟩ := hrel
    have hL := hL.below bb
    have hr : RcR wr D r := ⟨hr.1.below bb, hr.2.below bb⟩
    by_cases hlt : j < L.length
    · have hs := hL.all _ (List.getElem_mem hlt)
      obtain ⟨ad, rfl, d0, d1, d2, d3, d4, d5, d6, d7, d8⟩ := hL.at_ hlt
      have E1 := fun he => changed_is (size := size) (find_here' hlt HF.out he)
      have E2 := fun he => find_next' hlt HF.out he
      generalize L[j] = s at *
      obtain ⟨ix, im, ⟨e1, e2, e3, e4, e5, e6, e7⟩, eA, ec⟩ := s
      obtain ⟨rx, hxc, hxm⟩ := hs
      simp only at d0 d1 d2 d3 d4 d5 d6 d7 d8 rx hxc hxm
      have bn := below_new wr (.cells #[.int .i64 ix, .int .i64 im, .int .i64 e1, .int .i64 e2, .int .i64 e3, .int .i64 e4, .int .i64 e5, .int .i64 e6, .slice eA e7.length ec] 50)
      have hN := Blk.new wr 50 #[.int .i64 ix, .int .i64 im, .int .i64 e1, .int .i64 e2, .int .i64 e3, .int .i64 e4, .int .i64 e5, .int .i64 e6, .slice eA e7.length ec]
      have hB5 := hB5.below bn
      have hL' := hL.below bn
      have rx := RdB.below rx bn
      have hr := (show RcR _ D r from ⟨hr.1.below bn, hr.2.below bn⟩)
      have bb := bb.thenB bn bb.size
      go_upto_region 5 with fail
      have hL := hL'
      clear d0 d1 d2 d3 d4 d5 d6 d7 d8 bn hL'
      generalize wr.alloc (.cells #[.int .i64 ix, .int .i64 im, .int .i64 e1, .int .i64 e2, .int .i64 e3, .int .i64 e4, .int .i64 e5, .int .i64 e6, .slice eA e7.length ec] 50) = wb at *
      generalize wr.heap.size = bx at *
      have hmt := rMatch_any r ⟨ix, im, ⟨e1, e2, e3, e4, e5, e6, e7⟩, eA, ec⟩ D D' wb hr ⟨rx, hxc, hxm⟩
      obtain ⟨mb, hmb⟩ : ∃ mb, matchP r.p (CmV.p ⟨ix, im, ⟨e1, e2, e3, e4, e5, e6, e7⟩, eA, ec⟩) = mb := ⟨_, rfl⟩
      rw [hmb] at hmt E1 E2
      unfold cmC at hmt
      simp only at hmt
      have E1 := Lib.hid E1
      have E2 := Lib.hid E2
      clear hmb HF hr
      rw [HCR.out] at hmt
      go_wp2_with first
        | (with_reducible show wpList _ _ _ _ _ _
           refine wpList_load_row rfl 44 (.tmp 5) rfl g5 rfl 44 _ (0, 0) _ hB5 Tryd.underlying44 rfl i1 ?_)
        | (with_reducible show wpList _ _ _ _ _ _
           refine wpList_load_row rfl 50 (.tmp 8) rfl bx rfl 50 _ (0, 0) _ hN Tryd.underlying50 rfl (infoCm ⟨ix, im, ⟨e1, e2, e3, e4, e5, e6, e7⟩, eA, ec⟩) ?_)
      refine hmt.mono ?_
      clear hmt
      rintro e w3 ⟨rfl, b3⟩
      have hB5 := hB5.below b3
      have hL := hL.below b3
      have hN := hN.below b3
      have rx := RdB.below rx b3
      have bb := bb.thenB b3 bb.size
      clear b3
      have d0 := hN.cell 0
      have d1 := hN.cell 1
      simp at d0 d1
      cases mb
      · have E := Lib.hid (E2.out rfl)
        clear E1 E2
        go_wp2_with fail
        go_roundw
        case rel => exact ⟨j + 1, by go_num, hlt, E, hB5, bb⟩
        case measure => simp only [intOf]; omega
      · have HC := Lib.hid (E1.out rfl)
        clear E1 E2
        unfold CmV.p at HC
        simp only at HC
        clear i1
        have hB5 : Blk w3 g5 44 (rcC r).toArray := by rw [HCR.out]; exact hB5
        clear HCR
        generalize w3 = wb at *
        have hat := rAt_any D' _ c L size im (wrap64 (ix - 1)) wb hL
        unfold AtR at hat
        generalize imO size (pcs L) im (wrap64 (ix - 1)) = io at *
        go_wp2_with fail
        refine hat.mono ?_
        clear hat
        rintro e w4 ⟨i, rfl, hip, rI, b4⟩
        have hB5 := hB5.below b4
        have hN := hN.below b4
        have rx := RdB.below rx b4
        have bb := bb.thenB b4 bb.size
        cases io with
        | none =>
          have HE : Hid (changedP size (pcs L) r.p = false) := Lib.hid (HC.out.trans rfl)
          clear HC
          rw [show ((none : Option PI).isSome) = false from rfl]
          go_wp2_with first
            | (with_reducible show wpList _ _ _ _ _ _
               refine wpList_rowB rfl 35 (.tmp 9) (.tmp 37) rfl w4.heap.size 35 _ (imA i) rfl rfl (Blk.new w4 35 #[.slice none 0 0, .slice none 0 0, .int .i64 0]) infoIm rfl (imA_ok _) ?_
               intro w5 hB9 mm
               have nn := im_new mm)
          go_ret
          exact ⟨by rw [HE.out] <;> rfl, bb.thenB nn bb.size⟩
        | some m =>
          obtain rfl : i.p = m := hip
          have HC : Hid (changedP size (pcs L) r.p = (decide ((doP i.p ⟨e1, e2, e3, e4, e5, e6, e7⟩).2.2 = 0) && decide (r.N = (doP i.p ⟨e1, e2, e3, e4, e5, e6, e7⟩).2.1) && decide (r.rd.length = 0))) := Lib.hid (HC.out.trans rfl)
          rw [show ((some i.p : Option PI).isSome) = true from rfl]
          have d2 := hN.cell 2
          have d3 := hN.cell 3
          have d4 := hN.cell 4
          have d5 := hN.cell 5
          have d6 := hN.cell 6
          have d7 := hN.cell 7
          have d8 := hN.cell 8
          simp at d2 d3 d4 d5 d6 d7 d8
          have hdo := fun u (h1 : ImR u (fun _ => True) i) (h2 : RdB u D' eA e7) => rDo_any _ _ i ⟨e1, e2, e3, e4, e5, e6, e7⟩ eA ec u h1 h2 hxc hxm
          generalize doP i.p ⟨e1, e2, e3, e4, e5, e6, e7⟩ = dp at *
          obtain ⟨q1, q2, q3⟩ := dp
          unfold enV enA at hdo
          simp only at hdo HC
          go_wp2_with first
            | (with_reducible show wpList _ _ _ _ _ _
               refine wpList_rowB rfl 35 (.tmp 9) (.tmp 37) rfl w4.heap.size 35 _ (imA i) rfl rfl (Blk.new w4 35 #[.slice none 0 0, .slice none 0 0, .int .i64 0]) infoIm rfl (imA_ok _) ?_
               intro w5 hB9 mm
               have nn := im_new mm
               have rI := rI.below nn
               have rx := RdB.below rx nn
               have hB5 := hB5.below nn
               have hN := hN.below nn
               have bb := bb.thenB nn bb.size
               have d2 := hN.cell 2
               have d3 := hN.cell 3
               have d4 := hN.cell 4
               have d5 := hN.cell 5
               have d6 := hN.cell 6
               have d7 := hN.cell 7
               have d8 := hN.cell 8
               simp at d2 d3 d4 d5 d6 d7 d8
               clear nn mm)
            | (with_reducible show wpList _ _ _ _ _ _
               refine wpList_load_row rfl 35 (.tmp 9) rfl w4.heap.size rfl 35 _ (0, 0) _ hB9 Tryd.underlying35 rfl infoIm ?_)
          refine (hdo _ rI rx).mono ?_
          clear hdo
          rintro e w6 ⟨j, rfl, _, _, b6⟩
          have hB5 := hB5.below b6
          have bb := bb.thenB b6 bb.size
          clear hN rI rx hB9 b6 d2 d3 d4 d5 d6 d7 d8
          go_upto_region 10 with first
            | (with_reducible show wpList _ _ _ _ _ _
               refine wpList_rowB rfl 35 (.tmp 11) (.tmp 46) rfl w6.heap.size 35 _ (imA j) rfl rfl (Blk.new w6 35 #[.slice none 0 0, .slice none 0 0, .int .i64 0]) infoIm rfl (imA_ok _) ?_
               intro w7 hB11 mm
               have nn := im_new mm
               have hB5 := hB5.below nn
               have bb := bb.thenB nn bb.size
               clear nn mm hB11)
          have l11 : w7.cell? ⟨g5, 11, none⟩ = some (.slice r.rA r.rd.length r.rc) := (hB5.cell 11).trans rfl
          have l12 : w7.cell? ⟨g5, 12, none⟩ = some (.int .i64 r.N) := (hB5.cell 12).trans rfl
          generalize r.rA = zA at *
          generalize r.rd = zd at *
          generalize r.rc = zc at *
          generalize r.N = zN at *
          by_cases h0 : q3 = 0
          · have h0' : (q3 == 0) = true := by simp [h0]
            by_cases hN : zN = q2
            · have HE : Hid (changedP size (pcs L) r.p = decide (zd.length = 0)) := Lib.hid (by rw [HC.out, decide_eq_true h0, decide_eq_true hN]; simp)
              by_cases hz : zd.length = 0
              · have hz' : ((zd.length : Int) == 0) = true := by simp [hz]
                have hN' : (zN == q2) = true := by simp [hN]
                have HE := Lib.hid (HE.out.trans (decide_eq_true hz))
                clear hz h0 hN HC
                go_wp2_with fail
                go_ret
                exact ⟨by rw [HE.out] <;> rfl, bb⟩
              · have hz' : ((zd.length : Int) == 0) = false := by simpa using hz
                have hN' : (zN == q2) = true := by simp [hN]
                have HE := Lib.hid (HE.out.trans (decide_eq_false hz))
                clear hz h0 hN HC
                go_wp2_with fail
                go_ret
                exact ⟨by rw [HE.out] <;> rfl, bb⟩
            · have HE : Hid (changedP size (pcs L) r.p = false) := Lib.hid (by rw [HC.out, decide_eq_false hN]; simp)
              have hN' : (zN == q2) = false := by simpa using hN
              clear hN HC h0
              go_wp2_with fail
              go_ret
              exact ⟨by rw [HE.out] <;> rfl, bb⟩
          · have HE : Hid (changedP size (pcs L) r.p = false) := Lib.hid (by rw [HC.out, decide_eq_false h0]; simp)
            have h0' : (q3 == 0) = false := by simpa using h0
            clear h0 HC
            go_wp2_with fail
            go_ret
            exact ⟨by rw [HE.out] <;> rfl, bb⟩
    · obtain rfl : j = L.length := by omega
      have HE : Hid (changedP size (pcs L) r.p = false) := Lib.hid (by
        have : (pcs L).find? (matchP r.p) = none := by rw [← HF.out, List.drop_length]; rfl
        unfold changedP; rw [this])
      go_wp2_with fail
      go_ret
      exact ⟨by rw [HE.out] <;> rfl, bb⟩
end Go.Proofs.YthkeoimjjgmppaaDoor

/- The past: where a byte lies (of the layout that is asked): the code and the document. -/
namespace Go.Proofs.YthkeoimjjgmppaaDoor
open Go.RowKit
set_option linter.unusedVariables false
set_option maxRecDepth 100000

def layV : Value := .agg #[.int .i64 4, .int .i64 2, .int .i64 16]
theorem stCheck_any (w : World) : Calls Tryd.prog 82 #[.agg #[.int .i64 4, .int .i64 2, .int .i64 16]] w fun e w' => e = .returned (.int .i64 0) ∧ Below w.heap.size w w' := by
  have bn := below_new w (.cells #[.int .i64 4, .int .i64 2, .int .i64 16] 47)
  go_enter Tryd.func82, Tryd.ntmps82
  go_wp2_with fail
  go_ret
  exact ⟨rfl, bn⟩
set_option maxHeartbeats 1000000 in
theorem stmay_any (g : Nat) (k : Nat) (hk : k < 512) (w : World) (hB : Blk w g 3 #[.int .i64 (k : Int)]) : Calls Tryd.prog 77 #[.agg #[.int .i64 4, .int .i64 2, .int .i64 16], .slice (some ⟨g, 0, none⟩) 1 1] w fun e w' => e = .returned (.bool true) ∧ Below w.heap.size w w' := by
  have bn := below_new w (.cells #[.int .i64 4, .int .i64 2, .int .i64 16] 47)
  have hc := fun u => stCheck_any u
  have c0 := (hB.below bn).cell 0
  simp at c0
  go_enter Tryd.func77, Tryd.ntmps77
  go_wp2_with fail
  refine wp_loop_rounds 2 ?_
  rw [rounds_succ]
  go_wp2_with fail
  rw [rounds_succ]
  go_wp2_with fail
  refine (hc _).mono ?_
  clear hc
  rintro e w2 ⟨rfl, b2⟩
  go_wp2_with fail
  go_ret
  exact ⟨rfl, bn.thenB' b2⟩
set_option maxHeartbeats 1000000 in
theorem Place_any (k : Nat) (hk : k < 512) (w : World) : Calls Tryd.prog 64 #[.agg #[.int .i64 4, .int .i64 2, .int .i64 16], .int .i64 (k : Int)] w fun e w' => ∃ z : Int, e = .returned (.tuple #[.int .i64 (placeO k : Int), .int .i64 z]) ∧ Below w.heap.size w w' := by
  have bn := below_new w (.cells #[.int .i64 4, .int .i64 2, .int .i64 16] 47)
  have hB := Blk.new w 47 #[.int .i64 4, .int .i64 2, .int .i64 16]
  generalize hw1 : w.alloc (.cells #[.int .i64 4, .int .i64 2, .int .i64 16] 47) = w1 at *
  have b2 := below_new w1 (.cells #[.int .i64 (k : Int)] 3)
  have hm := stmay_any w1.heap.size k hk _ (Blk.new w1 3 #[.int .i64 (k : Int)])
  have hB' := hB.below b2
  have c0 := hB.cell 0
  have c1 := hB.cell 1
  have c2 := hB.cell 2
  simp at c0 c1 c2
  go_enter Tryd.func64, Tryd.ntmps64
  go_wp2_with fail
  refine hm.mono ?_
  clear hm hw1
  rintro e w3 ⟨rfl, b3⟩
  have hB := hB'.below b3
  have bb := (bn.thenB' b2).thenB' b3
  clear b2 b3 bn hB' c0 c1 c2
  have c0 := hB.cell 0
  have c1 := hB.cell 1
  have c2 := hB.cell 2
  simp at c0 c1 c2
  go_wp2_with fail
  go_quiet (fail)
  have hBd := hB.below (below_drewN (Below.refl _ _) nq)
  have bb := below_drewN bb nq
  clear hB c0 c1 c2
  generalize w3.drewN nq = w4 at *
  have c0 := hBd.cell 0
  have c1 := hBd.cell 1
  have c2 := hBd.cell 2
  simp at c0 c1 c2
  rw [show ((k : Int) / 4) = ((k / 4 : Nat) : Int) from rfl, show ((k : Int) % 4) = ((k % 4 : Nat) : Int) from rfl]
  obtain ⟨u, hu⟩ : ∃ u, k / 4 = u := ⟨_, rfl⟩
  obtain ⟨v, hv⟩ : ∃ v, k % 4 = v := ⟨_, rfl⟩
  rw [hu, hv]
  have hu1 : u < 128 := by omega
  have hv1 : v < 4 := by omega
  have HU := Lib.hid hu
  clear hu hv
  go_wp2_with fail
  go_quiet (fail)
  rw [show ((u : Int) / 2) = ((u / 2 : Nat) : Int) from rfl, show ((u : Int) % 2) = ((u % 2 : Nat) : Int) from rfl]
  obtain ⟨s, hs⟩ : ∃ s, u / 2 = s := ⟨_, rfl⟩
  obtain ⟨q, hq⟩ : ∃ q, u % 2 = q := ⟨_, rfl⟩
  rw [hs, hq]
  have hs1 : s < 64 := by omega
  have hq1 : q < 2 := by omega
  have HS := Lib.hid hs
  have HQ := Lib.hid hq
  clear hs hq
  have hBd := hBd.below (below_drewN (Below.refl _ _) nq)
  have bb := below_drewN bb nq
  clear c0 c1 c2
  generalize w4.drewN nq = w5 at *
  have c0 := hBd.cell 0
  have c1 := hBd.cell 1
  have c2 := hBd.cell 2
  simp at c0 c1 c2
  go_wp2_with fail
  go_quiet (fail)
  have bb := below_drewN bb nq
  have hE : ((s : Int) / 4 * 2 + (q : Int)) = (placeO k : Int) := by
    have e1 := HU.out
    have e2 := HS.out
    have e3 := HQ.out
    unfold placeO
    omega
  have HE := Lib.hid hE
  clear hE c0 c1 c2
  go_wp2_with fail
  go_ret2
  refine ⟨(s : Int) % 4 * 4 + (v : Int), ?_, bb⟩
  rw [← HE.out]
  rfl
theorem rMay3_any (w : World) : Calls Tryd.prog 68 #[.agg #[.int .i64 4, .int .i64 2, .int .i64 16]] w fun e w' => e = .returned (.bool true) ∧ Below w.heap.size w w' := by
  have bn := below_new w (.cells #[.int .i64 4, .int .i64 2, .int .i64 16] 47)
  go_enter Tryd.func68, Tryd.ntmps68
  go_wp2_with fail
  go_ret
  exact ⟨rfl, bn⟩
set_option maxHeartbeats 1000000 in
theorem rPlace_any (k : Nat) (hk : k < 512) (w : World) : Calls Tryd.prog 46 #[.agg #[.int .i64 4, .int .i64 2, .int .i64 16], .int .i64 (k : Int)] w fun e w' => ∃ z : Int, e = .returned (.tuple #[.int .i64 (placeO k : Int), .int .i64 z]) ∧ Below w.heap.size w w' := by
  have bn := below_new w (.cells #[.int .i64 4, .int .i64 2, .int .i64 16] 47)
  have hB := Blk.new w 47 #[.int .i64 4, .int .i64 2, .int .i64 16]
  generalize hw1 : w.alloc (.cells #[.int .i64 4, .int .i64 2, .int .i64 16] 47) = w1 at *
  have hm := rMay3_any w1
  have c0 := hB.cell 0
  have c1 := hB.cell 1
  have c2 := hB.cell 2
  simp at c0 c1 c2
  go_enter Tryd.func46, Tryd.ntmps46
  go_wp2_with fail
  refine hm.mono ?_
  clear hm hw1
  rintro e w3 ⟨rfl, b3⟩
  have hB := hB.below b3
  have bb := bn.thenB' b3
  clear b3 bn c0 c1 c2
  have c0 := hB.cell 0
  have c1 := hB.cell 1
  have c2 := hB.cell 2
  simp at c0 c1 c2
  go_upto_region 5 with fail
  rw [show ((k : Int) / 4) = ((k / 4 : Nat) : Int) from rfl]
  obtain ⟨u, hu⟩ : ∃ u, k / 4 = u := ⟨_, rfl⟩
  rw [hu]
  have hu1 : u < 128 := by omega
  have HU := Lib.hid hu
  clear hu
  go_upto_region 8 with fail
  rw [show ((u : Int) / 8) = ((u / 8 : Nat) : Int) from rfl, show ((u : Int) % 8) = ((u % 8 : Nat) : Int) from rfl]
  obtain ⟨s, hs⟩ : ∃ s, u / 8 = s := ⟨_, rfl⟩
  obtain ⟨q, hq⟩ : ∃ q, u % 8 = q := ⟨_, rfl⟩
  rw [hs, hq]
  have hs1 : s < 16 := by omega
  have hq1 : q < 8 := by omega
  have HS := Lib.hid hs
  have HQ := Lib.hid hq
  clear hs hq
  go_quiet (fail)
  have bb := below_drewN bb nq
  have hE : ((s : Int) * 2 + (q : Int) % 2) = (placeO k : Int) := by
    have e1 := HU.out
    have e2 := HS.out
    have e3 := HQ.out
    unfold placeO
    omega
  have HE := Lib.hid hE
  clear hE c0 c1 c2
  go_wp2_with fail
  go_ret2
  refine ⟨(q : Int) / 2 * 4 + (k : Int) % 4, ?_, bb⟩
  rw [← HE.out]
  rfl

/-! ### bytes.IndexByte -/
theorem idx_has (l : List UInt8) (c : UInt8) : decide (0 ≤ Lib.indexByte l c) = l.any (· == c) := by
  induction l with
  | nil => rfl
  | cons b l ih =>
    have hg := Lib.indexByte_ge l c
    unfold Lib.indexByte
    rw [List.any_cons]
    by_cases h : (b == c) = true
    · rw [if_pos h, h]; rfl
    · rw [if_neg h]
      have h' : (b == c) = false := by simpa using h
      rw [h', Bool.false_or, ← ih]
      by_cases h2 : (Lib.indexByte l c == -1) = true
      · have e : Lib.indexByte l c = -1 := by simpa using h2
        rw [if_pos h2, e]
      · have e : Lib.indexByte l c ≠ -1 := by simpa using h2
        rw [if_neg h2]
        rw [decide_eq_decide]
        omega
theorem bytesOf_map (bs : List UInt8) : Lib.bytesOf (bs.map fun x => (x.toNat : Int)) = bs := by
  unfold Lib.bytesOf
  rw [List.map_map]
  conv => rhs; rw [← List.map_id bs]
  refine List.map_congr_left fun x _ => ?_
  simp
set_option maxHeartbeats 2000000 in
theorem IndexByte_any (D : Nat → Prop) (A : Option Addr) (c : Nat) (bs : List UInt8) (b : UInt8) (w : World) (h : RdB w D A bs) :
    Calls Tryd.prog 65 #[.slice A bs.length c, .int .u8 (b.toNat : Int)] w fun e w' => ∃ z : Int, e = .returned (.int .i64 z) ∧ decide (0 ≤ z) = (bs.any (· == b)) ∧ w = w' := by
  have hz := idx_has bs b
  have fin : ∀ z : Int, (Extern.BytealgIndexByte.indexByte #[.slice A bs.length c, .int .u8 (b.toNat : Int)]).run Tryd.prog w = .ok (.int .i64 z) w → decide (0 ≤ z) = (bs.any (· == b)) → Calls Tryd.prog 65 #[.slice A bs.length c, .int .u8 (b.toNat : Int)] w fun e w' => ∃ z : Int, e = .returned (.int .i64 z) ∧ decide (0 ≤ z) = (bs.any (· == b)) ∧ w = w' := by
    intro z hr hd
    have HD := Lib.hid hd
    clear hd hz
    go_enter Tryd.func65, Tryd.ntmps65
    go_wp2_with fail
    rw [run_callFunc_extern Tryd.func78 (by kernel_rfl) (by kernel_rfl) (by kernel_rfl) (e := Extern.BytealgIndexByte.indexByte) (by kernel_rfl), hr]
    simp only [Result.andThen]
    rw [Oper.upon_value]
    clear hr
    go_wp2_with fail
    go_ret
    exact ⟨z, rfl, HD.out, rfl⟩
  rcases Nat.eq_zero_or_pos bs.length with h0 | h0
  · obtain rfl : bs = [] := List.eq_nil_of_length_eq_zero h0
    cases A with
    | none => exact fin (-1) (Lib.run_indexByteNil w 0 c _) rfl
    | some ad => exact fin _ (Lib.run_indexByteAt (P := Tryd.prog) w ad 0 c [] rfl (fun i hi => absurd hi (by omega)) (b.toNat : Int)) rfl
  · obtain ⟨ad, rfl, _, hc⟩ := h.2 h0
    refine fin _ (Lib.run_indexByteAt (P := Tryd.prog) w ad bs.length c (bs.map fun x => (x.toNat : Int)) (by simp) (fun i hi => by
      have := hc i (cB bs[i]) (by rw [List.getElem?_map, List.getElem?_eq_getElem hi]; rfl)
      rw [this]
      simp [cB, List.getD_eq_getElem?_getD, hi]) (b.toNat : Int)) ?_
    rw [bytesOf_map, show ((b.toNat : Int)).toNat.toUInt8 = b by simp]
    exact hz
end Go.Proofs.YthkeoimjjgmppaaDoor

/- The past: whether a read's or a diff's answer is right: the code. -/
namespace Go.Proofs.YthkeoimjjgmppaaDoor
open Go.RowKit
set_option linter.unusedVariables false
set_option maxRecDepth 100000

theorem clean_count : ∀ {L : List Sp} {m N : Int}, CleanR L → (∀ s ∈ L, m ≤ s.1 ∧ s.2 ≤ N) → m + (L.length : Int) ≤ N ∨ L = []
  | [], _, _, _, _ => .inr rfl
  | s :: L, m, N, h, hb => by
    left
    obtain ⟨⟨h1, h2, h3⟩, h4, h5⟩ := h
    have hs := hb s (List.mem_cons_self ..)
    rcases clean_count (m := s.2) (N := N) h5 (fun t ht => ⟨by have := h4 t ht; omega, (hb t (List.mem_cons_of_mem _ ht)).2⟩) with h | h
    · rw [List.length_cons]; omega
    · rw [h, List.length_singleton]; omega
theorem diff_len {a b : List UInt8} {L : List Sp} (h : IsR (diffF a b) L) : L.length ≤ 512 := by
  have hb : ∀ s ∈ L, (0 : Int) ≤ s.1 ∧ s.2 ≤ 512 := fun s hs => by
    have hm := clean_mem h.clean s hs
    refine ⟨hm.1, ?_⟩
    have h1 : hasS L (s.2 - 1) = true := (clean_one h.clean).2 ⟨s, hs, by omega, by omega⟩
    rw [h.is] at h1
    unfold diffF at h1
    simp only [Bool.and_eq_true, decide_eq_true_eq] at h1
    omega
  rcases clean_count h.clean hb with h1 | h1
  · omega
  · rw [h1]; decide

theorem wrap8 (n : Nat) (h : n < 256) : IntKind.u8.wrap (n : Int) = (n : Int) := by
  simp [IntKind.wrap, IntKind.bits, IntKind.signed]
  omega
/-! ### the places that are told -/
def toldB (rd : List UInt8) (k : Nat) : Bool := rd.any fun b => b.toNat == placeO k
theorem place_lt2 {k : Nat} (h : k < 512) : placeO k < 256 := by unfold placeO; omega
theorem told_byte (rd : List UInt8) (k : Nat) (h : k < 512) : (rd.any (· == UInt8.ofNat (placeO k))) = toldB rd k := by
  unfold toldB
  congr 1
  funext b
  have := place_lt2 h
  have e : (UInt8.ofNat (placeO k)).toNat = placeO k := by simp; omega
  rw [Bool.eq_iff_iff]
  simp only [beq_iff_eq]
  constructor
  · rintro rfl; exact e
  · intro hb; exact UInt8.toNat_inj.1 (hb.trans e.symm)
def haveL (rd : List UInt8) : Nat → List Sp
  | 0 => []
  | k + 1 => if toldB rd k = true then haveL rd k ++ [((k : Int), (k : Int) + 1)] else haveL rd k
theorem have_len (rd : List UInt8) : ∀ k, (haveL rd k).length ≤ k
  | 0 => Nat.le_refl _
  | k + 1 => by
    have := have_len rd k
    unfold haveL
    split
    · rw [List.length_append, List.length_singleton]; omega
    · omega
theorem have_is (rd : List UInt8) : ∀ k, k ≤ 512 → ∀ n : Int, hasS (haveL rd k) n = (decide (0 ≤ n ∧ n < (k : Int)) && toldB rd n.toNat)
  | 0, _, n => by
    have h : ¬ (0 ≤ n ∧ n < ((0 : Nat) : Int)) := by omega
    rw [decide_eq_false h]
    exact has_nil n
  | k + 1, hk, n => by
    have ih := have_is rd k (by omega) n
    unfold haveL
    by_cases hn : n = (k : Int)
    · subst hn
      have e0 : ¬ (0 ≤ (k : Int) ∧ (k : Int) < (k : Int)) := by omega
      have e1 : (0 ≤ (k : Int) ∧ (k : Int) < ((k + 1 : Nat) : Int)) := by omega
      rw [decide_eq_false e0, Bool.false_and] at ih
      rw [decide_eq_true e1, Bool.true_and, Int.toNat_natCast]
      split
      · rename_i h
        rw [has_append, ih, has_single _ ⟨by show (0 : Int) ≤ (k : Int); omega, by show (k : Int) + 1 ≤ farS; unfold farS; omega⟩, h, Bool.false_or]
        exact decide_eq_true (by show (k : Int) ≤ (k : Int) ∧ (k : Int) < (k : Int) + 1; omega)
      · rename_i h
        rw [ih]
        exact (by simpa using h : toldB rd k = false).symm
    · have e1 : decide (0 ≤ n ∧ n < ((k + 1 : Nat) : Int)) = decide (0 ≤ n ∧ n < (k : Int)) := by
        rw [decide_eq_decide]; omega
      rw [e1, ← ih]
      split
      · rw [has_append, has_single _ ⟨by show (0 : Int) ≤ (k : Int); omega, by show (k : Int) + 1 ≤ farS; unfold farS; omega⟩]
        have e2 : ¬ ((k : Int) ≤ n ∧ n < (k : Int) + 1) := by omega
        show (_ || decide ((k : Int) ≤ n ∧ n < (k : Int) + 1)) = _
        rw [decide_eq_false e2, Bool.or_false]
      · rfl
theorem diff_told {p : PI} {r : PR} {d L : List Sp} (h0 : diffE p r.call.snap r.call.len = 0) (hd : IsR (diffR p r.call.snap r.call.len) d) (hL : IsR (lessF d (haveL r.rd 512)) L) : diffTold p r = decide (L.length = 0) := by
  unfold diffTold
  rw [decide_eq_true h0, Bool.true_and, Bool.eq_iff_iff, decide_eq_true_iff, List.all_eq_true, List.length_eq_zero_iff, hL.nil]
  constructor
  · intro h n
    unfold lessF
    rw [hd.is, have_is _ 512 (Nat.le_refl _)]
    by_cases hn : 0 ≤ n ∧ n < 512
    · have := h n.toNat (List.mem_range.2 (by omega))
      rw [show ((n.toNat : Nat) : Int) = n by omega] at this
      rw [decide_eq_true (show 0 ≤ n ∧ n < ((512 : Nat) : Int) from hn), Bool.true_and]
      unfold toldB
      revert this
      cases diffR p r.call.snap r.call.len n <;> simp
    · rw [show diffR p r.call.snap r.call.len n = false from diff_out _ _ _ (by omega)]; rfl
  · intro h k hk
    have hk := List.mem_range.1 hk
    have := h (k : Int)
    unfold lessF at this
    rw [hd.is, have_is _ 512 (Nat.le_refl _), decide_eq_true (show 0 ≤ (k : Int) ∧ (k : Int) < ((512 : Nat) : Int) by omega), Bool.true_and, Int.toNat_natCast] at this
    unfold toldB at this
    revert this
    cases diffR p r.call.snap r.call.len (k : Int) <;> simp

set_option maxHeartbeats 8000000 in
theorem told_any (D D' : Nat → Prop) (i : ImV) (r : RcV) (w : World) (hi : ImR w D' i) (hr : RcR w D r) (h64 : r.call.len ≤ 9223372036854775807) :
    Calls Tryd.prog 42 #[.agg #[.int .i64 4, .int .i64 2, .int .i64 16], .agg (imA i), .agg (rcC r).toArray] w fun e w' => e = .returned (.bool (toldP i.p r.p)) ∧ Below w.heap.size w w' := by
  have b1 := below_new w (.cells #[.int .i64 4, .int .i64 2, .int .i64 16] 47)
  have hB3 := Blk.new w 47 #[.int .i64 4, .int .i64 2, .int .i64 16]
  generalize hw1 : w.alloc (.cells #[.int .i64 4, .int .i64 2, .int .i64 16] 47) = w1 at *
  have b2 := below_new w1 (.cells (imA i) 35)
  have hB4 := Blk.new w1 35 (imA i)
  generalize hw2 : w1.alloc (.cells (imA i) 35) = w2 at *
  have b3 := below_new w2 (.cells (rcC r).toArray 44)
  have hB5 := Blk.new w2 44 (rcC r).toArray
  generalize hw3 : w2.alloc (.cells (rcC r).toArray 44) = w3 at *
  have b4 := below_new w3 (.cells (caC r.call r.A r.c).toArray 25)
  have hB7 := Blk.new w3 25 (caC r.call r.A r.c).toArray
  have k1 : w3.cell? ⟨w2.heap.size, 1, none⟩ = some (.int .i64 r.call.image) := (hB5.cell 1).trans rfl
  have k2 : w3.cell? ⟨w2.heap.size, 2, none⟩ = some (.int .i64 r.call.kind) := (hB5.cell 2).trans rfl
  have k3 : w3.cell? ⟨w2.heap.size, 3, none⟩ = some (.int .i64 r.call.off) := (hB5.cell 3).trans rfl
  have k4 : w3.cell? ⟨w2.heap.size, 4, none⟩ = some (.int .i64 r.call.len) := (hB5.cell 4).trans rfl
  have k5 : w3.cell? ⟨w2.heap.size, 5, none⟩ = some (.int .i64 r.call.snap) := (hB5.cell 5).trans rfl
  have k6 : w3.cell? ⟨w2.heap.size, 6, none⟩ = some (.slice r.A r.call.data.length r.c) := (hB5.cell 6).trans rfl
  unfold caC at hB7 b4
  generalize hw4 : w3.alloc (.cells #[.int .i64 r.call.image, .int .i64 r.call.kind, .int .i64 r.call.off, .int .i64 r.call.len, .int .i64 r.call.snap, .slice r.A r.call.data.length r.c] 25) = w4 at *
  have bb := ((b1.thenB' b2).thenB' b3).thenB' b4
  have hB3 := ((hB3.below b2).below b3).below b4
  have hB4 := (hB4.below b3).below b4
  have hB5 := hB5.below b4
  have hi := hi.below bb
  have hrd := hr.2.1.below bb
  have hHT : Hid (toldP i.p r.p = toldP i.p r.p) := Lib.hid rfl
  go_enter Tryd.func42, Tryd.ntmps42
  go_upto_region 2 with fail
  clear hw1 hw2 hw3 hw4 k1 k2 k3 k4 k5 k6 b1 b2 b3 b4
  generalize w3.heap.size = g7 at *
  generalize w2.heap.size = g5 at *
  generalize w1.heap.size = g4 at *
  have k1 := hB7.cell 1
  have k2 := hB7.cell 2
  have k3 := hB7.cell 3
  have k4 := hB7.cell 4
  simp at k1 k2 k3 k4
  have hrA := hr
  clear hHT
  obtain ⟨x, hx⟩ : ∃ x, r.call = x := ⟨_, rfl⟩
  rw [hx] at k1 k2 k3 k4 h64
  have HX := Lib.hid hx
  have l11 : ∀ u, Blk u g5 44 (rcC r).toArray → u.cell? ⟨g5, 11, none⟩ = some (.slice r.rA r.rd.length r.rc) := fun u h => (h.cell 11).trans rfl
  have HL := Lib.hid l11
  obtain ⟨zd, hzd⟩ : ∃ zd, r.rd = zd := ⟨_, rfl⟩
  rw [hzd] at hrd HL
  have HZ := Lib.hid hzd
  obtain ⟨x1, x2, x3, x4, x5, x6⟩ := x
  simp only at k1 k2 k3 k4 h64
  clear l11 hzd hrA hr
  by_cases hk : x2 = 0
  · have hk' : (x2 == 0) = true := by simp [hk]
    have hrdm := Read_any D' i x3 x4 x5 w4 hi h64
    have HT : Hid (toldP i.p r.p = (decide (readE i.p x3 x4 x5 = 0) && decide (readD i.p x3 x4 x5 = zd))) := Lib.hid (by
      unfold toldP RcV.p
      rw [HZ.out, HX.out]
      exact if_pos hk)
    generalize readE i.p x3 x4 x5 = q at *
    generalize readD i.p x3 x4 x5 = rd9 at *
    clear hk hx
    go_wp2_with first
      | (with_reducible show wpList _ _ _ _ _ _
         refine wpList_load_row rfl 35 (.tmp 4) rfl g4 rfl 35 _ (0, 0) _ hB4 Tryd.underlying35 rfl infoIm ?_)
    refine hrdm.mono ?_
    clear hrdm
    rintro e w5 ⟨v5, rfl, o5, b5⟩
    have bb := bb.thenB' b5
    have hB5 := hB5.below b5
    have hrd := hrd.below b5
    have l11 := HL.out _ hB5
    obtain ⟨A5, c5, rfl, _, _⟩ := OwnB.form o5
    have he := bEqual_any _ _ A5 r.rA c5 r.rc rd9 zd w5 (Rd.of_own o5) hrd
    clear o5 hB3 hB4 hB7 hi k1 k2 k3 k4 b5
    by_cases hq : q = 0
    · have hq' : (q == 0) = true := by simp [hq]
      have HT := Lib.hid (HT.out.trans (by rw [decide_eq_true hq, Bool.true_and]))
      clear hq
      go_wp2_with fail
      refine he.mono ?_
      clear he
      rintro e w6 ⟨rfl, b6⟩
      go_wp2_with fail
      go_ret
      exact ⟨by rw [HT.out] <;> rfl, bb.thenB' b6⟩
    · have hq' : (q == 0) = false := by simpa using hq
      have HT := Lib.hid (HT.out.trans (by rw [decide_eq_false hq, Bool.false_and]))
      clear hq he
      go_wp2_with fail
      go_ret
      exact ⟨by rw [HT.out] <;> rfl, bb⟩
  · have hk' : (x2 == 0) = false := by simpa using hk
    have hdf := Differ_any D' i x5 x4 w4 hi
    have HT : Hid (toldP i.p r.p = diffTold i.p r.p) := Lib.hid (by
      unfold toldP RcV.p
      rw [HX.out]
      exact if_neg hk)
    have HN : Hid (diffE i.p x5 x4 ≠ 0 → diffTold i.p r.p = false) := Lib.hid (fun h => by
      unfold diffTold RcV.p
      rw [HX.out, decide_eq_false h]; rfl)
    have HY : Hid (∀ d L : List Sp, diffE i.p x5 x4 = 0 → IsR (diffR i.p x5 x4) d → IsR (lessF d (haveL zd 512)) L → diffTold i.p r.p = decide (L.length = 0)) := Lib.hid (fun d L h0 h1 h2 => diff_told (p := i.p) (r := r.p) (d := d) (by show diffE i.p r.call.snap r.call.len = 0; rw [HX.out]; exact h0) (by show IsR (diffR i.p r.call.snap r.call.len) d; rw [HX.out]; exact h1) (by show IsR (lessF d (haveL r.rd 512)) L; rw [HZ.out]; exact h2))
    have HLN : Hid (∀ d, IsR (diffR i.p x5 x4) d → d.length ≤ 512) := Lib.hid (fun d h => diff_len h)
    unfold Differs at hdf
    clear hk hx
    go_wp2_with first
      | (with_reducible show wpList _ _ _ _ _ _
         refine wpList_load_row rfl 35 (.tmp 4) rfl g4 rfl 35 _ (0, 0) _ hB4 Tryd.underlying35 rfl infoIm ?_)
    refine hdf.mono ?_
    clear hdf
    rintro e w5 ⟨v5, d, rfl, od, hd1, hd2, b5⟩
    have HD1 := Lib.hid hd1
    have HD2 := Lib.hid hd2
    have bb := bb.thenB' b5
    have hB5 := hB5.below b5
    have hB3 := hB3.below b5
    have hrd := hrd.below b5
    clear hB4 hB7 hi k1 k2 k3 k4 b5 hd1 hd2
    generalize diffE i.p x5 x4 = q at *
    obtain ⟨B5, nd, cd, rfl, hnd, lnd, mnd⟩ := OwnC.form' od
    go_wp2_with fail
    go_loopw [12, 13, 14, 15, 50] (fun s12 s13 s14 s15 s50 wr => ∃ (k : Nat) (v : Value), v = s12 ∧ s50 = .int .i64 (k : Int) ∧ k ≤ 512 ∧ OwnSp wr w5.heap.size v (haveL zd k) ∧ Below w5.heap.size w5 wr) (fun _ _ _ _ s50 _ => 512 - (intOf s50).toNat)
    case atStart => exact ⟨0, _, rfl, rfl, Nat.zero_le _, OwnC.nil, Below.refl _ _⟩
    case round =>
      obtain ⟨k, v, rfl, rfl, hk, oH, bq⟩ := hrel
      by_cases hlt : k < 512
      · have hp := Place_any k hlt wr
        have hB3r := hB3.below bq
        have p0 := hB3r.cell 0
        have p1 := hB3r.cell 1
        have p2 := hB3r.cell 2
        simp at p0 p1 p2
        have HS : Hid (haveL zd (k + 1) = if toldB zd k = true then haveL zd k ++ [((k : Int), (k : Int) + 1)] else haveL zd k) := Lib.hid rfl
        have hlen := have_len zd k
        have htb := told_byte zd k hlt
        have hpl := place_lt2 hlt
        have hu8 : IntKind.u8.wrap ((placeO k : Nat) : Int) = ((placeO k : Nat) : Int) := wrap8 _ (by omega)
        have hix := fun u (h : RdB u D r.rA zd) => IndexByte_any D r.rA r.rc zd (UInt8.ofNat (placeO k)) u h
        rw [show ((UInt8.ofNat (placeO k)).toNat : Int) = ((placeO k : Nat) : Int) by simp; omega] at hix
        rw [htb] at hix
        clear htb
        generalize placeO k = pk at *
        generalize haveL zd k = H at *
        generalize toldB zd k = tb at *
        go_wp2_with fail
        refine hp.mono ?_
        clear hp
        rintro e w6 ⟨z6, rfl, b6⟩
        have bq := bq.thenB' b6
        have hB5r := hB5.below bq
        have l11 := HL.out _ hB5r
        have oH : OwnSp w6 w5.heap.size v H := OwnC.below oH b6
        have hix := hix w6 (hrd.below bq)
        clear hB3r p0 p1 p2 b6 hB5r
        go_wp2_with fail
        refine hix.mono ?_
        clear hix
        rintro e w7 ⟨z7, rfl, hz7, rfl⟩
        cases tb
        · have hz8 : ¬ (0 ≤ z7) := by simpa using hz7
          have HS2 : Hid (haveL zd (k + 1) = H) := HS
          clear HS hz7 hu8 l11
          go_wp2_with fail
          go_roundw
          case rel => exact ⟨k + 1, v, rfl, by go_num, hlt, by rw [HS2.out]; exact oH, bq⟩
          case measure => simp only [intOf]; omega
        · have hz8 : 0 ≤ z7 := by simpa using hz7
          have HS2 : Hid (haveL zd (k + 1) = H ++ [((k : Int), (k : Int) + 1)]) := HS
          clear HS hz7 hu8 l11
          have bn := below_new w6 (.cells #[.int .i64 (k : Int), .int .i64 ((k : Int) + 1)] 84)
          have hwB := bq.size
          go_wp2_with first
            | (with_reducible show wpList _ _ _ _ _ _
               refine wpList_appSp rfl (.tmp 70) (.tmp 75) rfl w5.heap.size v H [((k : Int), (k : Int) + 1)] rfl (OwnC.below oH bn) (· = w6.heap.size) (some ⟨w6.heap.size, 0, none⟩) 1 1 rfl rfl (rd_newSp w6 ((k : Int), (k : Int) + 1)) (by simp; omega) (Nat.le_trans hwB bn.size) ?_
               intro v4 w8 o4 x4)
          go_roundw
          case rel => exact ⟨k + 1, v4, rfl, by go_num, hlt, by rw [HS2.out]; exact o4, (bq.thenB' bn).trans (x4.below (OwnC.below oH bn) (Nat.le_refl _) (Nat.le_trans hwB bn.size))⟩
          case measure => simp only [intOf]; omega
      · obtain rfl : k = 512 := by omega
        obtain ⟨B6, nh, ch, rfl, hnh, lnh, mnh⟩ := OwnC.form' oH
        have hlen := have_len zd 512
        by_cases hq : q = 0
        · have hq' : (q == 0) = true := by simp [hq]
          have hid := HD1.out hq
          have hln := HLN.out d hid
          have hw := Within_any _ _ B5 B6 cd ch d (haveL zd 512) wr ((OwnSp.rd od).below bq) (OwnSp.rd oH) (by omega) (by omega)
          have HY2 : Hid (∀ L, IsR (lessF d (haveL zd 512)) L → diffTold i.p r.p = decide (L.length = 0)) := Lib.hid (fun L h => HY.out d L hq hid h)
          rw [← hnd.out, ← hnh.out] at hw
          clear hq HY HN HD1 HD2 hid
          go_wp2_with fail
          refine hw.mono ?_
          clear hw
          rintro e w9 ⟨L, hL, rfl, b9⟩
          have HE := Lib.hid (HY2.out L hL)
          clear hL HY2
          go_wp2_with fail
          go_ret
          exact ⟨by rw [HT.out, HE.out]; show Ending.returned (.bool ((L.length : Int) == 0)) = Ending.returned (.bool (decide (L.length = 0))); congr 2; rw [Bool.eq_iff_iff]; simp, (bb.thenB bq bb.size).thenB b9 (Nat.le_trans bb.size bq.size)⟩
        · have hq' : (q == 0) = false := by simpa using hq
          have HE := Lib.hid (HN.out hq)
          clear hq HY HN HD1 HD2
          go_wp2_with fail
          go_ret
          exact ⟨by rw [HT.out, HE.out] <;> rfl, bb.thenB bq bb.size⟩
end Go.Proofs.YthkeoimjjgmppaaDoor

/- The past: whether a record's answer is right: the code. -/
namespace Go.Proofs.YthkeoimjjgmppaaDoor
open Go.RowKit
set_option linter.unusedVariables false
set_option maxRecDepth 100000

theorem wpList_load_rowG {ops : Array Oper} {rest : List Oper} {o : Oper} {a : Act} {w : World} {Q : Exit → Act → World → Prop} {j : Nat} {b : Bool} (hgd : o.guard = some (j, b)) (hy : yielded ops a.tmps j = some b) (ty : TypeId) (x : Operand) (ho : o.op = .load ty x)
    (g : Nat) (hx : a.eval x = .pointer (some ⟨g, 0, none⟩)) (t : TypeId) (cs : Array Value) (hg : Blk w g t cs) (fs : Array Field)
    (hu : Tryd.prog.underlying ty = some (.struct fs)) (hi : (Tryd.prog.info? ty).map (·.size) = some cs.size)
    (h : wpList Tryd.prog ops Q rest (a.put o.dst (.agg cs)) w) : wpList Tryd.prog ops Q (o :: rest) a w :=
  wpList_step fun K hK => by
    have hw : Region.wanted o (yielded ops a.tmps) = true := by simp [Region.wanted, hgd, hy]
    rw [if_pos hw]
    exact wp_load_row ty x ho g hx t cs (0, 0) _ hg hu rfl hi (hK _ _ h)

/-- The store of an image into its variable, which was laid as a zero one. -/
def toldM (r : PR) : Option PI → Bool
  | none => false
  | some m => toldP m r
theorem ans_true {size : Int} {cs : List PC} {r : PR} (h : r.done = false ∨ r.E ≠ 0) : answeredP size cs r = true := by unfold answeredP; rw [if_pos h]
theorem ans_mut {size : Int} {cs : List PC} {r : PR} (h : r.done = true) (h2 : r.E = 0) (h3 : mutP r.call = true) : answeredP size cs r = changedP size cs r := by
  unfold answeredP
  rw [if_neg (by rw [h, h2]; simp), if_pos h3]
theorem ans_false {size : Int} {cs : List PC} {r : PR} (h : r.done = true) (h2 : r.E = 0) (h3 : mutP r.call = false) (h4 : (r.call.kind ≠ 0 ∧ r.call.kind ≠ 7) ∨ r.rx < r.fr ∨ r.tt < r.rx) : answeredP size cs r = false := by
  unfold answeredP
  rw [if_neg (by rw [h, h2]; simp), if_neg (by rw [h3]; decide), if_pos h4]
theorem ans_told {size : Int} {cs : List PC} {r : PR} (h : r.done = true) (h2 : r.E = 0) (h3 : mutP r.call = false) (h4 : ¬ ((r.call.kind ≠ 0 ∧ r.call.kind ≠ 7) ∨ r.rx < r.fr ∨ r.tt < r.rx)) : answeredP size cs r = toldM r (imO size cs r.call.image r.rx) := by
  unfold answeredP
  rw [if_neg (by rw [h, h2]; simp), if_neg (by rw [h3]; decide), if_neg h4]
  cases imO size cs r.call.image r.rx <;> rfl
set_option maxHeartbeats 8000000 in
theorem Answered_any (D D' : Nat → Prop) (A : Option Addr) (c : Nat) (L : List CmV) (size : Int) (r : RcV) (w : World) (hL : CmsR w D' A c L) (hr : RcR w D r) (ht : TabE w) (hl1 : r.call.data.length ≤ big) (hl2 : ∀ s ∈ L, s.e.data.length ≤ big) (h64 : r.call.len ≤ 9223372036854775807) :
    Calls Tryd.prog 16 #[.agg #[.int .i64 4, .int .i64 2, .int .i64 16], .int .i64 size, .slice A L.length c, .agg (rcC r).toArray] w fun e w' => e = .returned (.bool (answeredP size (pcs L) r.p)) ∧ Below w.heap.size w w' := by
  have b1 := below_new w (.cells #[.int .i64 4, .int .i64 2, .int .i64 16] 47)
  have hB3 := Blk.new w 47 #[.int .i64 4, .int .i64 2, .int .i64 16]
  generalize hw1 : w.alloc (.cells #[.int .i64 4, .int .i64 2, .int .i64 16] 47) = w1 at *
  have b3 := below_new w1 (.cells (rcC r).toArray 44)
  have hB5 := Blk.new w1 44 (rcC r).toArray
  generalize hw3 : w1.alloc (.cells (rcC r).toArray 44) = w2 at *
  have bb := b1.thenB' b3
  have hB3 := hB3.below b3
  have hL := hL.below bb
  have hr : RcR w2 D r := ⟨hr.1.below bb, hr.2.below bb⟩
  have ht := ht.below bb
  have i1 := infoRc r
  have hT := fun h => Lib.hid (ans_true (size := size) (cs := pcs L) (r := r.p) h)
  have hM := fun h h2 h3 => Lib.hid (ans_mut (size := size) (cs := pcs L) (r := r.p) h h2 h3)
  have hF := fun h h2 h3 h4 => Lib.hid (ans_false (size := size) (cs := pcs L) (r := r.p) h h2 h3 h4)
  have hY := fun h h2 h3 h4 => Lib.hid (ans_told (size := size) (cs := pcs L) (r := r.p) h h2 h3 h4)
  have hT := Lib.hid hT
  have hM := Lib.hid hM
  have hF := Lib.hid hF
  have hY := Lib.hid hY
  have hmu := fun u => mutation_any r.call r.A r.c u
  unfold caC at hmu
  have hch := fun u h1 h2 h3 => changed_any D D' A c L size r u h1 h2 h3 hl1 hl2
  have hat := fun u h1 => At_any D' A c L size r.call.image r.rx u h1
  have htl := fun i u (h1 : ImR u (fun _ => True) i) h2 => told_any D (fun _ => True) i r u h1 h2 h64
  go_enter Tryd.func16, Tryd.ntmps16
  go_upto_region 1 with fail
  clear hw1 hw3 b1 b3
  generalize w1.heap.size = g5 at *
  have l0 : ∀ u, Blk u g5 44 (rcC r).toArray → u.cell? ⟨g5, 1, none⟩ = some (.int .i64 r.call.image) ∧ u.cell? ⟨g5, 2, none⟩ = some (.int .i64 r.call.kind) ∧ u.cell? ⟨g5, 3, none⟩ = some (.int .i64 r.call.off) ∧ u.cell? ⟨g5, 4, none⟩ = some (.int .i64 r.call.len) ∧ u.cell? ⟨g5, 5, none⟩ = some (.int .i64 r.call.snap) ∧ u.cell? ⟨g5, 6, none⟩ = some (.slice r.A r.call.data.length r.c) ∧ u.cell? ⟨g5, 7, none⟩ = some (.int .i64 r.fr) ∧ u.cell? ⟨g5, 8, none⟩ = some (.int .i64 r.tt) ∧ u.cell? ⟨g5, 9, none⟩ = some (.bool r.done) ∧ u.cell? ⟨g5, 10, none⟩ = some (.int .i64 r.E) ∧ u.cell? ⟨g5, 13, none⟩ = some (.int .i64 r.rx) :=
    fun u h => ⟨(h.cell 1).trans rfl, (h.cell 2).trans rfl, (h.cell 3).trans rfl, (h.cell 4).trans rfl, (h.cell 5).trans rfl, (h.cell 6).trans rfl, (h.cell 7).trans rfl, (h.cell 8).trans rfl, (h.cell 9).trans rfl, (h.cell 10).trans rfl, (h.cell 13).trans rfl⟩
  have HL := Lib.hid l0
  obtain ⟨l1, l2, l3, l4, l5, l6, l7, l8, l9, l10, l13⟩ := l0 _ hB5
  clear l0
  by_cases hd : r.done = false
  · have HE := hT.out (.inl hd)
    rw [hd] at l9
    clear hmu hch hat htl
    go_wp2_with fail
    go_ret
    exact ⟨by rw [HE.out] <;> rfl, bb⟩
  have hd : r.done = true := by simpa using hd
  rw [hd] at l9
  by_cases hE : r.E = 0
  focus
    rw [hE] at l10
    have hM := fun h3 => hM.out hd hE h3
    have hF := fun h3 h4 => hF.out hd hE h3 h4
    have hY := fun h3 h4 => hY.out hd hE h3 h4
    have hM := Lib.hid hM
    have hF := Lib.hid hF
    have hY := Lib.hid hY
    clear hd hE hT
    obtain ⟨mz, hmz⟩ : ∃ mz, mutP r.call = mz := ⟨_, rfl⟩
    have HMZ := Lib.hid hmz
    rw [hmz] at hmu
    clear hmz
    go_wp2_with fail
    refine (hmu _).mono ?_
    clear hmu
    rintro e w4 ⟨rfl, b4⟩
    have hB5 := hB5.below b4
    have hB3 := hB3.below b4
    have hL := hL.below b4
    have hr : RcR w4 D r := ⟨hr.1.below b4, hr.2.below b4⟩
    have ht := ht.below b4
    have bb := bb.thenB' b4
    clear l1 l2 l3 l4 l5 l6 l7 l8 l9 l10 l13
    obtain ⟨l1, l2, l3, l4, l5, l6, l7, l8, l9, l10, l13⟩ := HL.out _ hB5
    cases mz
    focus
      clear hch
      by_cases hk : (r.call.kind ≠ 0 ∧ r.call.kind ≠ 7) ∨ r.rx < r.fr ∨ r.tt < r.rx
      · have HE := hF.out HMZ.out hk
        clear hat htl
        by_cases h1 : r.call.kind = 0 ∨ r.call.kind = 7
        · by_cases h2 : r.rx < r.fr
          · rcases h1 with h1 | h1
            all_goals
              rw [h1] at l2
              clear h1 hk
              generalize r.rx = zx at *
              generalize r.fr = zf at *
              go_wp2_with fail
              go_ret
              exact ⟨by rw [HE.out] <;> rfl, bb⟩
          · have h3 : r.tt < r.rx := by
              rcases hk with h | h | h
              · exact absurd h1 (fun x => x.elim h.1 h.2)
              · exact absurd h h2
              · exact h
            rcases h1 with h1 | h1
            all_goals
              rw [h1] at l2
              clear h1 hk
              generalize r.rx = zx at *
              generalize r.fr = zf at *
              generalize r.tt = zt at *
              go_wp2_with fail
              go_ret
              exact ⟨by rw [HE.out] <;> rfl, bb⟩
        · have h2 : (r.call.kind != 0) = true := by simp; exact fun h => h1 (.inl h)
          have h3 : (r.call.kind != 7) = true := by simp; exact fun h => h1 (.inr h)
          generalize r.call.kind = zk at *
          clear h1 hk
          go_wp2_with fail
          go_ret
          exact ⟨by rw [HE.out] <;> rfl, bb⟩
      · have HY := hY.out HMZ.out hk
        have h1 : r.call.kind = 0 ∨ r.call.kind = 7 := by
          by_cases h1 : r.call.kind = 0
          · exact .inl h1
          · by_cases h2 : r.call.kind = 7
            · exact .inr h2
            · exact absurd (.inl ⟨h1, h2⟩) hk
        have h2 : ¬ r.rx < r.fr := fun h => hk (.inr (.inl h))
        have h3 : ¬ r.tt < r.rx := fun h => hk (.inr (.inr h))
        have hat := hat _ hL
        unfold AtR at hat
        have HIM : Hid (∀ io, imO size (pcs L) r.p.call.image r.p.rx = io → answeredP size (pcs L) r.p = toldM r.p io) := Lib.hid (fun io h => by rw [HY.out, h])
        obtain ⟨io, hio⟩ : ∃ io, imO size (pcs L) r.call.image r.rx = io := ⟨_, rfl⟩
        rw [hio] at hat
        have HY2 := Lib.hid (HIM.out io hio)
        clear HIM HY hio hk hM hF hY
        rcases h1 with h1 | h1
        all_goals
          rw [h1] at l2
          clear h1
          generalize r.rx = zx at *
          generalize r.fr = zf at *
          generalize r.tt = zt at *
          go_wp2_with fail
          refine hat.mono ?_
          clear hat
          rintro e w5 ⟨i, rfl, hip, rI, b5⟩
          have hB5 := hB5.below b5
          have hB3 := hB3.below b5
          have hr : RcR w5 D r := ⟨hr.1.below b5, hr.2.below b5⟩
          have bb := bb.thenB' b5
          clear hL ht b5 l1 l2 l3 l4 l5 l6 l7 l8 l9 l10 l13 HL
          cases io with
          | none =>
            have HE : Hid (answeredP size (pcs L) r.p = false) := HY2
            clear HY2 htl
            rw [show ((none : Option PI).isSome) = false from rfl]
            go_wp2_with first
              | (with_reducible show wpList _ _ _ _ _ _
                 refine wpList_rowB rfl 35 (.tmp 9) (.tmp 60) rfl w5.heap.size 35 _ (imA i) rfl rfl (Blk.new w5 35 #[.slice none 0 0, .slice none 0 0, .int .i64 0]) infoIm rfl (imA_ok _) ?_
                 intro w6 hB9 mm
                 have nn := im_new mm)
            go_ret
            exact ⟨by rw [HE.out] <;> rfl, bb.thenB' nn⟩
          | some m =>
            obtain rfl : i.p = m := hip
            have HE : Hid (answeredP size (pcs L) r.p = toldP i.p r.p) := HY2
            clear HY2
            rw [show ((some i.p : Option PI).isSome) = true from rfl]
            have htl := htl i
            generalize toldP i.p r.p = tz at *
            generalize hcR : (rcC r).toArray = cR at *
            clear hcR
            go_wp2_with first
              | (with_reducible show wpList _ _ _ _ _ _
                 refine wpList_rowB rfl 35 (.tmp 9) (.tmp 60) rfl w5.heap.size 35 _ (imA i) rfl rfl (Blk.new w5 35 #[.slice none 0 0, .slice none 0 0, .int .i64 0]) infoIm rfl (imA_ok _) ?_
                 intro w6 hB9 mm
                 have nn := im_new mm
                 have rI := rI.below nn
                 have hB5 := hB5.below nn
                 have hB3 := hB3.below nn
                 have hr : RcR w6 D r := ⟨hr.1.below nn, hr.2.below nn⟩
                 have bb := bb.thenB' nn
                 have htl := htl w6 rI hr
                 have p0 := hB3.cell 0
                 have p1 := hB3.cell 1
                 have p2 := hB3.cell 2
                 simp at p0 p1 p2
                 clear nn mm rI hr)
              | (with_reducible show wpList _ _ _ _ _ _
                 refine wpList_load_rowG rfl rfl 35 (.tmp 9) rfl w5.heap.size rfl 35 _ hB9 _ Tryd.underlying35 infoIm ?_)
              | (with_reducible show wpList _ _ _ _ _ _
                 refine wpList_load_rowG rfl rfl 44 (.tmp 7) rfl g5 rfl 44 _ hB5 _ Tryd.underlying44 i1 ?_)
            refine htl.mono ?_
            clear htl
            rintro e w7 ⟨rfl, b7⟩
            go_wp2_with fail
            go_ret
            exact ⟨by rw [HE.out] <;> rfl, bb.thenB' b7⟩
    · have HE := hM.out HMZ.out
      go_wp2_with first
        | (with_reducible show wpList _ _ _ _ _ _
           refine wpList_load_row rfl 44 (.tmp 7) rfl g5 rfl 44 _ (0, 0) _ hB5 Tryd.underlying44 rfl i1 ?_)
      refine (hch _ hL hr ht).mono ?_
      clear hch
      rintro e w5 ⟨rfl, b5⟩
      go_wp2_with fail
      go_ret
      exact ⟨by rw [HE.out] <;> rfl, bb.thenB' b5⟩
  · have HE := hT.out (.inr hE)
    have hE' : (r.E != 0) = true := by simpa using hE
    generalize r.E = zE at *
    clear hmu hch hat htl hE
    go_wp2_with fail
    go_ret
    exact ⟨by rw [HE.out] <;> rfl, bb⟩
end Go.Proofs.YthkeoimjjgmppaaDoor
