/- The law AbstractTwice: the plain law, the walk. -/
import Derived.Test.YtcdodchjgadcoaaAbY
namespace Go.Proofs.Ytcdodchjgadcoaa
open Go.RowKit
set_option linter.unusedVariables false
set_option maxRecDepth 100000

theorem laid_same (d x : List UInt8) (off : Nat) (hx : off + x.length ≤ d.length) : laidO (laidO d off x) off x = laidO d off x := laidO_over d x x off rfl hx
theorem size_same (d : List UInt8) (n : Nat) : sizeO (sizeO d n) n = sizeO d n := by
  have h := sizeO_len d n
  generalize hd : sizeO d n = y at *
  unfold sizeO
  rw [List.take_of_length_le (by omega), h, Nat.sub_self]
  simp
/-- What is done twice is done once. -/
theorem twice_law {p : PI} {e : E7} (hm : mayI p = true) (h0 : (doP p e).2.2 = 0) (h4 : e.kind ≠ 4) (h5 : e.kind ≠ 5) : (doP (doP p e).1 e).2.2 = 0 ∧ (doP (doP p e).1 e).1 = (doP p e).1 := by
  have he := doP_ok hm h0
  have hm2 := doP_may hm h0
  have hp := of_decide_eq_true (show decide (mayP e) = true from he)
  have hC := doP_c hm he
  unfold mayP at hp
  rcases hp.2 with h | h | h | h | ⟨h | h, _⟩
  · rw [if_pos h.1] at hC
    by_cases h1 : (p.d.length : Int) < e.off + e.data.length
    · rw [if_pos h1] at hC; rw [hC] at h0; cases h0
    · rw [if_neg h1] at hC
      rw [hC] at hm2 ⊢
      have hD := doP_c hm2 he
      have hl : (laidO p.d e.off.toNat e.data).length = p.d.length := laidO_len _ _ _ (by omega)
      rw [if_pos h.1, if_neg (by show ¬ ((laidO p.d e.off.toNat e.data).length : Int) < _; rw [hl]; exact h1)] at hD
      rw [hD]
      exact ⟨rfl, by show PI.mk _ _ _ = _; rw [laid_same _ _ _ (by omega)]⟩
  · rw [if_neg (by omega), if_pos h.1] at hC
    by_cases h1 : (p.d.length : Int) < e.off + e.len
    · rw [if_pos h1] at hC; rw [hC] at h0; cases h0
    · rw [if_neg h1] at hC
      rw [hC] at hm2 ⊢
      have hD := doP_c hm2 he
      have hl : (laidO p.d e.off.toNat (List.replicate e.len.toNat 0)).length = p.d.length := laidO_len _ _ _ (by rw [List.length_replicate]; omega)
      rw [if_neg (by omega), if_pos h.1, if_neg (by show ¬ ((laidO p.d e.off.toNat (List.replicate e.len.toNat 0)).length : Int) < _; rw [hl]; exact h1)] at hD
      rw [hD]
      exact ⟨rfl, by show PI.mk _ _ _ = _; rw [laid_same _ _ _ (by rw [List.length_replicate]; omega)]⟩
  · rw [if_neg (by omega), if_neg (by omega), if_pos h.1] at hC
    rw [hC] at hm2 ⊢
    have hD := doP_c hm2 he
    rw [if_neg (by omega), if_neg (by omega), if_pos h.1] at hD
    rw [hD]
    exact ⟨rfl, by show PI.mk _ _ _ = _; rw [size_same]⟩
  · exact absurd h h4
  · exact absurd h h5
  · rw [if_neg (by omega), if_neg (by omega), if_neg (by omega), if_neg h4] at hC
    by_cases h1 : findO (idsP p.S) e.snap < 0
    · rw [if_pos h1] at hC; rw [hC] at h0; cases h0
    · rw [if_neg h1, if_neg h5] at hC
      rw [hC] at hm2 ⊢
      have hD := doP_c hm2 he
      rw [if_neg (by omega), if_neg (by omega), if_neg (by omega), if_neg h4, if_neg (show ¬ findO (idsP p.S) e.snap < 0 from h1), if_neg h5] at hD
      rw [hD]
      exact ⟨rfl, rfl⟩
def noughts (e : E7) : E7 := { e with data := List.replicate e.data.length 0 }
/-- A write over a write is the later one. -/
theorem over_law {p : PI} {e : E7} (hm : mayI p = true) (h0 : (doP p e).2.2 = 0) (h1 : e.kind = 1) : (doP p (noughts e)).2.2 = 0 ∧ (doP (doP p (noughts e)).1 e).2.2 = 0 ∧ (doP (doP p (noughts e)).1 e).1 = (doP p e).1 := by
  have he := doP_ok hm h0
  have hp := of_decide_eq_true (show decide (mayP e) = true from he)
  have hl : (noughts e).data.length = e.data.length := List.length_replicate
  have he2 : mayE (noughts e) = true := decide_eq_true (by
    unfold mayP at hp ⊢
    rw [hl]
    exact hp)
  have hC := doP_c hm he
  have hA := doP_c hm he2
  rw [if_pos h1] at hC
  rw [if_pos (show (noughts e).kind = 1 from h1), hl] at hA
  unfold mayP at hp
  by_cases h2 : (p.d.length : Int) < e.off + e.data.length
  · rw [if_pos h2] at hC; rw [hC] at h0; cases h0
  · rw [if_neg h2] at hC
    rw [if_neg (show ¬ (p.d.length : Int) < (noughts e).off + e.data.length from h2)] at hA
    have e0 : (doP p (noughts e)).2.2 = 0 := by rw [hA]
    have hm2 := doP_may hm e0
    refine ⟨e0, ?_⟩
    rw [hA] at hm2 ⊢
    have hD := doP_c hm2 he
    have hl2 : (laidO p.d (noughts e).off.toNat (noughts e).data).length = p.d.length := laidO_len _ _ _ (by rw [hl]; show e.off.toNat + _ ≤ _; omega)
    rw [if_pos h1, if_neg (by show ¬ ((laidO p.d (noughts e).off.toNat (noughts e).data).length : Int) < _; rw [hl2]; exact h2)] at hD
    rw [hD, hC]
    exact ⟨rfl, by show PI.mk _ _ _ = PI.mk _ _ _; rw [show (noughts e).off = e.off from rfl, laidO_over _ _ _ _ hl.symm (by omega)]⟩

set_option maxHeartbeats 8000000 in
theorem twice_walk (W : World) (z : Int) (iz : I64 z) (AL : Option Addr) (L : List EV) (cL : Nat) (rL : RdL W (Old W) 7 evC AL L) (lL : L.length ≤ cL) (mL : cL ≤ 9223372036854775807) (nL : AL = none → cL = 0) (sL : ∀ s ∈ L, EvR W (Old W) s ∧ EnI s.e) (e : E7) (A : Option Addr) (c : Nat) (rd : RdB W (Old W) A e.data) (hdc : e.data.length ≤ c) (hcm : c ≤ 9223372036854775807) (hn : A = none → c = 0) (ei : EnI e) :
    Calls Try.prog 9 #[.int .i64 z, .slice AL L.length cL, enV e A c] W fun e w' => e = .returned (.bool true) ∧ Below W.heap.size W w' := by
  clear iz nL hn ei
  have bb := below_new W (.cells (enA e A c) 41)
  have hE := Blk.new W 41 (enA e A c)
  replace rd := rd.below bb
  have rLL := RdL.below rL bb
  unfold enV
  generalize hw0 : W.alloc (.cells (enA e A c) 41) = w0 at *
  have haw := awake18 w0
  go_enter Try.func9, Try.ntmps9
  go_wp2_with fail
  refine haw.mono ?_
  clear haw hw0
  rintro e1 w1 ⟨rfl, b_⟩
  replace hE := hE.below b_
  replace rd := rd.below b_
  replace bb := bb.thenB' b_
  clear b_
  obtain ⟨sq, ow, kd, off, len, sn, data⟩ := e
  unfold enA at *
  dsimp only at *
  have k2 := hE.cell 2
  have k6 := hE.cell 6
  simp at k2 k6
  by_cases h1 : (200 : Int) < (data.length : Int)
  focus
    go_wp2_with fail
    go_ret
    exact ⟨rfl, bb⟩
  by_cases h4 : kd = 4
  focus
    subst h4
    go_wp2_with fail
    go_ret
    exact ⟨rfl, bb⟩
  by_cases h5 : kd = 5
  focus
    subst h5
    have h4b : ((5 : Int) == 4) = false := rfl
    go_wp2_with fail
    go_ret
    exact ⟨rfl, bb⟩
  have h4b : (kd == 4) = false := by simp [h4]
  have h5b : (kd == 5) = false := by simp [h5]
  have hbe := fun V (b : Below W.heap.size W V) => behind_any z AL L cL V ((RdL.below rL b).imp evC_pos fun _ hb _ => hb) lL mL fun s hs => ⟨Rd.imp (RdB.below (sL s hs).1.1 b) (fun _ hb _ => hb) (by decide), (sL s hs).1.2⟩
  have hbe := hbe w1 bb
  clear rL rLL lL sL
  go_wp2_with fail
  refine hbe.mono ?_
  clear hbe k2 k6
  rintro e2 w2 ⟨im, rfl, hmay, rM, b_⟩
  replace hE := hE.below b_
  replace rd := rd.below b_
  replace bb := bb.thenB' b_
  clear b_
  have HM := Lib.hid hmay
  clear hmay
  have hdo := fun V D (q : ImR V D im) (q2 : RdB V (Old W) A data) => Do_any D (Old W) im ⟨sq, ow, kd, off, len, sn, data⟩ A c V q q2 hdc hcm
  unfold enV enA at hdo
  dsimp only at hdo
  have hlaw := fun h => twice_law (p := im.p) (e := ⟨sq, ow, kd, off, len, sn, data⟩) HM.out h h4 h5
  have hlaw2 := fun h => over_law (p := im.p) (e := ⟨sq, ow, kd, off, len, sn, data⟩) HM.out h
  go_wp2_with first
    | (with_reducible show wpList _ _ _ _ _ _
       refine wpList_rowB rfl 25 (.tmp 8) (.tmp 41) rfl w2.heap.size 25 _ (imA im) rfl rfl (Blk.new w2 25 #[.slice none 0 0, .slice none 0 0, .int .i64 0]) infoIm rfl (imA_ok _) ?_
       intro w3 hM mm
       have nn : Below w2.heap.size w2 w3 := im_new mm
       replace hE := hE.below nn
       replace rd := rd.below nn
       replace rM := rM.below nn
       replace bb := bb.thenB' nn
       clear nn mm)
    | (with_reducible show wpList _ _ _ _ _ _
       refine wpList_load_row rfl 25 (.tmp 8) rfl w2.heap.size rfl 25 _ (0, 0) _ hM Try.underlying25 rfl infoIm ?_)
    | (with_reducible show wpList _ _ _ _ _ _
       refine wpList_load_row rfl 41 (.tmp 5) rfl W.heap.size rfl 41 _ (0, 0) _ hE Try.underlying41 rfl infoEy ?_)
  refine (hdo _ _ rM rd).mono ?_
  rintro e4 w4 ⟨ia, rfl, ha, oA, b_⟩
  replace hE := hE.below b_
  replace rd := rd.below b_
  replace rM := rM.below b_
  replace hM := hM.below b_
  replace bb := bb.thenB' b_
  clear b_
  have rA := oA.rd
  clear oA
  generalize hda : doP im.p ⟨sq, ow, kd, off, len, sn, data⟩ = da at *
  obtain ⟨pa, na, ea⟩ := da
  dsimp only at ha hlaw hlaw2 ⊢
  by_cases h0 : ea = 0
  rotate_left
  focus
    have h0b : (ea != 0) = true := by simp [h0]
    have HDA := Lib.hid hda
    clear hda
    go_wp2_with first
      | (with_reducible show wpList _ _ _ _ _ _
         refine wpList_rowB rfl 25 (.tmp 9) (.tmp 46) rfl w4.heap.size 25 _ (imA ia) rfl rfl (Blk.new w4 25 #[.slice none 0 0, .slice none 0 0, .int .i64 0]) infoIm rfl (imA_ok _) ?_
         intro w5 hA mm
         have nn : Below w4.heap.size w4 w5 := im_new mm
         replace hE := hE.below nn
         replace rd := rd.below nn
         replace rM := rM.below nn
         replace hM := hM.below nn
         replace rA := rA.below nn
         replace bb := bb.thenB' nn
         clear nn mm)
    go_ret
    exact ⟨rfl, bb⟩
  subst h0
  have HDA := Lib.hid hda
  clear hda
  obtain ⟨q0, q1⟩ := hlaw rfl
  clear hlaw
  have hdoa := fun V D (q : ImR V D ia) (q2 : RdB V (Old W) A data) => Do_any D (Old W) ia ⟨sq, ow, kd, off, len, sn, data⟩ A c V q q2 hdc hcm
  rw [ha] at hdoa
  unfold enV enA at hdoa
  dsimp only at hdoa
  generalize hdb : doP pa ⟨sq, ow, kd, off, len, sn, data⟩ = db at *
  obtain ⟨pb, nb, eb⟩ := db
  dsimp only at q0 q1 hdoa
  subst q0 q1
  clear hdb
  go_wp2_with first
    | (with_reducible show wpList _ _ _ _ _ _
       refine wpList_rowB rfl 25 (.tmp 9) (.tmp 46) rfl w4.heap.size 25 _ (imA ia) rfl rfl (Blk.new w4 25 #[.slice none 0 0, .slice none 0 0, .int .i64 0]) infoIm rfl (imA_ok _) ?_
       intro w5 hA mm
       have nn : Below w4.heap.size w4 w5 := im_new mm
       replace hE := hE.below nn
       replace rd := rd.below nn
       replace rM := rM.below nn
       replace hM := hM.below nn
       replace rA := rA.below nn
       replace bb := bb.thenB' nn
       clear nn mm)
    | (with_reducible show wpList _ _ _ _ _ _
       refine wpList_load_row rfl 25 (.tmp 9) rfl w4.heap.size rfl 25 _ (0, 0) _ hA Try.underlying25 rfl infoIm ?_)
    | (with_reducible show wpList _ _ _ _ _ _
       refine wpList_load_row rfl 41 (.tmp 5) rfl W.heap.size rfl 41 _ (0, 0) _ hE Try.underlying41 rfl infoEy ?_)
  refine (hdoa _ _ rA rd).mono ?_
  clear hdoa
  rintro e6 w6 ⟨ib, rfl, hb, oB, b_⟩
  replace hE := hE.below b_
  replace rd := rd.below b_
  replace rM := rM.below b_
  replace hM := hM.below b_
  replace rA := rA.below b_
  replace hA := hA.below b_
  replace bb := bb.thenB' b_
  clear b_
  have rB := oB.rd
  clear oB
  have hsame := fun V D D' (q : ImR V D ia) (q2 : ImR V D' ib) => Same18_any D D' ia ib V q q2
  rw [show sameI ia.p ib.p = true from by rw [ha, hb]; exact sameI_self _] at hsame
  go_wp2_with first
    | (with_reducible show wpList _ _ _ _ _ _
       refine wpList_rowB rfl 25 (.tmp 12) (.tmp 55) rfl w6.heap.size 25 _ (imA ib) rfl rfl (Blk.new w6 25 #[.slice none 0 0, .slice none 0 0, .int .i64 0]) infoIm rfl (imA_ok _) ?_
       intro w7 hBv mm
       have nn : Below w6.heap.size w6 w7 := im_new mm
       replace hE := hE.below nn
       replace rd := rd.below nn
       replace rM := rM.below nn
       replace hM := hM.below nn
       replace rA := rA.below nn
       replace hA := hA.below nn
       replace rB := rB.below nn
       replace bb := bb.thenB' nn
       clear nn mm)
    | (with_reducible show wpList _ _ _ _ _ _
       refine wpList_load_rowG rfl rfl 25 (.tmp 9) rfl w4.heap.size rfl 25 _ hA _ Try.underlying25 infoIm ?_)
    | (with_reducible show wpList _ _ _ _ _ _
       refine wpList_load_rowG rfl rfl 25 (.tmp 12) rfl w6.heap.size rfl 25 _ hBv _ Try.underlying25 infoIm ?_)
  refine (hsame _ _ _ rA rB).mono ?_
  clear hsame
  rintro e8 w8 ⟨rfl, b_⟩
  replace hE := hE.below b_
  replace rd := rd.below b_
  replace rM := rM.below b_
  replace hM := hM.below b_
  replace rA := rA.below b_
  replace hA := hA.below b_
  replace rB := rB.below b_
  replace hBv := hBv.below b_
  replace bb := bb.thenB' b_
  clear b_
  clear hBv rB hb
  have k2 := hE.cell 2
  simp at k2
  by_cases h1k : kd = 1
  rotate_left
  focus
    have h1b : (kd != 1) = true := by simp [h1k]
    go_wp2_with fail
    go_ret
    exact ⟨rfl, bb⟩
  subst h1k
  obtain ⟨t0, t1, t2⟩ := hlaw2 trivial rfl
  clear hlaw2 h4 h5
  have zE := Blk.new w8 41 #[.int .i64 0, .int .i64 0, .int .i64 0, .int .i64 0, .int .i64 0, .int .i64 0, .slice none 0 0]
  go_upto_region 16 with first
    | (with_reducible show wpList _ _ _ _ _ _
       refine wpList_load_row rfl 41 (.tmp 5) rfl W.heap.size rfl 41 _ (0, 0) _ hE Try.underlying41 rfl infoEy ?_)
    | (with_reducible show wpList _ _ _ _ _ _
       refine wpList_rowB rfl 41 (.tmp 15) (.tmp 69) rfl w8.heap.size 41 _ #[.int .i64 sq, .int .i64 ow, .int .i64 1, .int .i64 off, .int .i64 len, .int .i64 sn, .slice A data.length c] rfl rfl zE infoEy rfl (by simp [Value.oneCell']) ?_
       intro w9 hX mm
       have n9 : Below w8.heap.size w8 w9 := im_new mm
       have k6 := (hE.below n9).cell 6
       simp at k6
       have hg9 := hX.lt
       clear mm zE)
  go_upto_region 17 with first
    | (at_make
       refine wpList_makeB rfl (.tmp 72) (.tmp 72) rfl w9.heap.size data.length rfl rfl (by unfold big; omega) (Nat.le_refl _) ?_
       intro w10 oZ n10
       have hX := hX.below n10)
    | (with_reducible show wpList _ _ _ _ _ _
       refine wpList_fldB rfl 22 (.tmp 74) (.tmp 73) rfl w8.heap.size 6 41 _ (.slice (some ⟨w9.heap.size, 0, none⟩) data.length data.length) rfl rfl rfl infoD1 hX 7 rfl (by decide) ?_
       intro w11 hX11 m11
       replace hX11 : Blk w11 w8.heap.size 41 #[.int .i64 sq, .int .i64 ow, .int .i64 1, .int .i64 off, .int .i64 len, .int .i64 sn, .slice (some ⟨w9.heap.size, 0, none⟩) data.length data.length] := hX11)
  have b_ : Below w8.heap.size w8 w11 := (n9.thenB' n10).thenM m11 (by have := n9.size; have := n10.size; omega) (fun i hi e => by omega)
  have oZ11 := OwnB.mod oZ m11 (fun j hj e => by have := (World.ownsRow.lt oZ j hj).1; omega)
  have rZ : RdB w11 (w9.heap.size ≤ ·) (some ⟨w9.heap.size, 0, none⟩) (List.replicate data.length 0) := (show OwnB w11 w9.heap.size (.slice (some ⟨w9.heap.size, 0, none⟩) (List.replicate data.length (0 : UInt8)).length data.length) (List.replicate data.length 0) from by rw [List.length_replicate]; exact oZ11).rdG
  clear oZ oZ11 m11 n9 n10 hg9 hX k6
  replace hE := hE.below b_
  replace rd := rd.below b_
  replace rM := rM.below b_
  replace hM := hM.below b_
  replace rA := rA.below b_
  replace hA := hA.below b_
  replace bb := bb.thenB' b_
  clear b_
  have hdz := Do_any _ _ im (noughts ⟨sq, ow, 1, off, len, sn, data⟩) (some ⟨w9.heap.size, 0, none⟩) data.length w11 rM rZ (by show (List.replicate data.length (0 : UInt8)).length ≤ _; rw [List.length_replicate]; exact Nat.le_refl _) (by omega)
  rw [show enV (noughts ⟨sq, ow, 1, off, len, sn, data⟩) (some ⟨w9.heap.size, 0, none⟩) data.length = .agg #[.int .i64 sq, .int .i64 ow, .int .i64 1, .int .i64 off, .int .i64 len, .int .i64 sn, .slice (some ⟨w9.heap.size, 0, none⟩) data.length data.length] from by unfold noughts enV enA; dsimp only; rw [List.length_replicate]] at hdz
  generalize hdz' : doP im.p (noughts ⟨sq, ow, 1, off, len, sn, data⟩) = dz at *
  obtain ⟨pz, nz, ez⟩ := dz
  dsimp only at t0 t1 t2 hdz
  subst t0
  have HDZ := Lib.hid hdz'
  clear hdz' 
  go_wp2_with first
    | (with_reducible show wpList _ _ _ _ _ _
       refine wpList_load_row rfl 25 (.tmp 8) rfl w2.heap.size rfl 25 _ (0, 0) _ hM Try.underlying25 rfl infoIm ?_)
    | (with_reducible show wpList _ _ _ _ _ _
       refine wpList_load_row rfl 41 (.tmp 15) rfl w8.heap.size rfl 41 _ (0, 0) _ hX11 Try.underlying41 rfl infoEy ?_)
  refine hdz.mono ?_
  clear hdz
  rintro e12 w12 ⟨ic, rfl, hc, oC, b_⟩
  replace hE := hE.below b_
  replace rd := rd.below b_
  replace rM := rM.below b_
  replace hM := hM.below b_
  replace rA := rA.below b_
  replace hA := hA.below b_
  replace hX11 := hX11.below b_
  replace rZ := rZ.below b_
  replace bb := bb.thenB' b_
  clear b_
  have rC := oC.rd
  clear oC
  have hdoc := fun V D (q : ImR V D ic) (q2 : RdB V (Old W) A data) => Do_any D (Old W) ic ⟨sq, ow, 1, off, len, sn, data⟩ A c V q q2 hdc hcm
  rw [hc] at hdoc
  unfold enV enA at hdoc
  dsimp only at hdoc
  generalize hdd : doP pz ⟨sq, ow, 1, off, len, sn, data⟩ = dd at *
  obtain ⟨pd, nd, ed⟩ := dd
  dsimp only at t1 t2 hdoc
  subst t1 t2
  clear hdd
  go_wp2_with first
    | (with_reducible show wpList _ _ _ _ _ _
       refine wpList_rowB rfl 25 (.tmp 16) (.tmp 79) rfl w12.heap.size 25 _ (imA ic) rfl rfl (Blk.new w12 25 #[.slice none 0 0, .slice none 0 0, .int .i64 0]) infoIm rfl (imA_ok _) ?_
       intro w13 hC mm
       have nn : Below w12.heap.size w12 w13 := im_new mm
       replace hE := hE.below nn
       replace rd := rd.below nn
       replace rM := rM.below nn
       replace hM := hM.below nn
       replace rA := rA.below nn
       replace hA := hA.below nn
       replace hX11 := hX11.below nn
       replace rZ := rZ.below nn
       replace rC := rC.below nn
       replace bb := bb.thenB' nn
       clear nn mm)
    | (with_reducible show wpList _ _ _ _ _ _
       refine wpList_load_row rfl 25 (.tmp 16) rfl w12.heap.size rfl 25 _ (0, 0) _ hC Try.underlying25 rfl infoIm ?_)
    | (with_reducible show wpList _ _ _ _ _ _
       refine wpList_load_row rfl 41 (.tmp 5) rfl W.heap.size rfl 41 _ (0, 0) _ hE Try.underlying41 rfl infoEy ?_)
  refine (hdoc _ _ rC rd).mono ?_
  clear hdoc
  rintro e14 w14 ⟨id_, rfl, hd, oD, b_⟩
  replace hE := hE.below b_
  replace rd := rd.below b_
  replace rM := rM.below b_
  replace hM := hM.below b_
  replace rA := rA.below b_
  replace hA := hA.below b_
  replace hX11 := hX11.below b_
  replace rZ := rZ.below b_
  replace rC := rC.below b_
  replace hC := hC.below b_
  replace bb := bb.thenB' b_
  clear b_
  have rD := oD.rd
  clear oD
  have hsame := fun V D D' (q : ImR V D id_) (q2 : ImR V D' ia) => Same18_any D D' id_ ia V q q2
  rw [show sameI id_.p ia.p = true from by rw [ha, hd]; exact sameI_self _] at hsame
  go_wp2_with first
    | (with_reducible show wpList _ _ _ _ _ _
       refine wpList_rowB rfl 25 (.tmp 19) (.tmp 86) rfl w14.heap.size 25 _ (imA id_) rfl rfl (Blk.new w14 25 #[.slice none 0 0, .slice none 0 0, .int .i64 0]) infoIm rfl (imA_ok _) ?_
       intro w15 hDv mm
       have nn : Below w14.heap.size w14 w15 := im_new mm
       replace hE := hE.below nn
       replace rd := rd.below nn
       replace rM := rM.below nn
       replace hM := hM.below nn
       replace rA := rA.below nn
       replace hA := hA.below nn
       replace hX11 := hX11.below nn
       replace rZ := rZ.below nn
       replace rC := rC.below nn
       replace hC := hC.below nn
       replace rD := rD.below nn
       replace bb := bb.thenB' nn
       clear nn mm)
    | (with_reducible show wpList _ _ _ _ _ _
       refine wpList_load_rowG rfl rfl 25 (.tmp 19) rfl w14.heap.size rfl 25 _ hDv _ Try.underlying25 infoIm ?_)
    | (with_reducible show wpList _ _ _ _ _ _
       refine wpList_load_rowG rfl rfl 25 (.tmp 9) rfl w4.heap.size rfl 25 _ hA _ Try.underlying25 infoIm ?_)
  refine (hsame _ _ _ rD rA).mono ?_
  clear hsame
  rintro e16 w16 ⟨rfl, b_⟩
  replace bb := bb.thenB' b_
  go_wp2_with fail
  go_ret
  exact ⟨rfl, bb⟩
end Go.Proofs.Ytcdodchjgadcoaa
