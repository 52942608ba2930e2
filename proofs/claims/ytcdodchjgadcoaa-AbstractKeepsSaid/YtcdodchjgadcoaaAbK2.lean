/- The law AbstractKeeps: the plain laws, the walk. -/
import Derived.Test.YtcdodchjgadcoaaAbTw
namespace Go.Proofs.Ytcdodchjgadcoaa
open Go.RowKit
set_option linter.unusedVariables false
set_option maxRecDepth 100000

def lookP (S : List (Int × List UInt8)) (id : Int) : Option (List UInt8) := (S.find? fun s => s.1 == id).map (·.2)
theorem look_at (id : Int) : ∀ (S : List (Int × List UInt8)) (k : Nat), (findAt (idsP S) id k < 0 ∧ lookP S id = none) ∨ ∃ j, ∃ hj : j < S.length, findAt (idsP S) id k = ((k + j : Nat) : Int) ∧ lookP S id = some S[j].2 ∧ S[j].1 = id
  | [], k => .inl ⟨by show (-1 : Int) < 0; decide, rfl⟩
  | s :: r, k => by
    unfold idsP
    rw [List.map_cons, findAt]
    by_cases h : s.1 = id
    · rw [if_pos h]
      refine .inr ⟨0, by simp, by simp, ?_, h⟩
      unfold lookP
      rw [List.find?_cons_of_pos (by simp [h])]; rfl
    · rw [if_neg h]
      have e : lookP (s :: r) id = lookP r id := by
        unfold lookP
        rw [List.find?_cons_of_neg (by simp [h])]
      rw [e]
      rcases look_at id r (k + 1) with ⟨h1, h2⟩ | ⟨j, hj, h1, h2, h3⟩
      · exact .inl ⟨h1, h2⟩
      · refine .inr ⟨j + 1, by simp; omega, ?_, by simpa using h2, by simpa using h3⟩
        show findAt (idsP r) id (k + 1) = _
        rw [h1]
        congr 1
        omega
theorem asO_look {p : PI} {id : Int} (h0 : id ≠ 0) : asO p id = lookP p.S id := by
  unfold asO findO
  rw [if_neg h0]
  rcases look_at id p.S 0 with ⟨h1, h2⟩ | ⟨j, hj, h1, h2, h3⟩
  · rw [if_pos h1, h2]
  · rw [h1, if_neg (by omega), h2, Int.toNat_natCast, Nat.zero_add, List.getD_eq_getElem?_getD, List.getElem?_eq_getElem hj]; rfl
theorem look_app {S T : List (Int × List UInt8)} {id : Int} {d : List UInt8} (h : lookP S id = some d) : lookP (S ++ T) id = some d := by
  unfold lookP at h ⊢
  rw [List.find?_append]
  cases hq : S.find? (fun s => s.1 == id) with
  | none => rw [hq] at h; cases h
  | some s => rw [hq] at h; exact h
theorem look_new {S : List (Int × List UInt8)} {id : Int} {d : List UInt8} (h : ∀ s ∈ S, s.1 ≠ id) : lookP (S ++ [(id, d)]) id = some d := by
  unfold lookP
  rw [List.find?_append]
  have hn : S.find? (fun s => s.1 == id) = none := by
    rw [List.find?_eq_none]
    intro s hs
    simpa using h s hs
  rw [hn]
  simp
theorem look_erase {id : Int} : ∀ (S : List (Int × List UInt8)) (j : Nat), (∀ s, S[j]? = some s → s.1 ≠ id) → lookP (S.eraseIdx j) id = lookP S id
  | [], _, _ => by simp
  | s :: r, 0, h => by
    have := h s rfl
    unfold lookP
    rw [List.eraseIdx_cons_zero, List.find?_cons_of_neg (by simpa using this)]
  | s :: r, j + 1, h => by
    have ih := look_erase r j (fun t ht => h t (by simpa using ht))
    unfold lookP at ih ⊢
    rw [List.eraseIdx_cons_succ]
    by_cases hs : s.1 = id
    · rw [List.find?_cons_of_pos (by simp [hs]), List.find?_cons_of_pos (by simp [hs])]
    · rw [List.find?_cons_of_neg (by simp [hs]), List.find?_cons_of_neg (by simp [hs])]
      exact ih
/-- A copy stays what it was, but when it is dropped. -/
theorem keeps_law {p : PI} {e : E7} {id : Int} {d : List UInt8} (hm : mayI p = true) (h0 : (doP p e).2.2 = 0) (hid : id ≠ 0) (hd : asO p id = some d) (hk : ¬ (e.kind = 5 ∧ e.snap = id)) : asO (doP p e).1 id = some d := by
  have he := doP_ok hm h0
  have hp := of_decide_eq_true (show decide (mayP e) = true from he)
  have hC := doP_c hm he
  rw [asO_look hid] at hd ⊢
  unfold mayP at hp
  rcases hp.2 with h | h | h | h | ⟨h | h, h7⟩
  · rw [if_pos h.1] at hC
    by_cases h1 : (p.d.length : Int) < e.off + e.data.length
    · rw [if_pos h1] at hC; rw [hC] at h0; cases h0
    · rw [if_neg h1] at hC; rw [hC]; exact hd
  · rw [if_neg (by omega), if_pos h.1] at hC
    by_cases h1 : (p.d.length : Int) < e.off + e.len
    · rw [if_pos h1] at hC; rw [hC] at h0; cases h0
    · rw [if_neg h1] at hC; rw [hC]; exact hd
  · rw [if_neg (by omega), if_neg (by omega), if_pos h.1] at hC
    rw [hC]; exact hd
  · rw [if_neg (by omega), if_neg (by omega), if_neg (by omega), if_pos h] at hC
    by_cases h1 : 4 ≤ p.S.length ∨ 100 ≤ p.last
    · rw [if_pos h1] at hC; rw [hC] at h0; cases h0
    · rw [if_neg h1] at hC; rw [hC]; exact look_app hd
  · rw [if_neg (by omega), if_neg (by omega), if_neg (by omega), if_neg (by omega)] at hC
    by_cases h1 : findO (idsP p.S) e.snap < 0
    · rw [if_pos h1] at hC; rw [hC] at h0; cases h0
    · rw [if_neg h1, if_pos h] at hC
      rw [hC]
      show lookP (p.S.eraseIdx _) id = some d
      rcases look_at e.snap p.S 0 with ⟨h2, _⟩ | ⟨j, hj, h2, _, h3⟩
      · exact absurd h2 h1
      · have ej : (findO (idsP p.S) e.snap).toNat = j := by unfold findO; rw [h2]; omega
        rw [ej, look_erase _ _ fun s hs => ?_]
        · exact hd
        · rw [List.getElem?_eq_getElem hj] at hs
          injection hs with hs
          rw [← hs, h3]
          exact fun e5 => hk ⟨h, e5⟩
  · rw [if_neg (by omega), if_neg (by omega), if_neg (by omega), if_neg (by omega)] at hC
    by_cases h1 : findO (idsP p.S) e.snap < 0
    · rw [if_pos h1] at hC; rw [hC] at h0; cases h0
    · rw [if_neg h1, if_neg (by omega)] at hC; rw [hC]; exact hd
def exS : E7 := ⟨1, 0, 4, 0, 0, 0, []⟩
theorem exS_may : mayE exS = true := by decide +kernel
/-- A snapshot: no room, or a copy of what there is. -/
theorem snap_law {p : PI} (hm : mayI p = true) : (doP p exS).2.2 = 110 ∨ ((doP p exS).2.2 = 0 ∧ (doP p exS).2.1 ≠ 0 ∧ mayI (doP p exS).1 = true ∧ asO (doP p exS).1 (doP p exS).2.1 = some p.d) := by
  have hC := doP_c hm exS_may
  have hb := mayI_bd hm
  rw [if_neg (by decide), if_neg (by decide), if_neg (by decide), if_pos (show exS.kind = 4 from rfl)] at hC
  by_cases h1 : 4 ≤ p.S.length ∨ 100 ≤ p.last
  · rw [if_pos h1] at hC; rw [hC]; exact .inl rfl
  · rw [if_neg h1] at hC
    have e0 : (doP p exS).2.2 = 0 := by rw [hC]
    have hm2 := doP_may hm e0
    refine .inr ⟨e0, ?_⟩
    rw [hC] at hm2 ⊢
    have hne : p.last + 1 ≠ 0 := by have := hb.2.2.1; omega
    refine ⟨hne, hm2, ?_⟩
    rw [asO_look hne]
    exact look_new fun s hs => by have := (copiesO_bd _ _ _ hb.2.2.2.2 s hs).2.2; omega
theorem read_kept {p : PI} {id : Int} {d : List UInt8} (hm : mayI p = true) (hd : asO p id = some d) : readE p 0 (d.length : Int) id = 0 ∧ readD p 0 (d.length : Int) id = d ∧ readE p 0 ((d.length : Int) + 1) id = 180 ∧ d.length ≤ 512 := by
  have hn : ¬ (mayI p = false) := by rw [hm]; decide
  have ha : asE p id = 0 := by unfold asE; rw [if_neg hn, hd]; rfl
  have hD : asD p id = d := by unfold asD; rw [if_neg hn, hd]; rfl
  have h1 := read_c (p := p) (off := 0) (n := (d.length : Int)) ha (mayCut_yes (Int.le_refl _) (by omega) (by rw [hD]; omega))
  have h2 := read_b (p := p) (off := 0) (n := (d.length : Int) + 1) ha (mayCut_no (.inr (.inr (by rw [hD]; omega))))
  refine ⟨h1.1, ?_, h2.1, by rw [← hD]; exact asD_len _⟩
  rw [h1.2, hD]
  unfold cutO
  simp

set_option maxHeartbeats 8000000 in
theorem keeps_walk (W : World) (z : Int) (iz : I64 z) (AL : Option Addr) (L : List EV) (cL : Nat) (rL : RdL W (Old W) 7 evC AL L) (lL : L.length ≤ cL) (mL : cL ≤ 9223372036854775807) (nL : AL = none → cL = 0) (sL : ∀ s ∈ L, EvR W (Old W) s ∧ EnI s.e) (AM : Option Addr) (M : List EV) (cM : Nat) (rM0 : RdL W (Old W) 7 evC AM M) (lM : M.length ≤ cM) (mM : cM ≤ 9223372036854775807) (nM : AM = none → cM = 0) (sM : ∀ s ∈ M, EvR W (Old W) s ∧ EnI s.e) :
    Calls Try.prog 4 #[.int .i64 z, .slice AL L.length cL, .slice AM M.length cM] W fun e w' => e = .returned (.bool true) ∧ Below W.heap.size W w' := by
  clear iz nL nM
  have haw := awake18 W
  have hbe := fun V (b : Below W.heap.size W V) => behind_any z AL L cL V ((RdL.below rL b).imp evC_pos fun _ hb _ => hb) lL mL fun s hs => ⟨Rd.imp (RdB.below (sL s hs).1.1 b) (fun _ hb _ => hb) (by decide), (sL s hs).1.2⟩
  go_enter Try.func4, Try.ntmps4
  go_wp2_with fail
  refine haw.mono ?_
  clear haw
  rintro e1 w1 ⟨rfl, bb⟩
  have hbe := hbe w1 bb
  clear rL lL sL
  go_wp2_with fail
  refine hbe.mono ?_
  clear hbe
  rintro e2 w2 ⟨im, rfl, hmay, rM, b_⟩
  replace bb := bb.thenB' b_
  clear b_
  have HM := Lib.hid hmay
  clear hmay
  replace rM := rM.imp (D' := (· < w2.heap.size)) fun b hb _ => hb
  have hdo := fun V D (q : ImR V D im) => Do_any D (fun _ => True) im exS none 0 V q RdB.nil (by decide) (by decide)
  have hlaw := snap_law HM.out
  unfold enV enA exS at hdo
  dsimp only [List.length_nil] at hdo
  rw [show (⟨1, 0, 4, 0, 0, 0, []⟩ : E7) = exS from rfl] at hdo
  generalize doP im.p exS = dp at *
  obtain ⟨pp, idv, ee⟩ := dp
  dsimp only at hdo hlaw
  go_wp2_with first
    | (with_reducible show wpList _ _ _ _ _ _
       refine wpList_rowB rfl 25 (.tmp 8) (.tmp 27) rfl w2.heap.size 25 _ (imA im) rfl rfl (Blk.new w2 25 #[.slice none 0 0, .slice none 0 0, .int .i64 0]) infoIm rfl (imA_ok _) ?_
       intro w3 hM mm
       have nn : Below w2.heap.size w2 w3 := im_new mm
       replace rM := rM.below nn
       replace bb := bb.thenB' nn
       clear nn mm)
    | (with_reducible show wpList _ _ _ _ _ _
       refine wpList_load_row rfl 25 (.tmp 8) rfl w2.heap.size rfl 25 _ (0, 0) _ hM Try.underlying25 rfl infoIm ?_)
  refine (hdo _ _ rM).mono ?_
  clear hdo
  rintro e4 w4 ⟨i0, rfl, hp0, oN, b_⟩
  have hgMN := Nat.lt_of_lt_of_le hM.lt b_.size
  replace rM := rM.below b_
  replace hM := hM.below b_
  replace bb := bb.thenB' b_
  clear b_
  have hgNW := bb.size
  have rI0 := (oN.rd).imp (D' := (· < w4.heap.size)) fun b hb _ => hb
  clear oN
  have hck := fun V (q : ImR V (· < w2.heap.size) im) => Check18_any _ im V q
  rw [HM.out, show eno true 1 = 0 from rfl] at hck
  go_wp2_with first
    | (with_reducible show wpList _ _ _ _ _ _
       refine wpList_rowB rfl 25 (.tmp 9) (.tmp 32) rfl w4.heap.size 25 _ (imA i0) rfl rfl (Blk.new w4 25 #[.slice none 0 0, .slice none 0 0, .int .i64 0]) infoIm rfl (imA_ok _) ?_
       intro w5 hN mm
       have nn : Below w4.heap.size w4 w5 := im_new mm
       replace rM := rM.below nn
       replace hM := hM.below nn
       replace rI0 := rI0.below nn
       replace bb := bb.thenB' nn
       clear nn mm)
    | (with_reducible show wpList _ _ _ _ _ _
       refine wpList_load_row rfl 25 (.tmp 8) rfl w2.heap.size rfl 25 _ (0, 0) _ hM Try.underlying25 rfl infoIm ?_)
  refine (hck _ rM).mono ?_
  clear hck
  rintro e6 w6 ⟨rfl, b_⟩
  replace rM := rM.below b_
  replace hM := hM.below b_
  replace rI0 := rI0.below b_
  replace hN := hN.below b_
  replace bb := bb.thenB' b_
  clear b_
  rcases hlaw with rfl | ⟨rfl, hid, hmN, hasN⟩
  focus
    go_wp2_with fail
    go_ret
    exact ⟨rfl, bb⟩
  rw [← hp0] at hmN hasN
  clear hp0
  have HID := Lib.hid hid
  clear hid
  generalize hdm : im.p.d = dm at *
  have hdl : im.d.length = dm.length := by rw [← hdm]; rfl
  have hdm' : im.d = dm := hdm
  clear hdm
  obtain ⟨q1, q2, q3, q4⟩ := read_kept hmN hasN
  have HK0 : Hid (mayI i0.p = true ∧ asO i0.p idv = some dm) := ⟨hmN, hasN⟩
  clear hmN hasN q3
  have hrd := fun V D (q : ImR V D i0) => Read_any D i0 0 (dm.length : Int) idv V q (by omega)
  rw [q1, q2] at hrd
  clear q1 q2
  have c0 := hM.cell 0
  unfold imA at c0
  simp at c0
  rw [hdl] at c0
  
  have hgN6 := hN.lt
  go_wp2_with first
    | (with_reducible show wpList _ _ _ _ _ _
       refine wpList_load_row rfl 25 (.tmp 9) rfl w4.heap.size rfl 25 _ (0, 0) _ hN Try.underlying25 rfl infoIm ?_)
  refine (hrd _ _ rI0).mono ?_
  clear hrd c0
  rintro e7 w7 ⟨v7, rfl, o7, b_⟩
  replace rM := rM.below b_
  replace hM := hM.below b_
  replace rI0 := rI0.below b_
  replace hN := hN.below b_
  replace bb := bb.thenB' b_
  clear b_
  obtain ⟨A7, c7, rfl, -, -⟩ := OwnB.form o7
  have rw7 := o7.rdG
  clear o7
  go_wp2_with fail
  go_loopw [14] (fun s wr => ∃ (k : Nat) (i : ImV), k ≤ 40 ∧ k ≤ M.length ∧ s = .int .i64 (k : Int) ∧ Blk wr w4.heap.size 25 (imA i) ∧ Hid (mayI i.p = true ∧ asO i.p idv = some dm) ∧ ImR wr (fun b => b ≠ w4.heap.size) i ∧ Mod (· = w4.heap.size) w7 wr) (fun s _ => 40 - (intOf s).toNat)
  case atStart => exact ⟨0, i0, by decide, Nat.zero_le _, rfl, hN, HK0, rI0.imp (fun b _ hb => by omega), Mod.refl _ _⟩
  case round =>
    clear hN HK0 rI0
    obtain ⟨k, i, hk, hkl, rfl, hM_, HK, rI, mr⟩ := hrel
    have bbr := bb.thenM mr bb.size (fun i hi e => by omega)
    have hMm := hM.mod mr (by omega)
    have rMm := rM.mod mr fun b hb e => by omega
    have rwr := Rd.mod rw7 mr (fun b hb e => by omega)
    have hgM : w4.heap.size < wr.heap.size := hM_.lt
    have hgB : W.heap.size < wr.heap.size := by omega
    clear hM rM bb
    have hend : ∀ (P : Prop), P → P := fun _ h => h
    by_cases hlast : k < 40 ∧ k < M.length
    rotate_left
    focus
      have c0 := hMm.cell 0
      unfold imA at c0
      simp at c0
      rw [hdl] at c0
      have s7 := str_rd (n := dm.length) (c := c7) rwr rfl
      have rMd := rMm.rd
      rw [hdm'] at rMd
      have s8 := str_rd (n := dm.length) (c := im.dc) rMd rfl
      by_cases hlt : (k : Int) < (M.length : Int)
      · have hk40 : ¬ (k : Int) < 40 := by omega
        go_wp2_with fail
        go_ret
        exact ⟨rfl, bbr⟩
      · go_wp2_with fail
        go_ret
        exact ⟨rfl, bbr⟩
    obtain ⟨hk40, hlt⟩ := hlast
    have hk40I : (k : Int) < 40 := by omega
    have hltI : (k : Int) < (M.length : Int) := by omega
    have hMI : (M.length : Int) ≤ 9223372036854775807 := by omega
    have hLr := RdL.below rM0 bbr
    obtain ⟨ad, rfl⟩ := hLr.some_ad hlt
    obtain ⟨j0, j1, j2, j3, j4, j5, j6⟩ := hLr.ev hlt
    obtain ⟨rdd, ls, ms⟩ := (sM M[k] (List.getElem_mem hlt)).1.below bbr
    obtain ⟨s, hs⟩ : ∃ s, s = M[k] := ⟨_, rfl⟩
    simp only [← hs] at j0 j1 j2 j3 j4 j5 j6 rdd ls ms
    have HS := Lib.hid hs
    clear hs j0 j1 j3 j4
    by_cases hdrop : s.e.kind = 5 ∧ s.e.snap = idv
    focus
      obtain ⟨hd1, hd2⟩ := hdrop
      have hd1b : (s.e.kind == 5) = true := by simp [hd1]
      have hd2b : (s.e.snap == idv) = true := by simp [hd2]
      clear hd1 hd2
      go_wp2_with fail
      go_roundw
      case rel => exact ⟨k + 1, i, by omega, by omega, by go_num, hM_, HK, rI, mr⟩
      case measure => simp [intOf] <;> omega
    by_cases h2 : (200 : Int) < (s.e.data.length : Int)
    focus
      clear HS
      by_cases hd1 : s.e.kind = 5
      · have hd1b : (s.e.kind == 5) = true := by simp [hd1]
        have hd2b : (s.e.snap == idv) = false := by simp; exact fun e => hdrop ⟨hd1, e⟩
        clear hd1
        go_wp2_with fail
        go_roundw
        case rel => exact ⟨k + 1, i, by omega, by omega, by go_num, hM_, HK, rI, mr⟩
        case measure => simp [intOf] <;> omega
      · have hd1b : (s.e.kind == 5) = false := by simp [hd1]
        clear hd1
        go_wp2_with fail
        go_roundw
        case rel => exact ⟨k + 1, i, by omega, by omega, by go_num, hM_, HK, rI, mr⟩
        case measure => simp [intOf] <;> omega
    have HDR := Lib.hid hdrop
    clear hdrop
    go_upto_region 14 with fail
    go_cut [84] from 61 to 84 (fun s84 wx => s84 = .bool false ∧ wr = wx)
    case first =>
      by_cases hd1 : s.e.kind = 5
      · have hd1b : (s.e.kind == 5) = true := by simp [hd1]
        have hd2b : (s.e.snap == idv) = false := by simp; exact fun e => HDR.out ⟨hd1, e⟩
        clear hd1
        go_wp2_with fail
        go_meet
        case rel => exact ⟨rfl, rfl⟩
      · have hd1b : (s.e.kind == 5) = false := by simp [hd1]
        clear hd1
        go_wp2_with fail
        go_meet
        case rel => exact ⟨rfl, rfl⟩
    case rest =>
      obtain ⟨rfl, rfl⟩ := hcut
      clear j2 j5 j6 h2
      go_upto_region 15 with fail
      go_cut [15, 16, 17] from 85 to 94 (fun s15 s16 s17 wx => ∃ (gX : Nat) (j : ImV), s15 = .pointer (some ⟨gX, 0, none⟩) ∧ s16 = .int .i64 (doP i.p s.e).2.1 ∧ s17 = .int .i64 (doP i.p s.e).2.2 ∧ Blk wx gX 25 (imA j) ∧ j.p = (doP i.p s.e).1 ∧ ImR wx (fun b => wr.heap.size ≤ b) j ∧ wr.heap.size ≤ gX ∧ Below wr.heap.size wr wx)
      case first =>
        have hM := hM_
        go_wp2_with fail
        refine r_start (R := RW wr.heap.size) (by rfl) (n := 14) (L := #[false, false, false, false, false, false, false, false, false, false, false, false, false, false]) rfl rfl ?_
        have bq : Below wr.heap.size wr wr.drew := (Below.refl _ _).drew
        have hold : ∀ b, Old W b → ¬ wr.heap.size ≤ b := fun b hb => by have : b < W.heap.size := hb; omega
        have rI : ImR wr.drew (fun b => b ≠ w4.heap.size ∧ b < wr.heap.size) i := (rI.imp fun b hb h => ⟨h, hb⟩).below bq
        have rdd := rdd.below bq
        have hLd := hLr.below bq
        have hsz : wr.heap.size ≤ wr.drew.heap.size := bq.size
        have hM0 := hM.below bq
        generalize wr.drew = wd at *
        have hdo := fun V q q2 => Do_any (fun b => b ≠ w4.heap.size ∧ b < wr.heap.size) (Old W) i s.e s.A s.c V q q2 ls ms
        unfold enV enA at hdo
        (try dsimp only at hdo)
        refine r_flt (RW_refl _) 0 86 #[true, false, false, false, false, false, false, false, false, false, false, false, false, false] (by simp only [List.getElem?_toArray, List.getElem?_cons_zero]; rfl) (by rfl) (by kernel_rfl) (by kernel_rfl) (by kernel_rfl) (fun _ _ _ _ h => h) rfl (by rfl) ?_
        apply Exists.intro
        apply And.intro
        · intro W hW
          exact exec_load_row rfl rfl (hM0.mod (below_mod hW) (by omega)) Try.underlying25 infoIm
        (try simp only [Act.put, List.setIfInBounds_toArray]); (try simp only [List.set_cons_succ]); (try simp only [List.set_cons_zero])
        refine r_flt (RW_refl _) 1 87 #[true, true, false, false, false, false, false, false, false, false, false, false, false, false] (by simp only [List.getElem?_toArray, List.getElem?_cons_succ, List.getElem?_cons_zero]; rfl) (by rfl) (by kernel_rfl) (by kernel_rfl) (by kernel_rfl) (fun _ _ _ _ h => h) rfl (by rfl) ?_
        apply Exists.intro
        apply And.intro
        · intro W hW
          first | (go_simp; with_reducible rfl) | go_simp
        (try simp only [Act.put, List.setIfInBounds_toArray]); (try simp only [List.set_cons_succ]); (try simp only [List.set_cons_zero])
        refine r_flt (RW_refl _) 2 88 #[true, true, true, false, false, false, false, false, false, false, false, false, false, false] (by simp only [List.getElem?_toArray, List.getElem?_cons_succ, List.getElem?_cons_zero]; rfl) (by rfl) (by kernel_rfl) (by kernel_rfl) (by kernel_rfl) (fun _ _ _ _ h => h) rfl (by rfl) ?_
        apply Exists.intro
        apply And.intro
        · intro W hW
          first | (go_simp; with_reducible rfl) | go_simp
        (try simp only [Act.put, List.setIfInBounds_toArray]); (try simp only [List.set_cons_succ]); (try simp only [List.set_cons_zero])
        refine r_flt (RW_refl _) 3 89 #[true, true, true, true, false, false, false, false, false, false, false, false, false, false] (by simp only [List.getElem?_toArray, List.getElem?_cons_succ, List.getElem?_cons_zero]; rfl) (by rfl) (by kernel_rfl) (by kernel_rfl) (by kernel_rfl) (fun _ _ _ _ h => h) rfl (by rfl) ?_
        apply Exists.intro
        apply And.intro
        · intro W hW
          first | (go_simp; with_reducible rfl) | go_simp
        (try simp only [Act.put, List.setIfInBounds_toArray]); (try simp only [List.set_cons_succ]); (try simp only [List.set_cons_zero])
        refine r_flt (RW_refl _) 4 90 #[true, true, true, true, true, false, false, false, false, false, false, false, false, false] (by simp only [List.getElem?_toArray, List.getElem?_cons_succ, List.getElem?_cons_zero]; rfl) (by rfl) (by kernel_rfl) (by kernel_rfl) (by kernel_rfl) (fun _ _ _ _ h => h) rfl (by rfl) ?_
        apply Exists.intro
        apply And.intro
        · intro W hW
          obtain ⟨j0, j1, j2, j3, j4, j5, j6⟩ := (hLd.mod (below_mod hW) fun b hb hx => hold b hb hx).ev hlt
          simp only [← HS.out] at j0 j1 j2 j3 j4 j5 j6
          go_simp; rfl
        (try simp only [Act.put, List.setIfInBounds_toArray]); (try simp only [List.set_cons_succ]); (try simp only [List.set_cons_zero])
        refine r_two (RW_trans _) 5 10 (by kernel_rfl) ?_ ?_
        ·
          refine alt_call 91 #[true, true, true, true, true, true, false, false, false, false, false, false, false, false] (by simp only [List.getElem?_toArray, List.getElem?_cons_succ, List.getElem?_cons_zero]; rfl) (by rfl) rfl (by rfl) (by go_simp; first | exact ⟨rfl, rfl⟩ | rfl) ?_
          with_reducible refine (hdo _ rI rdd).mono ?_
          clear hdo
          rintro e' w9 ⟨j, rfl, hj, oJ, b9⟩
          refine ⟨_, rfl, ⟨b9.os, b9.tape, b9.output, b9.size, fun k hk => b9.block k (by omega)⟩, ?_⟩
          have bq := bq.thenB' b9
          have hs9 : wr.heap.size ≤ w9.heap.size := Nat.le_trans hsz b9.size
          have rJ := (oJ.rd).imp (D' := fun b => wr.heap.size ≤ b ∧ b < w9.heap.size) fun b hb h => ⟨Nat.le_trans hsz h, hb⟩
          clear b9 oJ rdd hLd hM0
          (try simp only [Act.put, List.setIfInBounds_toArray]); (try simp only [List.set_cons_succ]); (try simp only [List.set_cons_zero])
          refine r_flt (RW_refl _) 6 85 #[true, true, true, true, true, true, true, false, false, false, false, false, false, false] (by simp only [List.getElem?_toArray, List.getElem?_cons_succ, List.getElem?_cons_zero]; rfl) (by rfl) (by kernel_rfl) (by kernel_rfl) (by kernel_rfl) (fun _ _ _ _ h => h) rfl (by rfl) ?_
          apply Exists.intro
          apply And.intro
          · intro W hW
            first | (go_simp; with_reducible rfl) | go_simp
          (try simp only [Act.put, List.setIfInBounds_toArray]); (try simp only [List.set_cons_succ]); (try simp only [List.set_cons_zero])
          refine r_flt (RW_refl _) 7 92 #[true, true, true, true, true, true, true, true, false, false, false, false, false, false] (by simp only [List.getElem?_toArray, List.getElem?_cons_succ, List.getElem?_cons_zero]; rfl) (by rfl) (by kernel_rfl) (by kernel_rfl) (by kernel_rfl) (fun _ _ _ _ h => h) rfl (by rfl) ?_
          apply Exists.intro
          apply And.intro
          · intro W hW
            first | (go_simp; with_reducible rfl) | go_simp
          (try simp only [Act.put, List.setIfInBounds_toArray]); (try simp only [List.set_cons_succ]); (try simp only [List.set_cons_zero])
          refine r_flt (RW_refl _) 8 93 #[true, true, true, true, true, true, true, true, true, false, false, false, false, false] (by simp only [List.getElem?_toArray, List.getElem?_cons_succ, List.getElem?_cons_zero]; rfl) (by rfl) (by kernel_rfl) (by kernel_rfl) (by kernel_rfl) (fun _ _ _ _ h => h) rfl (by rfl) ?_
          apply Exists.intro
          apply And.intro
          · intro W hW
            first | (go_simp; with_reducible rfl) | go_simp
          (try simp only [Act.put, List.setIfInBounds_toArray]); (try simp only [List.set_cons_succ]); (try simp only [List.set_cons_zero])
          refine r_flt (RW_refl _) 9 94 #[true, true, true, true, true, true, true, true, true, true, false, false, false, false] (by simp only [List.getElem?_toArray, List.getElem?_cons_succ, List.getElem?_cons_zero]; rfl) (by rfl) (by kernel_rfl) (by kernel_rfl) (by kernel_rfl) (fun _ _ _ _ h => h) rfl (by rfl) ?_
          apply Exists.intro
          apply And.intro
          · intro W hW
            first | (go_simp; with_reducible rfl) | go_simp
          (try simp only [Act.put, List.setIfInBounds_toArray]); (try simp only [List.set_cons_succ]); (try simp only [List.set_cons_zero])
          refine r_one (RW_trans _) 10 (by kernel_rfl) ?_
          refine alt_val 15 #[true, true, true, true, true, true, true, true, true, true, true, false, false, false] (by simp only [List.getElem?_toArray, List.getElem?_cons_succ, List.getElem?_cons_zero]; rfl) (by rfl) rfl (by rfl) (by go_simp; first | exact ⟨rfl, rfl⟩ | rfl) ?_ ?_
          · exact RW_new _ _ _ hs9
          have bn := below_new w9 (.cells #[.slice none 0 0, .slice none 0 0, .int .i64 0] 25)
          have hN := Blk.new w9 25 #[.slice none 0 0, .slice none 0 0, .int .i64 0]
          have bq := bq.thenB' bn
          have rJ : ImR _ (fun b => wr.heap.size ≤ b ∧ b ≠ w9.heap.size) j := (rJ.imp fun b hb h => ⟨h.1, by omega⟩).below bn
          have hNl := hN.lt
          generalize w9.alloc (.cells #[.slice none 0 0, .slice none 0 0, .int .i64 0] 25) = WN at *
          clear bn
          generalize w9.heap.size = gN at *
          have hgN := hs9
          (try simp only [Act.put, List.setIfInBounds_toArray]); (try simp only [List.set_cons_succ]); (try simp only [List.set_cons_zero])
          refine r_one (RW_trans _) 11 (by kernel_rfl) ?_
          refine alt_none #[true, true, true, true, true, true, true, true, true, true, true, true, false, false] (by simp only [List.getElem?_toArray, List.getElem?_cons_succ, List.getElem?_cons_zero]; rfl) (by rfl) rfl (by rfl) (exec_store_row (cells := imA j) rfl rfl rfl hN infoIm rfl (imA_ok _)) ?_ ?_
          · exact (Below.refl _ _).thenM (mod_setRow _) (by omega) (fun i hi e => by omega)
          (try simp only [Act.put, List.setIfInBounds_toArray]); (try simp only [List.set_cons_succ]); (try simp only [List.set_cons_zero])
          refine r_flt (RW_refl _) 12 16 #[true, true, true, true, true, true, true, true, true, true, true, true, true, false] (by simp only [List.getElem?_toArray, List.getElem?_cons_succ, List.getElem?_cons_zero]; rfl) (by rfl) (by kernel_rfl) (by kernel_rfl) (by kernel_rfl) (fun _ _ _ _ h => h) rfl (by rfl) ?_
          apply Exists.intro
          apply And.intro
          · intro W hW
            first | (go_simp; with_reducible rfl) | go_simp
          (try simp only [Act.put, List.setIfInBounds_toArray]); (try simp only [List.set_cons_succ]); (try simp only [List.set_cons_zero])
          refine r_flt (RW_refl _) 13 17 #[true, true, true, true, true, true, true, true, true, true, true, true, true, true] (by simp only [List.getElem?_toArray, List.getElem?_cons_succ, List.getElem?_cons_zero]; rfl) (by rfl) (by kernel_rfl) (by kernel_rfl) (by kernel_rfl) (fun _ _ _ _ h => h) rfl (by rfl) ?_
          apply Exists.intro
          apply And.intro
          · intro W hW
            first | (go_simp; with_reducible rfl) | go_simp
          (try simp only [Act.put, List.setIfInBounds_toArray]); (try simp only [List.set_cons_succ]); (try simp only [List.set_cons_zero])
          refine r_done (by kernel_rfl) ?_
          have m11 : Mod (· = gN) WN (WN.setRow gN (imA j)) := mod_setRow _
          replace hN : Blk (WN.setRow gN (imA j)) gN 25 (imA j) := setRow_heap _ _ _ (imA j) _ _ hN
          replace rJ := (rJ.mod m11 fun b hb e => hb.2 e)
          replace bq := bq.thenM m11 (by omega) (fun i hi e => by omega)
          clear m11
          generalize WN.setRow gN (imA j) = wx at *
          go_wp2_with fail
          go_meet
          case rel => exact ⟨gN, j, rfl, rfl, rfl, hN, hj, rJ.imp (fun b _ hb => hb.1), hgN, bq⟩
        ·
          refine alt_val 15 #[true, true, true, true, true, false, false, false, false, false, true, false, false, false] (by simp only [List.getElem?_toArray, List.getElem?_cons_succ, List.getElem?_cons_zero]; rfl) (by rfl) rfl (by rfl) (by go_simp; first | exact ⟨rfl, rfl⟩ | rfl) ?_ ?_
          · exact RW_new _ _ _ hsz
          have bn := below_new wd (.cells #[.slice none 0 0, .slice none 0 0, .int .i64 0] 25)
          have hN := Blk.new wd 25 #[.slice none 0 0, .slice none 0 0, .int .i64 0]
          have rI := rI.below bn
          have rdd := rdd.below bn
          have bq := bq.thenB' bn
          have hNl := hN.lt
          generalize wd.alloc (.cells #[.slice none 0 0, .slice none 0 0, .int .i64 0] 25) = wm at *
          clear bn
          generalize wd.heap.size = gN at *
          have hgN := hsz
          (try simp only [Act.put, List.setIfInBounds_toArray]); (try simp only [List.set_cons_succ]); (try simp only [List.set_cons_zero])
          refine r_one (RW_trans _) 5 (by kernel_rfl) ?_
          refine alt_call 91 #[true, true, true, true, true, true, false, false, false, false, true, false, false, false] (by simp only [List.getElem?_toArray, List.getElem?_cons_succ, List.getElem?_cons_zero]; rfl) (by rfl) rfl (by rfl) (by go_simp; first | exact ⟨rfl, rfl⟩ | rfl) ?_
          with_reducible refine (hdo _ rI rdd).mono ?_
          clear hdo
          rintro e' WN ⟨j, rfl, hj, oJ, b9⟩
          refine ⟨_, rfl, ⟨b9.os, b9.tape, b9.output, b9.size, fun k hk => b9.block k (by omega)⟩, ?_⟩
          have bq := bq.thenB' b9
          have hN := hN.below b9
          have rJ := (oJ.rd).imp (D' := fun b => wr.heap.size ≤ b ∧ b ≠ gN) fun b hb h => ⟨by omega, by omega⟩
          have hNl := Nat.lt_of_lt_of_le hNl b9.size
          clear b9 oJ rdd hLd hM0
          (try simp only [Act.put, List.setIfInBounds_toArray]); (try simp only [List.set_cons_succ]); (try simp only [List.set_cons_zero])
          refine r_flt (RW_refl _) 6 85 #[true, true, true, true, true, true, true, false, false, false, true, false, false, false] (by simp only [List.getElem?_toArray, List.getElem?_cons_succ, List.getElem?_cons_zero]; rfl) (by rfl) (by kernel_rfl) (by kernel_rfl) (by kernel_rfl) (fun _ _ _ _ h => h) rfl (by rfl) ?_
          apply Exists.intro
          apply And.intro
          · intro W hW
            first | (go_simp; with_reducible rfl) | go_simp
          (try simp only [Act.put, List.setIfInBounds_toArray]); (try simp only [List.set_cons_succ]); (try simp only [List.set_cons_zero])
          refine r_flt (RW_refl _) 7 92 #[true, true, true, true, true, true, true, true, false, false, true, false, false, false] (by simp only [List.getElem?_toArray, List.getElem?_cons_succ, List.getElem?_cons_zero]; rfl) (by rfl) (by kernel_rfl) (by kernel_rfl) (by kernel_rfl) (fun _ _ _ _ h => h) rfl (by rfl) ?_
          apply Exists.intro
          apply And.intro
          · intro W hW
            first | (go_simp; with_reducible rfl) | go_simp
          (try simp only [Act.put, List.setIfInBounds_toArray]); (try simp only [List.set_cons_succ]); (try simp only [List.set_cons_zero])
          refine r_flt (RW_refl _) 8 93 #[true, true, true, true, true, true, true, true, true, false, true, false, false, false] (by simp only [List.getElem?_toArray, List.getElem?_cons_succ, List.getElem?_cons_zero]; rfl) (by rfl) (by kernel_rfl) (by kernel_rfl) (by kernel_rfl) (fun _ _ _ _ h => h) rfl (by rfl) ?_
          apply Exists.intro
          apply And.intro
          · intro W hW
            first | (go_simp; with_reducible rfl) | go_simp
          (try simp only [Act.put, List.setIfInBounds_toArray]); (try simp only [List.set_cons_succ]); (try simp only [List.set_cons_zero])
          refine r_flt (RW_refl _) 9 94 #[true, true, true, true, true, true, true, true, true, true, true, false, false, false] (by simp only [List.getElem?_toArray, List.getElem?_cons_succ, List.getElem?_cons_zero]; rfl) (by rfl) (by kernel_rfl) (by kernel_rfl) (by kernel_rfl) (fun _ _ _ _ h => h) rfl (by rfl) ?_
          apply Exists.intro
          apply And.intro
          · intro W hW
            first | (go_simp; with_reducible rfl) | go_simp
          (try simp only [Act.put, List.setIfInBounds_toArray]); (try simp only [List.set_cons_succ]); (try simp only [List.set_cons_zero])
          refine r_one (RW_trans _) 11 (by kernel_rfl) ?_
          refine alt_none #[true, true, true, true, true, true, true, true, true, true, true, true, false, false] (by simp only [List.getElem?_toArray, List.getElem?_cons_succ, List.getElem?_cons_zero]; rfl) (by rfl) rfl (by rfl) (exec_store_row (cells := imA j) rfl rfl rfl hN infoIm rfl (imA_ok _)) ?_ ?_
          · exact (Below.refl _ _).thenM (mod_setRow _) (by omega) (fun i hi e => by omega)
          (try simp only [Act.put, List.setIfInBounds_toArray]); (try simp only [List.set_cons_succ]); (try simp only [List.set_cons_zero])
          refine r_flt (RW_refl _) 12 16 #[true, true, true, true, true, true, true, true, true, true, true, true, true, false] (by simp only [List.getElem?_toArray, List.getElem?_cons_succ, List.getElem?_cons_zero]; rfl) (by rfl) (by kernel_rfl) (by kernel_rfl) (by kernel_rfl) (fun _ _ _ _ h => h) rfl (by rfl) ?_
          apply Exists.intro
          apply And.intro
          · intro W hW
            first | (go_simp; with_reducible rfl) | go_simp
          (try simp only [Act.put, List.setIfInBounds_toArray]); (try simp only [List.set_cons_succ]); (try simp only [List.set_cons_zero])
          refine r_flt (RW_refl _) 13 17 #[true, true, true, true, true, true, true, true, true, true, true, true, true, true] (by simp only [List.getElem?_toArray, List.getElem?_cons_succ, List.getElem?_cons_zero]; rfl) (by rfl) (by kernel_rfl) (by kernel_rfl) (by kernel_rfl) (fun _ _ _ _ h => h) rfl (by rfl) ?_
          apply Exists.intro
          apply And.intro
          · intro W hW
            first | (go_simp; with_reducible rfl) | go_simp
          (try simp only [Act.put, List.setIfInBounds_toArray]); (try simp only [List.set_cons_succ]); (try simp only [List.set_cons_zero])
          refine r_done (by kernel_rfl) ?_
          have m11 : Mod (· = gN) WN (WN.setRow gN (imA j)) := mod_setRow _
          replace hN : Blk (WN.setRow gN (imA j)) gN 25 (imA j) := setRow_heap _ _ _ (imA j) _ _ hN
          replace rJ := (rJ.mod m11 fun b hb e => hb.2 e)
          replace bq := bq.thenM m11 (by omega) (fun i hi e => by omega)
          clear m11
          generalize WN.setRow gN (imA j) = wx at *
          go_wp2_with fail
          go_meet
          case rel => exact ⟨gN, j, rfl, rfl, rfl, hN, hj, rJ.imp (fun b _ hb => hb.1), hgN, bq⟩
      case rest =>
        obtain ⟨gX, j, rfl, rfl, rfl, hX, hj, rJ, hgX, bq⟩ := hcut
        have hNn := hM_.below bq
        have rIn := rI.below bq
        have m1 := mr.thenB bq
        clear hM_ rI mr rdd hLr
        go_upto_if 96 with fail
        go_cut [] from 96 to 97 (fun wx => ∃ i' : ImV, Blk wx w4.heap.size 25 (imA i') ∧ Hid (mayI i'.p = true ∧ asO i'.p idv = some dm) ∧ ImR wx (fun b => b ≠ w4.heap.size) i' ∧ Mod (· = w4.heap.size) w7 wx)
        case first =>
          by_cases hz : (doP i.p s.e).2.2 = 0
          · have HJ : Hid (mayI j.p = true ∧ asO j.p idv = some dm) := by unfold Hid; rw [hj]; exact ⟨doP_may HK.out.1 hz, keeps_law HK.out.1 hz HID.out HK.out.2 HDR.out⟩
            have hz' : ((doP i.p s.e).2.2 == 0) = true := by simp [hz]
            clear hj hz
            generalize (doP i.p s.e).2.2 = ee at *
            go_wp2_with first
              | (with_reducible show wpList _ _ _ _ _ _
                 refine wpList_load_row rfl 25 (.tmp 15) rfl gX rfl 25 _ (0, 0) _ hX Try.underlying25 rfl infoIm ?_)
              | (with_reducible show wpList _ _ _ _ _ _
                 refine wpList_rowB rfl 25 (.tmp 9) (.tmp 97) rfl w4.heap.size 25 _ (imA j) rfl rfl hNn infoIm rfl (imA_ok _) ?_
                 intro wy hN2 m2)
            (try simp only [Act.put, List.setIfInBounds_toArray]); (try simp only [List.set_cons_succ]); (try simp only [List.set_cons_zero])
            go_meet
            case rel => exact ⟨j, hN2, HJ, (rJ.mod m2 fun b hb e => by omega).imp (fun b _ hb => by omega), m1.trans m2⟩
          · have hz' : ((doP i.p s.e).2.2 == 0) = false := by simp [hz]
            clear hj hz
            generalize (doP i.p s.e).2.2 = ee at *
            go_wp2_with fail
            go_meet
            case rel => exact ⟨i, hNn, HK, rIn, m1⟩
        case rest =>
          obtain ⟨i', hN', HK', rI', m'⟩ := hcut
          clear hX hj rJ hgX bq hNn rIn m1 HK
          obtain ⟨q1, q2, q3, q5⟩ := read_kept HK'.out.1 HK'.out.2
          have hr1 := fun V D (q : ImR V D i') => Read_any D i' 0 (dm.length : Int) idv V q (by omega)
          have hr2 := fun V D (q : ImR V D i') => Read_any D i' 0 ((dm.length : Int) + 1) idv V q (by omega)
          rw [q1, q2] at hr1
          rw [q3] at hr2
          generalize readD i'.p 0 ((dm.length : Int) + 1) idv = x2 at *
          have hck := fun V D (q : ImR V D i') => Check18_any D i' V q
          rw [HK'.out.1, show eno true 1 = 0 from rfl] at hck
          have q5I : (dm.length : Int) ≤ 512 := by omega
          clear q1 q2 q3
          go_wp2_with first
            | (with_reducible show wpList _ _ _ _ _ _
               refine wpList_load_row rfl 25 (.tmp 9) rfl w4.heap.size rfl 25 _ (0, 0) _ hN' Try.underlying25 rfl infoIm ?_)
          refine (hr1 _ _ rI').mono ?_
          clear hr1
          rintro e8 w8 ⟨v8, rfl, o8, b8⟩
          obtain ⟨A8, c8, rfl, -, -⟩ := OwnB.form o8
          have r8 := o8.rdG
          have hN8 := hN'.below b8
          have rI8 := rI'.below b8
          have m8 := m'.thenB b8
          clear o8 hN' rI' m' b8
          go_wp2_with first
            | (with_reducible show wpList _ _ _ _ _ _
               refine wpList_load_row rfl 25 (.tmp 9) rfl w4.heap.size rfl 25 _ (0, 0) _ hN8 Try.underlying25 rfl infoIm ?_)
          refine (hr2 _ _ rI8).mono ?_
          clear hr2
          rintro e9 w9 ⟨v9, rfl, -, b9⟩
          have hN9 := hN8.below b9
          have rI9 := rI8.below b9
          have m9 := m8.thenB b9
          have s8 := str_rd (n := dm.length) (c := c8) (r8.below b9) rfl
          have s7 := str_rd (n := dm.length) (c := c7) (Rd.mod rw7 m9 (fun b hb e => by omega)) rfl
          clear hN8 rI8 m8 b9 r8
          go_wp2_with first
            | (with_reducible show wpList _ _ _ _ _ _
               refine wpList_load_rowG rfl rfl 25 (.tmp 9) rfl w4.heap.size rfl 25 _ hN9 _ Try.underlying25 infoIm ?_)
          refine (hck _ _ rI9).mono ?_
          clear hck s7 s8
          rintro e10 w10 ⟨rfl, b10⟩
          go_wp2_with fail
          go_roundw
          case rel => exact ⟨k + 1, i', by omega, by omega, by go_num, hN9.below b10, HK', rI9.below b10, m9.thenB b10⟩
          case measure => simp [intOf] <;> omega
end Go.Proofs.Ytcdodchjgadcoaa
