/- The law AbstractOwn: the walk. -/
import Derived.Test.YtcdodchjgadcoaaAbW
namespace Go.Proofs.Ytcdodchjgadcoaa
open Go.RowKit
set_option linter.unusedVariables false
set_option maxRecDepth 100000

theorem wrap8 (n : Nat) (h : n < 256) : IntKind.u8.wrap (n : Int) = (n : Int) := by
  simp [IntKind.wrap, IntKind.bits, IntKind.signed]
  omega
theorem ofInt8 (x : UInt8) : BitVec.ofInt 8 (x.toNat : Int) = x.toBitVec := by
  rw [BitVec.ofInt_natCast]
  apply BitVec.eq_of_toNat_eq
  rw [BitVec.toNat_ofNat]
  exact Nat.mod_eq_of_lt x.toNat_lt
theorem xor8 (x m : UInt8) : bits .xor .u8 (x.toNat : Int) (m.toNat : Int) = ((x ^^^ m).toNat : Int) := by
  show IntKind.u8.wrap (((BitVec.ofInt 8 (x.toNat : Int) ^^^ BitVec.ofInt 8 (m.toNat : Int)).toNat : Nat) : Int) = _
  rw [ofInt8, ofInt8, wrap8 _ (BitVec.isLt _)]
  rfl
def CRow (w : World) (A : Option Addr) (n c : Nat) : Prop := n = 0 ∨ ∃ g cur, A = some ⟨g, 0, none⟩ ∧ Blk w g 47 cur ∧ cur.size = c * 2 ∧ n ≤ c
theorem CRow.of {w : World} {base n c : Nat} {A : Option Addr} {L : List CpV} (h : OwnCp w base (.slice A n c) L) (hn : n = L.length) : CRow w A n c := by
  rcases h.2 with ⟨_, h0⟩ | ⟨g, cap, cur, hv, hg, hh, hnc, hcm, hcs, htake⟩
  · exact .inl (by rw [hn]; exact h0)
  · injection hv with e1 e2 e3
    subst e1 e3
    exact .inr ⟨g, cur, rfl, hh, hcs, by omega⟩
theorem CRow.mod {w w' : World} {A : Option Addr} {n c : Nat} {X : Nat → Prop} (h : CRow w A n c) (m : Mod X w w') (hx : ∀ b, (Value.slice A n c).ownBlock = some b → ¬ X b) : CRow w' A n c := by
  rcases h with h | ⟨g, cur, rfl, h1, h2, h3⟩
  · exact .inl h
  · exact .inr ⟨g, cur, rfl, h1.mod m (hx g rfl), h2, h3⟩
theorem CRow.store {w : World} {A : Option Addr} {n c k : Nat} (h : CRow w A n c) (hk : k < n) : ∃ ad g, A = some ad ∧ ad = ⟨g, 0, none⟩ ∧ (∃ v, w.cell? (ad.add (k * 2)) = some v) ∧ w.frozen? (ad.add (k * 2)) = false ∧ ad.add (k * 2) = ⟨g, k * 2, none⟩ ∧ ∀ u, CRow (w.setCell (ad.add (k * 2)) u) A n c ∧ Mod (fun b => (Value.slice A n c).ownBlock = some b) w (w.setCell (ad.add (k * 2)) u) := by
  rcases h with h | ⟨g, cur, rfl, h1, h2, h3⟩
  · omega
  · have e : (⟨g, 0, none⟩ : Addr).add (k * 2) = ⟨g, k * 2, none⟩ := by rw [add_head]
    refine ⟨_, g, rfl, rfl, ?_, ?_, e, fun u => ⟨.inr ⟨g, _, rfl, by rw [e]; exact h1.set_ _ _, by rw [Array.size_setIfInBounds]; exact h2, h3⟩, ?_⟩⟩
    · rw [e, h1.cell]
      exact ⟨_, Array.getElem?_eq_getElem (by omega)⟩
    · rw [e]; exact h1.frozen _
    · rw [e]
      exact ((Mod.refl (· = g) w).setG (k * 2) u).mono fun b _ hb => by rw [hb]; rfl
theorem own_lt18 {w : World} {base n c : Nat} {A : Option Addr} {bs : List UInt8} (h : OwnB w base (.slice A n c) bs) : ∀ g, A = some ⟨g, 0, none⟩ → g < w.heap.size := by
  intro g hg
  exact (World.ownsRow.lt h g (by rw [hg]; rfl)).2
theorem read_all {p : PI} (h : readE p 0 (p.d.length : Int) 0 = 0) : readD p 0 (p.d.length : Int) 0 = p.d := by
  have ha : asE p 0 = 0 := by
    unfold readE at h
    by_cases h1 : asE p 0 ≠ 0
    · rw [if_pos h1] at h; exact absurd h h1
    · simpa using h1
  have hm : ¬ (mayI p = false) := fun e => by unfold asE at ha; rw [if_pos e] at ha; cases ha
  have hd : asD p 0 = p.d := by unfold asD; rw [if_neg hm, asO_zero]; rfl
  unfold readD
  rw [if_pos h, hd]
  unfold cutO
  simp
theorem RowB.mod {X : Nat → Prop} {w w' : World} {base : Nat} {A : Option Addr} {zs : List UInt8} (h : RowB w base A zs) (hb : Mod X w w') (hx : ∀ g, A = some ⟨g, 0, none⟩ → ¬ X g) : RowB w' base A zs := by
  rcases h with h | ⟨g, t, cs, e, hg, hB, ht⟩
  · exact .inl h
  · exact .inr ⟨g, t, cs, e, hg, hB.mod hb (hx g e), ht⟩

set_option maxHeartbeats 8000000 in
theorem aown_walk (W : World) (i : ImV) (r0 : ImR W (Old W) i) (ii : ImI i) (e : E7) (A : Option Addr) (c : Nat) (rd : RdB W (Old W) A e.data) (hdc : e.data.length ≤ c) (hcm : c ≤ 9223372036854775807) (hn : A = none → c = 0) (ei : EnI e) :
    Calls Try.prog 6 #[.agg (imA i), enV e A c] W fun e w' => e = .returned (.bool true) ∧ Below W.heap.size W w' := by
  obtain ⟨hB, hE, bb⟩ := box2 i e A c W
  have hgW : W.heap.size + 1 < ((W.alloc (.cells (imA i) 25)).alloc (.cells (enA e A c) 41)).heap.size := hE.lt
  replace r0 := r0.below bb
  replace rd := rd.below bb
  clear ii hn ei
  unfold enV
  generalize hw0 : (W.alloc (.cells (imA i) 25)).alloc (.cells (enA e A c) 41) = w0 at *
  have haw := awake18 w0
  go_enter Try.func6, Try.ntmps6
  go_wp2_with fail
  refine haw.mono ?_
  clear haw hw0
  rintro e1 w1 ⟨rfl, b_⟩
  have hgW := Nat.lt_of_lt_of_le hgW b_.size
  replace hB := hB.below b_
  replace hE := hE.below b_
  replace r0 := r0.below b_
  replace rd := rd.below b_
  replace bb := bb.thenB' b_
  clear b_
  go_wp2_with first
    | (with_reducible show wpList _ _ _ _ _ _
       refine wpList_load_row rfl 25 (.tmp 2) rfl W.heap.size rfl 25 _ (0, 0) _ hB Try.underlying25 rfl infoIm ?_)
  refine (few_any _ i _ r0).mono ?_
  rintro e2 w2 ⟨rfl, b_⟩
  have hgW := Nat.lt_of_lt_of_le hgW b_.size
  replace hB := hB.below b_
  replace hE := hE.below b_
  replace r0 := r0.below b_
  replace rd := rd.below b_
  replace bb := bb.thenB' b_
  clear b_
  cases hf : fewB i.p
  focus
    go_wp2_with fail
    go_ret
    exact ⟨rfl, bb⟩
  clear hf
  have c6 := hE.cell 6
  unfold enA at c6
  simp at c6
  by_cases h1 : (200 : Int) < (e.data.length : Int)
  focus
    go_wp2_with fail
    go_ret
    exact ⟨rfl, bb⟩
  have c0 := hB.cell 0
  unfold imA at c0
  simp at c0
  have s0 := str_rd (n := i.d.length) (c := i.dc) r0.rd rfl
  go_upto_region 8 with fail
  clear c6 c0 s0
  have hd := Do_any _ _ i e A c w2 r0 rd hdc hcm
  generalize (doP i.p e).2.1 = nn_ at *
  generalize (doP i.p e).2.2 = ee at *
  unfold enV at hd
  (try dsimp only at hd)
  go_wp2_with first
    | (with_reducible show wpList _ _ _ _ _ _
       refine wpList_load_row rfl 25 (.tmp 2) rfl W.heap.size rfl 25 _ (0, 0) _ hB Try.underlying25 rfl infoIm ?_)
    | (with_reducible show wpList _ _ _ _ _ _
       refine wpList_load_row rfl 41 (.tmp 3) rfl (W.heap.size + 1) rfl 41 _ (0, 0) _ hE Try.underlying41 rfl infoEy ?_)
  refine hd.mono ?_
  clear hd
  rintro e4 w4 ⟨⟨DX, dx, xc, CX, SX, sc, lx⟩, rfl, -, oX, b4⟩
  have own := oX.own
  have dat := oX.dat
  have ne := oX.ne
  (try dsimp only at own dat ne)
  clear oX
  obtain ⟨zA, zc, eD, lD, mD⟩ := OwnB.form dat
  obtain ⟨yA, yc, eC, lC, mC⟩ := OwnC.form own
  have hnD : dx.length ≤ 9223372036854775807 := by unfold maxLen at mD; omega
  have hnC : SX.length ≤ 9223372036854775807 := by unfold maxLen at mC; omega
  clear eD eC lD lC mD mC zA zc yA yc
  have hlD := fun b e => (World.ownsRow.lt dat b e)
  have hlC := fun b e => (World.ownsRow.lt own b e)
  have zX := Blk.new w4 25 #[.slice none 0 0, .slice none 0 0, .int .i64 0]
  go_wp2_with first
    | (with_reducible show wpList _ _ _ _ _ _
       refine wpList_rowB rfl 25 (.tmp 8) (.tmp 38) rfl w4.heap.size 25 _ (imA ⟨DX, dx, xc, CX, SX, sc, lx⟩) rfl rfl zX infoIm rfl (imA_ok _) ?_
       intro w5 hX m5
       have n5 : Below w4.heap.size w4 w5 := im_new m5
       have row := RowB.of_own (OwnB.below dat n5)
       have crow := CRow.of (OwnC.below own n5) rfl
       have b5 : Below w2.heap.size w2 w5 := b4.thenB' n5
       unfold imA at hX
       dsimp only at hX
       have hX1 := hX.cell 0
       simp at hX1
       clear m5 n5 b4 dat own zX)
  go_loopw [11] (fun s wr => ∃ (j : Nat) (Ld : List UInt8), j ≤ dx.length ∧ Hid (Ld.length = dx.length) ∧ s = .int .i64 (j : Int) ∧ RowB wr w2.heap.size DX Ld ∧ Mod (fun b => (Value.slice DX dx.length xc).ownBlock = some b) w5 wr) (fun s _ => dx.length - (intOf s).toNat)
  case atStart => exact ⟨0, dx, Nat.zero_le _, Lib.hid rfl, rfl, row, Mod.refl _ _⟩
  case round =>
    clear row hX1
    obtain ⟨j, Ld, hj, HL, rfl, row, mr⟩ := hrel
    have hXr := hX.mod mr (fun e => by have := (hlD _ e).2; omega)
    have hX1 := hXr.cell 0
    simp at hX1
    by_cases hlt : j < dx.length
    · have hjL : j < Ld.length := by rw [HL.out]; exact hlt
      obtain ⟨g, hg, hg1, -, -, -, -⟩ := row.store hjL
      subst hg
      have hlD := hlD g rfl
      have hnI : (dx.length : Int) ≤ 9223372036854775807 := by omega
      go_wp2_with fail
      refine r_start (R := RG g) (by rfl) (n := 11) (L := #[false, false, false, false, false, false, false, false, false, false, false]) rfl rfl ?_
      have bd : Below wr.heap.size wr wr.drew := (Below.refl _ _).drew
      have row := row.below bd
      have hXr := hXr.below bd
      have mr := mr.thenB bd
      generalize wr.drew = wd at *
      clear bd hX1
      obtain ⟨g', hg', -, hg2, hcell, hfr, hst⟩ := row.store hjL
      obtain rfl : g = g' := by
        injection hg' with hg'
        injection hg' with hg'
      have hx8 : bits .xor .u8 (Ld[j].toNat : Int) 255 = ((Ld[j] ^^^ 255).toNat : Int) := xor8 Ld[j] 255
      have r4 := hst (Ld[j] ^^^ 255)
      have HL2 : Hid ((Ld.set j (Ld[j] ^^^ 255)).length = dx.length) := by unfold Hid; rw [List.length_set]; exact HL.out
      generalize Ld.set j (Ld[j] ^^^ 255) = L2 at *
      generalize Ld[j] ^^^ 255 = d at *
      have m5 : Mod (· = g) wd (wd.setCell ⟨g, j, none⟩ (.int .u8 (d.toNat : Int))) := (Mod.refl (· = g) wd).setG j _
      have hne : ¬ (w4.heap.size = g) := by omega
      generalize Ld[j] = x at *
      clear hst
      refine r_flt (RG_refl g) 0 48 #[true, false, false, false, false, false, false, false, false, false, false] (by simp only [List.getElem?_toArray, List.getElem?_cons_zero]; rfl) (by rfl) (by kernel_rfl) (by kernel_rfl) (by kernel_rfl) (fun _ _ _ _ h => h) rfl (by rfl) ?_
      apply Exists.intro
      apply And.intro
      · intro W hW
        first | (go_simp; with_reducible rfl) | go_simp
      (try simp only [Act.put, List.setIfInBounds_toArray]); (try simp only [List.set_cons_succ]); (try simp only [List.set_cons_zero])
      refine r_flt (RG_refl g) 1 49 #[true, true, false, false, false, false, false, false, false, false, false] (by simp only [List.getElem?_toArray, List.getElem?_cons_succ, List.getElem?_cons_zero]; rfl) (by rfl) (by kernel_rfl) (by kernel_rfl) (by kernel_rfl) (fun _ _ _ _ h => h) rfl (by rfl) ?_
      apply Exists.intro
      apply And.intro
      · intro W hW
        have k2 := (hXr.mod hW hne).cell 0
        simp at k2
        first | (go_simp; with_reducible rfl) | go_simp
      (try simp only [Act.put, List.setIfInBounds_toArray]); (try simp only [List.set_cons_succ]); (try simp only [List.set_cons_zero])
      refine r_flt (RG_refl g) 2 50 #[true, true, true, false, false, false, false, false, false, false, false] (by simp only [List.getElem?_toArray, List.getElem?_cons_succ, List.getElem?_cons_zero]; rfl) (by rfl) (by kernel_rfl) (by kernel_rfl) (by kernel_rfl) (fun _ _ _ _ h => h) rfl (by rfl) ?_
      apply Exists.intro
      apply And.intro
      · intro W hW
        first | (go_simp; with_reducible rfl) | go_simp
      (try simp only [Act.put, List.setIfInBounds_toArray]); (try simp only [List.set_cons_succ]); (try simp only [List.set_cons_zero])
      refine r_flt (RG_refl g) 3 51 #[true, true, true, true, false, false, false, false, false, false, false] (by simp only [List.getElem?_toArray, List.getElem?_cons_succ, List.getElem?_cons_zero]; rfl) (by rfl) (by kernel_rfl) (by kernel_rfl) (by kernel_rfl) (fun _ _ _ _ h => h) rfl (by rfl) ?_
      apply Exists.intro
      apply And.intro
      · intro W hW
        first | (go_simp; with_reducible rfl) | go_simp
      (try simp only [Act.put, List.setIfInBounds_toArray]); (try simp only [List.set_cons_succ]); (try simp only [List.set_cons_zero])
      refine r_flt (RG_refl g) 4 52 #[true, true, true, true, true, false, false, false, false, false, false] (by simp only [List.getElem?_toArray, List.getElem?_cons_succ, List.getElem?_cons_zero]; rfl) (by rfl) (by kernel_rfl) (by kernel_rfl) (by kernel_rfl) (fun _ _ _ _ h => h) rfl (by rfl) ?_
      apply Exists.intro
      apply And.intro
      · intro W hW
        have k2 := (hXr.mod hW hne).cell 0
        simp at k2
        first | (go_simp; with_reducible rfl) | go_simp
      (try simp only [Act.put, List.setIfInBounds_toArray]); (try simp only [List.set_cons_succ]); (try simp only [List.set_cons_zero])
      refine r_flt (RG_refl g) 5 53 #[true, true, true, true, true, true, false, false, false, false, false] (by simp only [List.getElem?_toArray, List.getElem?_cons_succ, List.getElem?_cons_zero]; rfl) (by rfl) (by kernel_rfl) (by kernel_rfl) (by kernel_rfl) (fun _ _ _ _ h => h) rfl (by rfl) ?_
      apply Exists.intro
      apply And.intro
      · intro W hW
        first | (go_simp; with_reducible rfl) | go_simp
      (try simp only [Act.put, List.setIfInBounds_toArray]); (try simp only [List.set_cons_succ]); (try simp only [List.set_cons_zero])
      refine r_flt (RG_refl g) 6 54 #[true, true, true, true, true, true, true, false, false, false, false] (by simp only [List.getElem?_toArray, List.getElem?_cons_succ, List.getElem?_cons_zero]; rfl) (by rfl) (by kernel_rfl) (by kernel_rfl) (by kernel_rfl) (fun _ _ _ _ h => h) rfl (by rfl) ?_
      apply Exists.intro
      apply And.intro
      · intro W hW
        first | (go_simp; with_reducible rfl) | go_simp
      (try simp only [Act.put, List.setIfInBounds_toArray]); (try simp only [List.set_cons_succ]); (try simp only [List.set_cons_zero])
      refine r_one (RG_trans g) 7 (by kernel_rfl) ?_
      refine alt_val 55 #[true, true, true, true, true, true, true, true, false, false, false] (by simp only [List.getElem?_toArray, List.getElem?_cons_succ, List.getElem?_cons_zero]; rfl) (by rfl) rfl (by rfl) (by go_simp; first | exact ⟨rfl, rfl⟩ | rfl) ?_ ?_
      · exact RG_refl _ _
      (try simp only [Act.put, List.setIfInBounds_toArray]); (try simp only [List.set_cons_succ]); (try simp only [List.set_cons_zero])
      refine r_flt (RG_refl g) 8 56 #[true, true, true, true, true, true, true, true, true, false, false] (by simp only [List.getElem?_toArray, List.getElem?_cons_succ, List.getElem?_cons_zero]; rfl) (by rfl) (by kernel_rfl) (by kernel_rfl) (by kernel_rfl) (fun _ _ _ _ h => h) rfl (by rfl) ?_
      apply Exists.intro
      apply And.intro
      · intro W hW
        first | (go_simp; with_reducible rfl) | go_simp
      (try simp only [Act.put, List.setIfInBounds_toArray]); (try simp only [List.set_cons_succ]); (try simp only [List.set_cons_zero])
      refine r_flt (RG_refl g) 9 57 #[true, true, true, true, true, true, true, true, true, true, false] (by simp only [List.getElem?_toArray, List.getElem?_cons_succ, List.getElem?_cons_zero]; rfl) (by rfl) (by kernel_rfl) (by kernel_rfl) (by kernel_rfl) (fun _ _ _ _ h => h) rfl (by rfl) ?_
      apply Exists.intro
      apply And.intro
      · intro W hW
        first | (go_simp; with_reducible rfl) | go_simp
      (try simp only [Act.put, List.setIfInBounds_toArray]); (try simp only [List.set_cons_succ]); (try simp only [List.set_cons_zero])
      refine r_one (RG_trans g) 10 (by kernel_rfl) ?_
      refine alt_none #[true, true, true, true, true, true, true, true, true, true, true] (by simp only [List.getElem?_toArray, List.getElem?_cons_succ, List.getElem?_cons_zero]; rfl) (by rfl) rfl (by rfl) (by go_simp; first | exact ⟨rfl, rfl⟩ | rfl) ?_ ?_
      · exact m5
      (try simp only [Act.put, List.setIfInBounds_toArray]); (try simp only [List.set_cons_succ]); (try simp only [List.set_cons_zero])
      refine r_done (by kernel_rfl) ?_
      go_wp2_with fail
      go_roundw
      case rel => exact ⟨j + 1, L2, by omega, HL2, by go_num, r4, mr.trans (m5.mono fun b _ hb => by rw [hb]; rfl)⟩
      case measure => simp [intOf] <;> omega
    · have crow := crow.mod mr (fun b hb hx => ne b hb hx)
      have hltI : ¬ (j : Int) < (dx.length : Int) := by omega
      clear row hlt hj HL
      go_wp2_with fail
      clear hltI
      go_loopw [12] (fun s wq => ∃ k : Nat, k ≤ SX.length ∧ s = .int .i64 (k : Int) ∧ CRow wq CX SX.length sc ∧ Mod (fun b => (Value.slice CX SX.length sc).ownBlock = some b) wr wq) (fun s _ => SX.length - (intOf s).toNat)
      case atStart => exact ⟨0, Nat.zero_le _, rfl, crow, Mod.refl _ _⟩
      case round =>
        clear crow hX1
        obtain ⟨k, hk, rfl, crow, mq⟩ := hrel
        have hXq := hXr.mod mq (fun e => by have := (hlC _ e).2; omega)
        have hX1 := hXq.cell 1
        simp at hX1
        by_cases hlt : k < SX.length
        · obtain ⟨ad, g, hCX, had, ⟨vv, hcell⟩, hfr, -, hst⟩ := crow.store hlt
          obtain ⟨hs1, hs2⟩ := hst (.int .i64 0)
          have HS2 := Lib.hid hs2
          clear hst crow had hs2
          subst hCX
          have hkI : (k : Int) < (SX.length : Int) := by omega
          have hnI : (SX.length : Int) ≤ 9223372036854775807 := by omega
          go_wp2_with fail
          go_roundw
          case rel => exact ⟨k + 1, by omega, by go_num, hs1, mq.trans HS2.out⟩
          case measure => simp [intOf] <;> omega
        · have B2 := (b5.thenM mr b5.size (fun i hi e => by have := (hlD i e).1; omega)).thenM mq (by have := mr.size; have := b5.size; omega) (fun i hi e => by have := (hlC i e).1; omega)
          have hBq := hB.below B2
          have r0q := r0.below B2
          have bbq := bb.thenB' B2
          have hltI : ¬ (k : Int) < (SX.length : Int) := by omega
          clear crow hXq hXr mq mr hlt hk b5 hB r0 bb rd hE
          have h1 := fun V (q : ImR V (Old W) i) => Read_any _ i 0 (i.d.length : Int) 0 V q (by have := r0q.dl; have := r0q.dm; omega)
          have hz : readE i.p 0 (i.d.length : Int) 0 = 0 → readD i.p 0 (i.d.length : Int) 0 = i.d := read_all (p := i.p)
          generalize readE i.p 0 (i.d.length : Int) 0 = re at *
          generalize readD i.p 0 (i.d.length : Int) 0 = x at *
          have c0 := hBq.cell 0
          unfold imA at c0
          simp at c0
          go_wp2_with first
            | (with_reducible show wpList _ _ _ _ _ _
               refine wpList_load_row rfl 25 (.tmp 2) rfl W.heap.size rfl 25 _ (0, 0) _ hBq Try.underlying25 rfl infoIm ?_)
          refine (h1 _ r0q).mono ?_
          rintro e7 w7 ⟨v7, rfl, o7, b7⟩
          obtain ⟨A7, n7, c7, rfl, H7, l7, m7⟩ := o7.form'
          have row7 := RowB.of_own o7
          have hl7 := own_lt18 o7
          unfold maxLen at m7
          clear o7 c0
          go_wp2_with fail
          go_loopw [15] (fun s wz => ∃ (k : Nat) (Ly : List UInt8), k ≤ n7 ∧ Hid (Ly.length = n7) ∧ s = .int .i64 (k : Int) ∧ RowB wz wr.heap.size A7 Ly ∧ Below wr.heap.size wr wz) (fun s _ => n7 - (intOf s).toNat)
          case atStart => exact ⟨0, x, Nat.zero_le _, Lib.hid H7.out.symm, rfl, row7, b7⟩
          case round =>
            clear row7 b7
            obtain ⟨k, Ly, hk, HL, rfl, row, b7⟩ := hrel
            by_cases hlt : k < n7
            · have hjL : k < Ly.length := by rw [HL.out]; exact hlt
              obtain ⟨g, hg, hg1, hg2, hcell, hfr, hst⟩ := row.store hjL
              subst hg
              have hx8 : bits .xor .u8 (Ly[k].toNat : Int) 255 = ((Ly[k] ^^^ 255).toNat : Int) := xor8 Ly[k] 255
              have r4 := hst (Ly[k] ^^^ 255)
              have HL2 : Hid ((Ly.set k (Ly[k] ^^^ 255)).length = n7) := by unfold Hid; rw [List.length_set]; exact HL.out
              generalize Ly.set k (Ly[k] ^^^ 255) = L2 at *
              generalize Ly[k] ^^^ 255 = d at *
              have b8 := below_store (k := k) b7 hg1 (.int .u8 (d.toNat : Int))
              generalize Ly[k] = xk at *
              clear hst row
              have hkI : (k : Int) < (n7 : Int) := by omega
              have hnI : (n7 : Int) ≤ 9223372036854775807 := by omega
              go_wp2_with fail
              go_roundw
              case rel => exact ⟨k + 1, L2, by omega, HL2, by go_num, r4, b8⟩
              case measure => simp [intOf] <;> omega
            · have hBz := hBq.below b7
              have r0z := r0q.below b7
              have bbz := bbq.thenB' b7
              have hltI : ¬ (k : Int) < (n7 : Int) := by omega
              clear row hlt hk HL
              have c0 := hBz.cell 0
              unfold imA at c0
              simp at c0
              go_wp2_with first
                | (with_reducible show wpList _ _ _ _ _ _
                   refine wpList_load_row rfl 25 (.tmp 2) rfl W.heap.size rfl 25 _ (0, 0) _ hBz Try.underlying25 rfl infoIm ?_)
              refine (h1 _ r0z).mono ?_
              clear h1 c0
              rintro e8 w8 ⟨v8, rfl, o8, b8⟩
              obtain ⟨A8, c8, rfl, -, -⟩ := OwnB.form o8
              have hB8 := hBz.below b8
              have r08 := r0z.below b8
              have bb8 := bbz.thenB' b8
              have s0 := str_rd (n := i.d.length) (c := i.dc) r08.rd rfl
              have s8 := str_rd (n := x.length) (c := c8) o8.rdG rfl
              have c0 := hB8.cell 0
              unfold imA at c0
              simp at c0
              by_cases hre : re = 0
              · obtain rfl := hz hre
                subst hre
                go_wp2_with fail
                go_ret
                exact ⟨rfl, bb8⟩
              · have g1 : (re != 0) = true := by simp [hre]
                go_wp2_with fail
                go_ret
                exact ⟨rfl, bb8⟩
end Go.Proofs.Ytcdodchjgadcoaa
