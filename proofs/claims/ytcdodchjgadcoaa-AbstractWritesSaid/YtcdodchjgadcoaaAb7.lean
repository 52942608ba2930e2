/- An image of one's own: the code's own. -/
import Derived.Test.YtcdodchjgadcoaaAb6
namespace Go.Proofs.Ytcdodchjgadcoaa
open Go.RowKit
set_option linter.unusedVariables false

def DC (B : Nat) (cv dv : Value) (b : Nat) : Prop := B ≤ b ∧ cv.ownBlock ≠ some b ∧ dv.ownBlock ≠ some b

set_option maxHeartbeats 8000000 in
set_option maxRecDepth 100000 in
theorem own18_any (D : Nat → Prop) (i : ImV) (w : World) (hr : ImR w D i) (hm1 : i.d.length ≤ 1000) (hS1 : i.S.length ≤ 100) (hs1 : ∀ s ∈ i.S, s.m.length ≤ 1000) :
    Calls Try.prog 34 #[.agg (imA i)] w fun e w' => ∃ i' : ImV, e = .returned (.agg (imA i')) ∧ i'.p = i.p ∧ OwnIm w' w.heap.size i' ∧ Below w.heap.size w w' := by
  obtain ⟨rm, lm, mm, hS, hl, hm, hrs0⟩ := hr
  have hrs := fun s hs => (hrs0 s hs).imp (D' := (· < w.heap.size)) (fun b hb _ => hb)
  clear hrs0
  have b1 := below_new w (.cells (imA i) 25)
  have hB := Blk.new w 25 (imA i)
  have s1 : (w.alloc (.cells (imA i) 25)).heap.size = w.heap.size + 1 := Array.size_push ..
  have b2 := below_new (w.alloc (.cells (imA i) 25)) (.cells zI3 25)
  have hQ := Blk.new (w.alloc (.cells (imA i) 25)) 25 zI3
  have s2 : ((w.alloc (.cells (imA i) 25)).alloc (.cells zI3 25)).heap.size = w.heap.size + 1 + 1 := by rw [← s1]; exact Array.size_push ..
  rw [s1] at hQ
  have hB := hB.below b2
  have bb := b1.thenB' b2
  clear b1 b2 s1
  obtain ⟨DA, d, dc, A, L, cc, la⟩ := i
  unfold ImV.p
  unfold imA zI3 at *
  dsimp only at *
  generalize hw0 : (w.alloc (.cells #[.slice DA d.length dc, .slice A L.length cc, .int .i64 la] 25)).alloc (.cells #[.slice none 0 0, .slice none 0 0, .int .i64 0] 25) = w0 at *
  have hs0 : w.heap.size + 2 ≤ w0.heap.size := by omega
  have c4 := hB.cell 0
  simp at c4
  clear s2
  have rm0 := rm.below bb
  go_enter Try.func34, Try.ntmps34
  go_wp2_with fail
  clear hw0 c4
  refine (cloneD_any D DA dc d w0 rm0 (by unfold big; omega)).mono ?_
  rintro e w1 ⟨v1, rfl, o1, b1⟩
  obtain ⟨A1, c1, rfl, l1, k1⟩ := o1.form
  have hB1 := hB.below b1
  have hQ1 := hQ.below b1
  have bb := bb.thenB' b1
  have hdl1 : ∀ b, (Value.slice A1 d.length c1).ownBlock = some b → w.heap.size + 2 ≤ b ∧ b < w1.heap.size := fun b hb => by have := o1.lt b hb; omega
  go_wp2_with first
    | (with_reducible show wpList _ _ _ _ _ _
       refine wpList_fldB rfl 22 (.tmp 7) (.tmp 6) rfl w.heap.size 0 25 _ (.slice A1 d.length c1) rfl rfl rfl infoD1 hB1 3 rfl (by decide) ?_
       intro w2 hB2 m2
       replace hB2 : Blk w2 w.heap.size 25 #[.slice A1 d.length c1, .slice A L.length cc, .int .i64 la] := hB2
       have c5 := hB2.cell 1
       simp at c5)
  have hQ2 := hQ1.mod m2 (by omega)
  have bb := bb.thenM m2 bb.size (fun i hi e => by omega)
  have hs1' := b1.size
  have o2 := OwnB.mod o1 m2 (fun j hj e => by have := (hdl1 j hj).1; omega)
  have o2 := o2.low hs0
  have hs2 : w.heap.size + 2 ≤ w2.heap.size := by have := m2.size; omega
  have hdl2 : ∀ b, (Value.slice A1 d.length c1).ownBlock = some b → w.heap.size + 2 ≤ b ∧ b < w2.heap.size := fun b hb => by have := hdl1 b hb; have := m2.size; omega
  clear m2 hB1 hQ1 c5 hdl1
  have c5 := hB2.cell 1
  simp at c5
  have hrs2 := fun s hs => (hrs s hs).below bb
  refine (cloneCp_any D A cc L w2 (hS.below bb) (by omega)).mono ?_
  rintro e w3 ⟨v3, rfl, o3, b3⟩
  obtain ⟨A3, c3, rfl, l3, k3⟩ := OwnC.form o3
  have hB3 := hB2.below b3
  have hQ3 := hQ2.below b3
  have bb := bb.thenB' b3
  have hrs3 := fun s hs => (hrs2 s hs).below b3
  have r3 := o2.below b3
  have hob2 : ∀ b, (Value.slice A3 L.length c3).ownBlock = some b → w2.heap.size ≤ b := fun b hb => (World.ownsRow.lt o3 b hb).1
  have o3 : OwnCp w3 (w.heap.size + 2) (.slice A3 L.length c3) L := OwnC.low o3 hs2
  have hobl0 : ∀ b, (Value.slice A3 L.length c3).ownBlock = some b → w.heap.size + 2 ≤ b ∧ b < w3.heap.size := fun b hb => World.ownsRow.lt o3 b hb
  have hne : ∀ b, (Value.slice A3 L.length c3).ownBlock = some b → (Value.slice A1 d.length c1).ownBlock ≠ some b := fun b hb e => by have := hob2 b hb; have := (hdl2 b e).2; omega
  go_wp2_with first
    | (with_reducible show wpList _ _ _ _ _ _
       refine wpList_fldB rfl 23 (.tmp 11) (.tmp 10) rfl w.heap.size 1 25 _ (.slice A3 L.length c3) rfl rfl rfl infoC1 hB3 3 rfl (by decide) ?_
       intro w4 hB4 m4
       replace hB4 : Blk w4 w.heap.size 25 #[.slice A1 d.length c1, .slice A3 L.length c3, .int .i64 la] := hB4
       have c5 := hB4.cell 1
       simp at c5)
  have hQ4 := hQ3.mod m4 (by omega)
  have hobl := fun b hb => Nat.lt_of_lt_of_le (hobl0 b hb).2 m4.size
  have o4 : OwnCp w4 (w.heap.size + 2) (.slice A3 L.length c3) L := OwnC.mod o3 m4 (fun b hb e => by have := (hobl0 b hb).1; omega)
  have r4 := OwnB.mod r3 m4 (fun j hj e => by have := (hdl2 j hj).1; omega)
  have hdl4 : ∀ b, (Value.slice A1 d.length c1).ownBlock = some b → b < w4.heap.size := fun b hb => by have := hdl2 b hb; have := m4.size; have := b3.size; omega
  have bb := bb.thenM m4 bb.size (fun i hi e => by omega)
  clear hB3 hQ3 c5 m4 hrs2 hrs3 o3 r3 b3 o1 o2 hB2 hQ2 b1 hB hQ hdl2
  have hrs4 := fun s hs => (hrs s hs).below bb
  have hL1 : Hid (L.length ≤ 100) := hS1
  have hs4 : w.heap.size + 2 ≤ w4.heap.size := by have := bb.size; have := hQ4.lt; omega
  have hq1 : ∀ b, (Value.slice A3 L.length c3).ownBlock = some b → w.heap.size + 2 ≤ b := fun b hb => (hobl0 b hb).1
  go_loopw [3, 15] (fun s3 i wr => ∃ (k : Nat) (S : List CpV), k ≤ L.length ∧ i = .int .i64 (k : Int) ∧ S.length = L.length ∧ pureC S = pureC L ∧ (∀ j s, j < k → S[j]? = some s → CpR wr (DC (w.heap.size + 2) (.slice A3 L.length c3) (.slice A1 d.length c1)) s) ∧ (∀ j, k ≤ j → S[j]? = L[j]?) ∧ OwnCp wr (w.heap.size + 2) (.slice A3 L.length c3) S ∧ Mod (fun b => (Value.slice A3 L.length c3).ownBlock = some b) w4 wr) (fun _ i _ => L.length - (intOf i).toNat)
  case atStart => exact ⟨0, L, Nat.zero_le _, rfl, rfl, rfl, fun j s hj => by omega, fun j _ => rfl, o4, Mod.refl _ _⟩
  case round =>
    obtain ⟨k, S, hk, rfl, hSl, hP, hN, hO, oS, mm⟩ := hrel
    have hB1 := hB4.mod mm (fun e => by have := hq1 _ e; omega)
    have hSL := Lib.hid hSl
    clear hSl
    have c5 := hB1.cell 1
    simp at c5
    by_cases hlt : k < L.length
    · have hkS : k < S.length := by rw [hSL.out]; exact hlt
      have hSk : S[k] = L[k] := by
        have := hO k (Nat.le_refl _)
        rw [List.getElem?_eq_getElem hkS, List.getElem?_eq_getElem hlt] at this
        injection this
      obtain ⟨ad, rfl, hadB, hob, hcell, hfr, hbl, _⟩ := oS.store hkS
      rw [hSk] at hcell
      have hsk := hrs4 L[k] (List.getElem_mem hlt)
      have hx1k := hs1 L[k] (List.getElem_mem hlt)
      have rx := ((hsk).mod mm (fun b hb e => by have := hq1 b e; omega)).1
      have hkn : (k : Int) < (L.length : Int) := by omega
      have hLn : (L.length : Int) ≤ 9223372036854775807 := by have := hL1.out; omega
      have hq1' : ¬ w.heap.size = ad.block := by omega
      have hq2 := hq1
      replace hq1 : ¬ w.heap.size = ad.block := hq1'
      have hobl : ∀ b, (Value.slice (some ad) L.length c3).ownBlock = some b → b < wr.heap.size := fun b hb => Nat.lt_of_lt_of_le (hobl b hb) mm.size
      have hdl : ∀ b, (Value.slice A1 d.length c1).ownBlock = some b → b < wr.heap.size := fun b hb => Nat.lt_of_lt_of_le (hdl4 b hb) mm.size
      have HBL := Lib.hid hbl
      have HOB := Lib.hid hob
      clear hsk hq1' hbl hob
      obtain ⟨x, hxe⟩ : ∃ x, x = L[k].m := ⟨_, rfl⟩
      have hx : Hid (L[k].m = x) := hxe.symm
      rw [← hxe] at rx hcell hx1k
      clear hxe
      generalize L[k].A = Ax at *
      generalize L[k].c = cx at *
      go_wp2_with fail
      refine r_start (R := RG ad.block) (by rfl) (n := 13) (L := #[false, false, false, false, false, false, false, false, false, false, false, false, false]) rfl rfl ?_
      have bd : Below wr.heap.size wr wr.drew := (Below.refl _ _).drew
      have hB1 := hB1.below bd
      have oS : OwnCp wr.drew (w.heap.size + 2) (.slice (some ad) L.length c3) S := OwnC.below oS bd
      have rx := rx.below bd
      have hN := fun j s hj hs => (hN j s hj hs).below bd
      have mm := mm.thenB bd
      have hszd := mm.size
      have hsz : wr.heap.size ≤ wr.drew.heap.size := bd.size
      have hfr : wr.drew.frozen? ⟨(ad.add (k * 2)).block, (ad.add (k * 2)).off + 1, none⟩ = false := hfr
      have hcell := cell_belowS hcell bd
      clear bd
      generalize wr.drew = wd at *
      have c5 := hB1.cell 1
      simp at c5
      refine r_flt (RG_refl ad.block) 0 18 #[true, false, false, false, false, false, false, false, false, false, false, false, false] (by simp only [List.getElem?_toArray, List.getElem?_cons_zero]; rfl) (by rfl) (by kernel_rfl) (by kernel_rfl) (by kernel_rfl) (fun _ _ _ _ h => h) rfl (by rfl) ?_
      apply Exists.intro
      apply And.intro
      · intro W hW
        first | (go_simp; with_reducible rfl) | go_simp
      (try simp only [Act.put, List.setIfInBounds_toArray]); (try simp only [List.set_cons_succ]); (try simp only [List.set_cons_zero])
      refine r_flt (RG_refl ad.block) 1 19 #[true, true, false, false, false, false, false, false, false, false, false, false, false] (by simp only [List.getElem?_toArray, List.getElem?_cons_succ, List.getElem?_cons_zero]; rfl) (by rfl) (by kernel_rfl) (by kernel_rfl) (by kernel_rfl) (fun _ _ _ _ h => h) rfl (by rfl) ?_
      apply Exists.intro
      apply And.intro
      · intro W hW
        have c := (hB1.mod hW hq1).cell 1
        simp at c
        go_simp; rfl
      (try simp only [Act.put, List.setIfInBounds_toArray]); (try simp only [List.set_cons_succ]); (try simp only [List.set_cons_zero])
      refine r_flt (RG_refl ad.block) 2 20 #[true, true, true, false, false, false, false, false, false, false, false, false, false] (by simp only [List.getElem?_toArray, List.getElem?_cons_succ, List.getElem?_cons_zero]; rfl) (by rfl) (by kernel_rfl) (by kernel_rfl) (by kernel_rfl) (fun _ _ _ _ h => h) rfl (by rfl) ?_
      apply Exists.intro
      apply And.intro
      · intro W hW
        first | (go_simp; with_reducible rfl) | go_simp
      (try simp only [Act.put, List.setIfInBounds_toArray]); (try simp only [List.set_cons_succ]); (try simp only [List.set_cons_zero])
      refine r_flt (RG_refl ad.block) 3 21 #[true, true, true, true, false, false, false, false, false, false, false, false, false] (by simp only [List.getElem?_toArray, List.getElem?_cons_succ, List.getElem?_cons_zero]; rfl) (by rfl) (by kernel_rfl) (by kernel_rfl) (by kernel_rfl) (fun _ _ _ _ h => h) rfl (by rfl) ?_
      apply Exists.intro
      apply And.intro
      · intro W hW
        first | (go_simp; with_reducible rfl) | go_simp
      (try simp only [Act.put, List.setIfInBounds_toArray]); (try simp only [List.set_cons_succ]); (try simp only [List.set_cons_zero])
      refine r_flt (RG_refl ad.block) 4 22 #[true, true, true, true, true, false, false, false, false, false, false, false, false] (by simp only [List.getElem?_toArray, List.getElem?_cons_succ, List.getElem?_cons_zero]; rfl) (by rfl) (by kernel_rfl) (by kernel_rfl) (by kernel_rfl) (fun _ _ _ _ h => h) rfl (by rfl) ?_
      apply Exists.intro
      apply And.intro
      · intro W hW
        have c := (hB1.mod hW hq1).cell 1
        simp at c
        go_simp; rfl
      (try simp only [Act.put, List.setIfInBounds_toArray]); (try simp only [List.set_cons_succ]); (try simp only [List.set_cons_zero])
      refine r_flt (RG_refl ad.block) 5 23 #[true, true, true, true, true, true, false, false, false, false, false, false, false] (by simp only [List.getElem?_toArray, List.getElem?_cons_succ, List.getElem?_cons_zero]; rfl) (by rfl) (by kernel_rfl) (by kernel_rfl) (by kernel_rfl) (fun _ _ _ _ h => h) rfl (by rfl) ?_
      apply Exists.intro
      apply And.intro
      · intro W hW
        first | (go_simp; with_reducible rfl) | go_simp
      (try simp only [Act.put, List.setIfInBounds_toArray]); (try simp only [List.set_cons_succ]); (try simp only [List.set_cons_zero])
      refine r_flt (RG_refl ad.block) 6 24 #[true, true, true, true, true, true, true, false, false, false, false, false, false] (by simp only [List.getElem?_toArray, List.getElem?_cons_succ, List.getElem?_cons_zero]; rfl) (by rfl) (by kernel_rfl) (by kernel_rfl) (by kernel_rfl) (fun _ _ _ _ h => h) rfl (by rfl) ?_
      apply Exists.intro
      apply And.intro
      · intro W hW
        go_simp; rfl
      (try simp only [Act.put, List.setIfInBounds_toArray]); (try simp only [List.set_cons_succ]); (try simp only [List.set_cons_zero])
      refine r_flt (RG_refl ad.block) 7 25 #[true, true, true, true, true, true, true, true, false, false, false, false, false] (by simp only [List.getElem?_toArray, List.getElem?_cons_succ, List.getElem?_cons_zero]; rfl) (by rfl) (by kernel_rfl) (by kernel_rfl) (by kernel_rfl) (fun _ _ _ _ h => h) rfl (by rfl) ?_
      apply Exists.intro
      apply And.intro
      · intro W hW
        first | (go_simp; with_reducible rfl) | go_simp
      (try simp only [Act.put, List.setIfInBounds_toArray]); (try simp only [List.set_cons_succ]); (try simp only [List.set_cons_zero])
      refine r_one (RG_trans ad.block) 8 (by kernel_rfl) ?_
      refine alt_val 26 #[true, true, true, true, true, true, true, true, true, false, false, false, false] (by simp only [List.getElem?_toArray, List.getElem?_cons_succ, List.getElem?_cons_zero]; rfl) (by rfl) rfl (by rfl) (by go_simp; first | exact ⟨rfl, rfl⟩ | rfl) ?_ ?_
      · exact RG_refl _ _
      (try simp only [Act.put, List.setIfInBounds_toArray]); (try simp only [List.set_cons_succ]); (try simp only [List.set_cons_zero])
      refine r_one (RG_trans ad.block) 9 (by kernel_rfl) ?_
      refine alt_call 27 #[true, true, true, true, true, true, true, true, true, true, false, false, false] (by simp only [List.getElem?_toArray, List.getElem?_cons_succ, List.getElem?_cons_zero]; rfl) (by rfl) rfl (by rfl) (by go_simp; first | exact ⟨rfl, rfl⟩ | rfl) ?_
      with_reducible refine (cloneD_any _ Ax cx x _ rx (by unfold big; omega)).mono ?_
      rintro e' w9 ⟨v9, rfl, o9, b9⟩
      obtain ⟨A9, c9, rfl, lx9, mx9⟩ := o9.form
      refine ⟨_, rfl, RG.of_below b9, ?_⟩
      obtain ⟨ad', hA', -, -, hcell9, hfr9, -, hset9⟩ := OwnCp.store (OwnC.below oS b9) hkS
      injection hA' with hA'
      subst hA'
      have hN := fun j s hj hs => (hN j s hj hs).below b9
      have mm := mm.thenB b9
      (try simp only [Act.put, List.setIfInBounds_toArray]); (try simp only [List.set_cons_succ]); (try simp only [List.set_cons_zero])
      refine r_flt (RG_refl ad.block) 10 28 #[true, true, true, true, true, true, true, true, true, true, true, false, false] (by simp only [List.getElem?_toArray, List.getElem?_cons_succ, List.getElem?_cons_zero]; rfl) (by rfl) (by kernel_rfl) (by kernel_rfl) (by kernel_rfl) (fun _ _ _ _ h => h) rfl (by rfl) ?_
      apply Exists.intro
      apply And.intro
      · intro W hW
        go_simp; rfl
      (try simp only [Act.put, List.setIfInBounds_toArray]); (try simp only [List.set_cons_succ]); (try simp only [List.set_cons_zero])
      refine r_flt (RG_refl ad.block) 11 29 #[true, true, true, true, true, true, true, true, true, true, true, true, false] (by simp only [List.getElem?_toArray, List.getElem?_cons_succ, List.getElem?_cons_zero]; rfl) (by rfl) (by kernel_rfl) (by kernel_rfl) (by kernel_rfl) (fun _ _ _ _ h => h) rfl (by rfl) ?_
      apply Exists.intro
      apply And.intro
      · intro W hW
        first | (go_simp; with_reducible rfl) | go_simp
      (try simp only [Act.put, List.setIfInBounds_toArray]); (try simp only [List.set_cons_succ]); (try simp only [List.set_cons_zero])
      refine r_one (RG_trans ad.block) 12 (by kernel_rfl) ?_
      refine alt_none #[true, true, true, true, true, true, true, true, true, true, true, true, true] (by simp only [List.getElem?_toArray, List.getElem?_cons_succ, List.getElem?_cons_zero]; rfl) (by rfl) rfl (by rfl) (by go_simp; first | exact ⟨rfl, rfl⟩ | rfl) ?_ ?_
      · exact mod_fld _ ad _ _ _
      (try simp only [Act.put, List.setIfInBounds_toArray]); (try simp only [List.set_cons_succ]); (try simp only [List.set_cons_zero])
      refine r_done (by kernel_rfl) ?_
      go_wp2_with fail
      go_roundw
      case rel =>
        have h9 := hset9 A9 x c9
        rw [hSk] at h9
        refine ⟨k + 1, S.set k ⟨L[k].id, A9, x, c9⟩, by omega, by go_num, by rw [List.length_set]; exact hSL.out, ?_, ?_, ?_, h9, mm.trans ((mod_fld _ ad _ _ _).mono fun i _ hi => by rw [hi]; exact HOB.out)⟩
        · rw [← hP]
          unfold pureC
          rw [List.map_set]
          apply List.ext_getElem?
          intro j
          rw [List.getElem?_set]
          split
          · rename_i hj
            subst hj
            rw [if_pos (by rw [List.length_map]; exact hkS), List.getElem?_map, List.getElem?_eq_getElem hkS, hSk]
            simp only [Option.map_some, hx.out]
          · rfl
        · intro j s hj hs
          rw [List.getElem?_set] at hs
          split at hs
          · rename_i hj
            subst hj
            simp only [Option.some.injEq] at hs
            subst hs
            refine ⟨Rd.mod (X := (· = ad.block)) (Rd.imp o9.rdG (D' := DC (w.heap.size + 2) (.slice (some ad) L.length c3) (.slice A1 d.length c1)) (fun b _ hb => ⟨by omega, fun e => ?_, fun e => ?_⟩) (by decide)) (mod_fld _ ad _ _ _) (fun b hb e => hb.2.1 (by rw [e]; exact HOB.out)), lx9, by unfold maxLen at mx9; exact mx9⟩
            · have := hobl b e
              omega
            · have := hdl b e
              omega
          · exact (hN j s (by omega) hs).mod (X := (· = ad.block)) (mod_fld _ ad _ _ _) (fun b hb e => hb.2.1 (by rw [e]; exact HOB.out))
        · intro j hj
          rw [List.getElem?_set, if_neg (by omega)]
          exact hO j (by omega)
      case measure => simp [intOf] <;> omega
    · obtain rfl : k = L.length := by omega
      go_wp2_with first
        | (with_reducible show wpList _ _ _ _ _ _
           refine wpList_load_row rfl 25 (.tmp 1) rfl w.heap.size rfl 25 _ (0, 0) _ hB1 Try.underlying25 rfl infoIm ?_)
        | (with_reducible show wpList _ _ _ _ _ _
           refine wpList_rowB rfl 25 (.tmp 2) (.tmp 31) rfl (w.heap.size + 1) 25 _ #[.slice A1 d.length c1, .slice A3 L.length c3, .int .i64 la] rfl rfl (hQ4.mod mm (fun e => by have := hq1 _ e; omega)) infoIm rfl (imA_ok ⟨A1, d, c1, A3, L, c3, la⟩) ?_
           intro w6 hq6 m6)
      (try simp only [Exit.inBlock, Exit.then])
      refine bodyPost_ret (results_cell1 rfl _ _ (w.heap.size + 1) _ _ (0, 0) _ rfl hq6 Try.underlying25 rfl infoIm) rfl ?_
      have hO : OwnIm wr (w.heap.size + 2) ⟨A1, d, c1, A3, S, c3, la⟩ := by
        refine ⟨?_, ?_, ?_, fun s hs => ?_⟩
        · dsimp only
          rw [hSL.out]; exact oS
        · dsimp only
          exact OwnB.mod r4 mm (fun b hb e => hne b e hb)
        · dsimp only
          rw [hSL.out]; exact hne
        · obtain ⟨j, hj, rfl⟩ := List.getElem_of_mem hs
          dsimp only
          rw [hSL.out]
          exact hN j _ (by rw [← hSL.out]; exact hj) (List.getElem?_eq_getElem hj)
      refine ⟨⟨A1, d, c1, A3, S, c3, la⟩, ?_, ?_, (hO.mod m6 fun i e => by omega).low (by omega), ((bb.thenM mm bb.size fun i hi e => by have := hq1 i e; omega).thenM m6 (by have := bb.size; have := mm.size; omega) fun i hi e => by omega)⟩
      · dsimp only
        rw [hSL.out]
      · rw [← hP]
end Go.Proofs.Ytcdodchjgadcoaa
