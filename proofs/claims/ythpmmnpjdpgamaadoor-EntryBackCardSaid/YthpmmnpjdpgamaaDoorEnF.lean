/- The law EntryBack: the walk. -/
import Derived.Test.YthpmmnpjdpgamaaDoorEnE
namespace Go.Proofs.YthpmmnpjdpgamaaDoor
open Go.RowKit
set_option linter.unusedVariables false

set_option maxHeartbeats 8000000 in
set_option maxRecDepth 100000 in
theorem back_walk (e : E7) (v : Value) (D : Nat → Prop) (A0 : Option Addr) (b : List UInt8) (c0 : Nat) (w : World) (hy : EnY w v e) (r : RdB w D A0 b) (lb : b.length ≤ c0) (mx : c0 ≤ 9223372036854775807) (ht : T7 w) :
    Calls Tryd.prog 6 #[v, .slice A0 b.length c0] w fun r w' => r = .returned (.bool true) ∧ Below w.heap.size w w' := by
  obtain ⟨cs, rfl, q0, a0⟩ := hy.agg
  have bb := below_new w (.cells cs 24)
  have hB := Blk.new w 24 cs
  have hy := hy.below bb
  have ht := ht.below bb
  have r := r.below bb
  obtain ⟨A, c, h6, r6, l6, m6⟩ := hy.data
  go_enter Tryd.func6, Tryd.ntmps6
  go_wp2_with fail
  refine (awake_any7 _ ht.1 ht.2.1 ht.2.2).mono ?_
  rintro e1 w1 ⟨rfl, b1⟩
  have hB := hB.below b1
  have hy := hy.below b1
  have ht := ht.below b1
  have r := r.below b1
  have bb := bb.thenB' b1
  have c6 := hB.cell 6
  rw [h6] at c6
  clear b1
  by_cases hl : 1000 < e.data.length
  focus
    go_wp2_with fail
    go_ret
    exact ⟨rfl, bb⟩
  by_cases hlb : 3000 < b.length
  focus
    go_wp2_with fail
    go_ret
    exact ⟨rfl, bb⟩
  have hl : e.data.length ≤ big := by unfold big; omega
  have hlb : b.length ≤ 1000000 := by omega
  clear r6 l6 m6
  have HU := fun W (r : RdB W D A0 b) (ht : T7 W) => unpack_y r hlb lb mx ht
  have HB := Lib.hid (unp_pre b)
  have HN := Lib.hid (fun h => pack_none (e := e) h)
  have HY := Lib.hid (fun h => pack_some (e := e) h)
  have HCP := Lib.hid (pack_clean e)
  obtain ⟨cl, hcl⟩ : ∃ cl, cleanO e = cl := ⟨_, rfl⟩
  rw [hcl] at HY HCP
  have HC := Lib.hid hcl
  clear hcl
  have HP := fun W (hy : EnY W (.agg cs) e) (ht : T7 W) => hy.pack hl ht
  generalize unpO b = ub at *
  generalize packO e = pe at *
  go_wp2_with fail
  refine (HU _ r ht).mono ?_
  rintro e1 w2 ⟨v1, rfl, y1, b1⟩
  have hB := hB.below b1
  have hy := hy.below b1
  have ht := ht.below b1
  have r := r.below b1
  have bb := bb.thenB' b1
  clear b1
  obtain ⟨cs1, rfl, q1, a1⟩ := y1.agg
  have hz1 := Blk.new w2 24 z7
  unfold z7 at hz1
  go_wp2_with first
    | (with_reducible show wpList _ _ _ _ _ _
       refine wpList_rowB rfl 24 (.tmp 6) (.tmp 27) rfl w2.heap.size 24 _ cs1 rfl rfl hz1 (by rw [q1]; exact infoEn7) (by rw [q1]; rfl) a1 ?_
       intro z1 B1 m1
       have b1 := new7 m1
       have hB := hB.below b1
       have hy := hy.below b1
       have ht := ht.below b1
       have r := r.below b1
       have y1 := y1.below b1
       have bb := bb.thenB' b1
       clear b1 m1 hz1 a1)
  by_cases hf : ub.2 = 0
  focus
    obtain ⟨k1, k2⟩ := HB.out hf
    have HX := fun W (y : EnY W (.agg cs1) ub.1) (ht : T7 W) => y.pack k2 ht
    rw [k1] at HX
    rw [hf]
    refine r_start (R := RB) (by rfl) (n := 10) (L := #[false, false, false, false, false, false, false, false, false, false]) rfl rfl ?_
    have b1 : Below z1.heap.size z1 z1.drew := (Below.refl _ _).drew
    have hB := hB.below b1
    have hy := hy.below b1
    have ht := ht.below b1
    have r := r.below b1
    have B1 := B1.below b1
    have y1 := y1.below b1
    have bb := bb.thenB' b1
    generalize z1.drew = wd at *
    clear b1
    refine r_flt RB_refl 0 29 #[true, false, false, false, false, false, false, false, false, false] (by simp only [List.getElem?_toArray, List.getElem?_cons_zero]; rfl) (by rfl) (by kernel_rfl) (by kernel_rfl) (by kernel_rfl) (fun _ _ _ _ h => h) rfl (by rfl) ?_
    apply Exists.intro
    apply And.intro
    · intro W hW
      first | (go_simp; with_reducible rfl) | go_simp
    (try simp only [Act.put, List.setIfInBounds_toArray]); (try simp only [List.set_cons_succ]); (try simp only [List.set_cons_zero])
    refine r_flt RB_refl 1 30 #[true, true, false, false, false, false, false, false, false, false] (by simp only [List.getElem?_toArray, List.getElem?_cons_succ, List.getElem?_cons_zero]; rfl) (by rfl) (by kernel_rfl) (by kernel_rfl) (by kernel_rfl) (fun _ _ _ _ h => h) rfl (by rfl) ?_
    apply Exists.intro
    apply And.intro
    · intro W hW
      first | (go_simp; with_reducible rfl) | go_simp
    (try simp only [Act.put, List.setIfInBounds_toArray]); (try simp only [List.set_cons_succ]); (try simp only [List.set_cons_zero])
    refine r_flt RB_refl 2 31 #[true, true, true, false, false, false, false, false, false, false] (by simp only [List.getElem?_toArray, List.getElem?_cons_succ, List.getElem?_cons_zero]; rfl) (by rfl) (by kernel_rfl) (by kernel_rfl) (by kernel_rfl) (fun _ _ _ _ h => h) rfl (by rfl) ?_
    apply Exists.intro
    apply And.intro
    · intro W hW
      first | (go_simp; with_reducible rfl) | go_simp
    (try simp only [Act.put, List.setIfInBounds_toArray]); (try simp only [List.set_cons_succ]); (try simp only [List.set_cons_zero])
    refine r_flt RB_refl 3 32 #[true, true, true, true, false, false, false, false, false, false] (by simp only [List.getElem?_toArray, List.getElem?_cons_succ, List.getElem?_cons_zero]; rfl) (by rfl) (by kernel_rfl) (by kernel_rfl) (by kernel_rfl) (fun _ _ _ _ h => h) rfl (by rfl) ?_
    apply Exists.intro
    apply And.intro
    · intro W hW
      exact exec_load_row rfl rfl (B1.below hW) Tryd.underlying24 (by rw [q1]; exact infoEn7)
    (try simp only [Act.put, List.setIfInBounds_toArray]); (try simp only [List.set_cons_succ]); (try simp only [List.set_cons_zero])
    refine r_flt RB_refl 6 35 #[true, true, true, true, false, false, true, false, false, false] (by simp only [List.getElem?_toArray, List.getElem?_cons_succ, List.getElem?_cons_zero]; rfl) (by rfl) (by kernel_rfl) (by kernel_rfl) (by kernel_rfl) (fun _ _ _ _ h => h) rfl (by rfl) ?_
    apply Exists.intro
    apply And.intro
    · intro W hW
      first | (go_simp; with_reducible rfl) | go_simp
    (try simp only [Act.put, List.setIfInBounds_toArray]); (try simp only [List.set_cons_succ]); (try simp only [List.set_cons_zero])
    refine r_flt RB_refl 7 36 #[true, true, true, true, false, false, true, true, false, false] (by simp only [List.getElem?_toArray, List.getElem?_cons_succ, List.getElem?_cons_zero]; rfl) (by rfl) (by kernel_rfl) (by kernel_rfl) (by kernel_rfl) (fun _ _ _ _ h => h) rfl (by rfl) ?_
    apply Exists.intro
    apply And.intro
    · intro W hW
      have s := str_rd (n := b.length) (c := c0) (r.below hW) rfl
      go_simp; rfl
    (try simp only [Act.put, List.setIfInBounds_toArray]); (try simp only [List.set_cons_succ]); (try simp only [List.set_cons_zero])
    refine r_one RB_trans 4 (by kernel_rfl) ?_
    refine alt_call 33 #[true, true, true, true, true, false, true, true, false, false] (by simp only [List.getElem?_toArray, List.getElem?_cons_succ, List.getElem?_cons_zero]; rfl) (by rfl) rfl (by rfl) (by go_simp; first | exact ⟨rfl, rfl⟩ | rfl) ?_
    with_reducible refine (HX _ y1 ht).mono ?_
    rintro e1 w3 ⟨v3, rfl, o3, b1⟩
    obtain ⟨A3, n3, c3, rfl, E3, l3, m3⟩ := OwnB.form' o3
    refine ⟨_, rfl, b1, ?_⟩
    have hB := hB.below b1
    have hy := hy.below b1
    have ht := ht.below b1
    have r := r.below b1
    have B1 := B1.below b1
    have y1 := y1.below b1
    have bb := bb.thenB' b1
    clear b1
    (try simp only [Act.put, List.setIfInBounds_toArray]); (try simp only [List.set_cons_succ]); (try simp only [List.set_cons_zero])
    refine r_flt RB_refl 5 34 #[true, true, true, true, true, true, true, true, false, false] (by simp only [List.getElem?_toArray, List.getElem?_cons_succ, List.getElem?_cons_zero]; rfl) (by rfl) (by kernel_rfl) (by kernel_rfl) (by kernel_rfl) (fun _ _ _ _ h => h) rfl (by rfl) ?_
    apply Exists.intro
    apply And.intro
    · intro W hW
      have s := str_inB o3 E3.out hW
      go_simp; rfl
    (try simp only [Act.put, List.setIfInBounds_toArray]); (try simp only [List.set_cons_succ]); (try simp only [List.set_cons_zero])
    refine r_flt RB_refl 8 37 #[true, true, true, true, true, true, true, true, true, false] (by simp only [List.getElem?_toArray, List.getElem?_cons_succ, List.getElem?_cons_zero]; rfl) (by rfl) (by kernel_rfl) (by kernel_rfl) (by kernel_rfl) (fun _ _ _ _ h => h) rfl (by rfl) ?_
    apply Exists.intro
    apply And.intro
    · intro W hW
      first | (go_simp; with_reducible rfl) | go_simp
    (try simp only [Act.put, List.setIfInBounds_toArray]); (try simp only [List.set_cons_succ]); (try simp only [List.set_cons_zero])
    refine r_flt RB_refl 9 38 #[true, true, true, true, true, true, true, true, true, true] (by simp only [List.getElem?_toArray, List.getElem?_cons_succ, List.getElem?_cons_zero]; rfl) (by rfl) (by kernel_rfl) (by kernel_rfl) (by kernel_rfl) (fun _ _ _ _ h => h) rfl (by rfl) ?_
    apply Exists.intro
    apply And.intro
    · intro W hW
      first | (go_simp; with_reducible rfl) | go_simp
    (try simp only [Act.put, List.setIfInBounds_toArray]); (try simp only [List.set_cons_succ]); (try simp only [List.set_cons_zero])
    refine r_done (by kernel_rfl) ?_
    go_wp2_with first
      | (with_reducible show wpList _ _ _ _ _ _
         refine wpList_load_row rfl 24 (.tmp 2) rfl w.heap.size rfl 24 cs (0, 0) _ hB Tryd.underlying24 rfl (by rw [q0]; exact infoEn7) ?_)
    clear HX y1 B1 o3
    refine (HP _ hy ht).mono ?_
    rintro e1 w4 ⟨v4, rfl, o4, b1⟩
    obtain ⟨A4, n4, c4, rfl, E4, l4, m4⟩ := OwnB.form' o4
    have hB := hB.below b1
    have hy := hy.below b1
    have ht := ht.below b1
    have bb := bb.thenB' b1
    clear b1
    have R4 := o4.rd'
    go_wp2_with first
      | (with_reducible show wpList _ _ _ _ _ _
         refine wpList_load_row rfl 24 (.tmp 2) rfl w.heap.size rfl 24 cs (0, 0) _ hB Tryd.underlying24 rfl (by rw [q0]; exact infoEn7) ?_)
    refine (hy.check).mono ?_
    rintro e1 w5 ⟨rfl, b1⟩
    have b5 := b1
    have hB := hB.below b1
    have hy := hy.below b1
    have ht := ht.below b1
    have o4 := OwnB.below o4 b1
    have bb := bb.thenB' b1
    clear b1
    have R4x := R4.below b5
    cases hm : mayE e
    focus
      have hn : n4 = 0 := by rw [E4.out, HN.out hm]; rfl
      subst hn
      dsimp only [errE]
      go_wp2_with fail
      go_ret
      exact ⟨rfl, bb⟩
    have hE := HY.out hm
    have hl2 : cl.data.length ≤ big := by have := hE.2.2.2.2; unfold big; omega
    have hlp : pe.length ≤ 1000000 := by have := hE.2.2.2.1; omega
    have HV := fun W r (ht : T7 W) => unpack_y (D := fun b => w3.heap.size ≤ b ∧ b < w4.heap.size) (A := A4) (c := c4) (b := pe) (w := W) r hlp (by rw [← E4.out]; exact l4) m4 ht
    rw [hE.1, ← E4.out] at HV
    have HD := fun W (hy : EnY W (.agg cs) e) (ht : T7 W) => hy.clean hl ht
    have HG := fun W x (y : EnY W x cl) (ht : T7 W) => y.clean hl2 ht
    have HH := fun W x (y : EnY W x cl) => y.check
    have HI := fun W x (y : EnY W x cl) (ht : T7 W) => y.pack hl2 ht
    rw [HC.out] at HD
    rw [hE.2.1] at HG
    rw [hE.2.2.1, show errE true = 0 from rfl] at HH
    rw [HCP.out] at HI
    have R4 : RdB w5 (fun b => w3.heap.size ≤ b ∧ b < w4.heap.size) A4 pe := R4x
    dsimp only [errE]
    go_wp2_with fail
    refine (HV _ R4 ht).mono ?_
    rintro e1 w6 ⟨v5, rfl, y5, b1⟩
    have hB := hB.below b1
    have hy := hy.below b1
    have ht := ht.below b1
    have o4 := OwnB.below o4 b1
    have bb := bb.thenB' b1
    clear b1
    obtain ⟨cs5, rfl, q5, a5⟩ := y5.agg
    have hz5 := Blk.new w6 24 z7
    unfold z7 at hz5
    go_wp2_with first
      | (with_reducible show wpList _ _ _ _ _ _
         refine wpList_rowB rfl 24 (.tmp 9) (.tmp 50) rfl w6.heap.size 24 _ cs5 rfl rfl hz5 (by rw [q5]; exact infoEn7) (by rw [q5]; rfl) a5 ?_
         intro z5 B5 m5
         have b1 := new7 m5
         have hB := hB.below b1
         have hy := hy.below b1
         have ht := ht.below b1
         have y5 := y5.below b1
         have o4 := OwnB.below o4 b1
         have bb := bb.thenB' b1
         clear b1 m5 hz5 a5)
      | (with_reducible show wpList _ _ _ _ _ _
         refine wpList_load_row rfl 24 (.tmp 2) rfl w.heap.size rfl 24 cs (0, 0) _ hB Tryd.underlying24 rfl (by rw [q0]; exact infoEn7) ?_)
    refine (HD _ hy ht).mono ?_
    rintro e1 w7 ⟨v6, rfl, y6, b1⟩
    have hB := hB.below b1
    have hy := hy.below b1
    have ht := ht.below b1
    have B5 := B5.below b1
    have y5 := y5.below b1
    have o4 := OwnB.below o4 b1
    have bb := bb.thenB' b1
    clear b1
    obtain ⟨cs6, rfl, q6, a6⟩ := y6.agg
    have hz6 := Blk.new w7 24 z7
    unfold z7 at hz6
    go_wp2_with first
      | (with_reducible show wpList _ _ _ _ _ _
         refine wpList_rowB rfl 24 (.tmp 11) (.tmp 53) rfl w7.heap.size 24 _ cs6 rfl rfl hz6 (by rw [q6]; exact infoEn7) (by rw [q6]; rfl) a6 ?_
         intro z6 B6 m6
         have b1 := new7 m6
         have hB := hB.below b1
         have hy := hy.below b1
         have ht := ht.below b1
         have B5 := B5.below b1
         have y5 := y5.below b1
         have y6 := y6.below b1
         have o4 := OwnB.below o4 b1
         have bb := bb.thenB' b1
         clear b1 m6 hz6 a6)
    refine r_start (R := RB) (by rfl) (n := 27) (L := #[false, false, false, false, false, false, false, false, false, false, false, false, false, false, false, false, false, false, false, false, false, false, false, false, false, false, false]) rfl rfl ?_
    have b1 : Below z6.heap.size z6 z6.drew := (Below.refl _ _).drew
    have hB := hB.below b1
    have hy := hy.below b1
    have ht := ht.below b1
    have B5 := B5.below b1
    have y5 := y5.below b1
    have B6 := B6.below b1
    have y6 := y6.below b1
    have o4 := OwnB.below o4 b1
    have bb := bb.thenB' b1
    generalize z6.drew = wd at *
    clear b1
    refine r_flt RB_refl 0 54 #[true, false, false, false, false, false, false, false, false, false, false, false, false, false, false, false, false, false, false, false, false, false, false, false, false, false, false] (by rfl) (by rfl) (by kernel_rfl) (by kernel_rfl) (by kernel_rfl) (fun _ _ _ _ h => h) rfl (by rfl) ?_
    apply Exists.intro
    apply And.intro
    · intro W hW
      first | (go_simp; with_reducible rfl) | go_simp
    (try simp only [Act.put, List.setIfInBounds_toArray]); (try simp only [List.set_cons_succ]); (try simp only [List.set_cons_zero])
    refine r_flt RB_refl 1 55 #[true, true, false, false, false, false, false, false, false, false, false, false, false, false, false, false, false, false, false, false, false, false, false, false, false, false, false] (by rfl) (by rfl) (by kernel_rfl) (by kernel_rfl) (by kernel_rfl) (fun _ _ _ _ h => h) rfl (by rfl) ?_
    apply Exists.intro
    apply And.intro
    · intro W hW
      first | (go_simp; with_reducible rfl) | go_simp
    (try simp only [Act.put, List.setIfInBounds_toArray]); (try simp only [List.set_cons_succ]); (try simp only [List.set_cons_zero])
    refine r_flt RB_refl 2 56 #[true, true, true, false, false, false, false, false, false, false, false, false, false, false, false, false, false, false, false, false, false, false, false, false, false, false, false] (by rfl) (by rfl) (by kernel_rfl) (by kernel_rfl) (by kernel_rfl) (fun _ _ _ _ h => h) rfl (by rfl) ?_
    apply Exists.intro
    apply And.intro
    · intro W hW
      first | (go_simp; with_reducible rfl) | go_simp
    (try simp only [Act.put, List.setIfInBounds_toArray]); (try simp only [List.set_cons_succ]); (try simp only [List.set_cons_zero])
    refine r_flt RB_refl 3 57 #[true, true, true, true, false, false, false, false, false, false, false, false, false, false, false, false, false, false, false, false, false, false, false, false, false, false, false] (by rfl) (by rfl) (by kernel_rfl) (by kernel_rfl) (by kernel_rfl) (fun _ _ _ _ h => h) rfl (by rfl) ?_
    apply Exists.intro
    apply And.intro
    · intro W hW
      exact exec_load_row rfl rfl (B5.below hW) Tryd.underlying24 (by rw [q5]; exact infoEn7)
    (try simp only [Act.put, List.setIfInBounds_toArray]); (try simp only [List.set_cons_succ]); (try simp only [List.set_cons_zero])
    refine r_flt RB_refl 4 58 #[true, true, true, true, true, false, false, false, false, false, false, false, false, false, false, false, false, false, false, false, false, false, false, false, false, false, false] (by rfl) (by rfl) (by kernel_rfl) (by kernel_rfl) (by kernel_rfl) (fun _ _ _ _ h => h) rfl (by rfl) ?_
    apply Exists.intro
    apply And.intro
    · intro W hW
      exact exec_load_row rfl rfl (B6.below hW) Tryd.underlying24 (by rw [q6]; exact infoEn7)
    (try simp only [Act.put, List.setIfInBounds_toArray]); (try simp only [List.set_cons_succ]); (try simp only [List.set_cons_zero])
    refine r_one RB_trans 5 (by kernel_rfl) ?_
    refine alt_call 59 #[true, true, true, true, true, true, false, false, false, false, false, false, false, false, false, false, false, false, false, false, false, false, false, false, false, false, false] (by rfl) (by rfl) rfl (by rfl) (by go_simp; first | exact ⟨rfl, rfl⟩ | rfl) ?_
    with_reducible refine (y5.same y6).mono ?_
    rintro e1 w8 ⟨rfl, b1⟩
    refine ⟨_, rfl, b1, ?_⟩
    have hB := hB.below b1
    have hy := hy.below b1
    have ht := ht.below b1
    have B5 := B5.below b1
    have y5 := y5.below b1
    have B6 := B6.below b1
    have y6 := y6.below b1
    have o4 := OwnB.below o4 b1
    have bb := bb.thenB' b1
    rw [same_self]
    clear b1
    (try simp only [Act.put, List.setIfInBounds_toArray]); (try simp only [List.set_cons_succ]); (try simp only [List.set_cons_zero])
    refine r_flt RB_refl 6 60 #[true, true, true, true, true, true, true, false, false, false, false, false, false, false, false, false, false, false, false, false, false, false, false, false, false, false, false] (by rfl) (by rfl) (by kernel_rfl) (by kernel_rfl) (by kernel_rfl) (fun _ _ _ _ h => h) rfl (by rfl) ?_
    apply Exists.intro
    apply And.intro
    · intro W hW
      first | (go_simp; with_reducible rfl) | go_simp
    (try simp only [Act.put, List.setIfInBounds_toArray]); (try simp only [List.set_cons_succ]); (try simp only [List.set_cons_zero])
    refine r_flt RB_refl 7 61 #[true, true, true, true, true, true, true, true, false, false, false, false, false, false, false, false, false, false, false, false, false, false, false, false, false, false, false] (by rfl) (by rfl) (by kernel_rfl) (by kernel_rfl) (by kernel_rfl) (fun _ _ _ _ h => h) rfl (by rfl) ?_
    apply Exists.intro
    apply And.intro
    · intro W hW
      first | (go_simp; with_reducible rfl) | go_simp
    (try simp only [Act.put, List.setIfInBounds_toArray]); (try simp only [List.set_cons_succ]); (try simp only [List.set_cons_zero])
    refine r_flt RB_refl 8 62 #[true, true, true, true, true, true, true, true, true, false, false, false, false, false, false, false, false, false, false, false, false, false, false, false, false, false, false] (by rfl) (by rfl) (by kernel_rfl) (by kernel_rfl) (by kernel_rfl) (fun _ _ _ _ h => h) rfl (by rfl) ?_
    apply Exists.intro
    apply And.intro
    · intro W hW
      exact exec_load_row rfl rfl (B6.below hW) Tryd.underlying24 (by rw [q6]; exact infoEn7)
    (try simp only [Act.put, List.setIfInBounds_toArray]); (try simp only [List.set_cons_succ]); (try simp only [List.set_cons_zero])
    refine r_flt RB_refl 10 64 #[true, true, true, true, true, true, true, true, true, false, true, false, false, false, false, false, false, false, false, false, false, false, false, false, false, false, false] (by rfl) (by rfl) (by kernel_rfl) (by kernel_rfl) (by kernel_rfl) (fun _ _ _ _ h => h) rfl (by rfl) ?_
    apply Exists.intro
    apply And.intro
    · intro W hW
      exact exec_load_row rfl rfl (B6.below hW) Tryd.underlying24 (by rw [q6]; exact infoEn7)
    (try simp only [Act.put, List.setIfInBounds_toArray]); (try simp only [List.set_cons_succ]); (try simp only [List.set_cons_zero])
    refine r_one RB_trans 9 (by kernel_rfl) ?_
    refine alt_call 63 #[true, true, true, true, true, true, true, true, true, true, true, false, false, false, false, false, false, false, false, false, false, false, false, false, false, false, false] (by rfl) (by rfl) rfl (by rfl) (by go_simp; first | exact ⟨rfl, rfl⟩ | rfl) ?_
    with_reducible refine (HG _ _ y6 ht).mono ?_
    rintro e1 w9 ⟨v7, rfl, y7, b1⟩
    refine ⟨_, rfl, b1, ?_⟩
    have hB := hB.below b1
    have hy := hy.below b1
    have ht := ht.below b1
    have B5 := B5.below b1
    have y5 := y5.below b1
    have B6 := B6.below b1
    have y6 := y6.below b1
    have o4 := OwnB.below o4 b1
    have bb := bb.thenB' b1
    clear b1
    (try simp only [Act.put, List.setIfInBounds_toArray]); (try simp only [List.set_cons_succ]); (try simp only [List.set_cons_zero])
    refine r_one RB_trans 11 (by kernel_rfl) ?_
    refine alt_call 65 #[true, true, true, true, true, true, true, true, true, true, true, true, false, false, false, false, false, false, false, false, false, false, false, false, false, false, false] (by rfl) (by rfl) rfl (by rfl) (by go_simp; first | exact ⟨rfl, rfl⟩ | rfl) ?_
    with_reducible refine (y7.same y6).mono ?_
    rintro e1 w10 ⟨rfl, b1⟩
    refine ⟨_, rfl, b1, ?_⟩
    have hB := hB.below b1
    have hy := hy.below b1
    have ht := ht.below b1
    have B5 := B5.below b1
    have y5 := y5.below b1
    have B6 := B6.below b1
    have y6 := y6.below b1
    have o4 := OwnB.below o4 b1
    have bb := bb.thenB' b1
    rw [same_self]
    clear b1
    (try simp only [Act.put, List.setIfInBounds_toArray]); (try simp only [List.set_cons_succ]); (try simp only [List.set_cons_zero])
    refine r_flt RB_refl 12 66 #[true, true, true, true, true, true, true, true, true, true, true, true, true, false, false, false, false, false, false, false, false, false, false, false, false, false, false] (by rfl) (by rfl) (by kernel_rfl) (by kernel_rfl) (by kernel_rfl) (fun _ _ _ _ h => h) rfl (by rfl) ?_
    apply Exists.intro
    apply And.intro
    · intro W hW
      first | (go_simp; with_reducible rfl) | go_simp
    (try simp only [Act.put, List.setIfInBounds_toArray]); (try simp only [List.set_cons_succ]); (try simp only [List.set_cons_zero])
    refine r_flt RB_refl 13 67 #[true, true, true, true, true, true, true, true, true, true, true, true, true, true, false, false, false, false, false, false, false, false, false, false, false, false, false] (by rfl) (by rfl) (by kernel_rfl) (by kernel_rfl) (by kernel_rfl) (fun _ _ _ _ h => h) rfl (by rfl) ?_
    apply Exists.intro
    apply And.intro
    · intro W hW
      first | (go_simp; with_reducible rfl) | go_simp
    (try simp only [Act.put, List.setIfInBounds_toArray]); (try simp only [List.set_cons_succ]); (try simp only [List.set_cons_zero])
    refine r_flt RB_refl 14 68 #[true, true, true, true, true, true, true, true, true, true, true, true, true, true, true, false, false, false, false, false, false, false, false, false, false, false, false] (by rfl) (by rfl) (by kernel_rfl) (by kernel_rfl) (by kernel_rfl) (fun _ _ _ _ h => h) rfl (by rfl) ?_
    apply Exists.intro
    apply And.intro
    · intro W hW
      exact exec_load_row rfl rfl (B6.below hW) Tryd.underlying24 (by rw [q6]; exact infoEn7)
    (try simp only [Act.put, List.setIfInBounds_toArray]); (try simp only [List.set_cons_succ]); (try simp only [List.set_cons_zero])
    refine r_one RB_trans 15 (by kernel_rfl) ?_
    refine alt_call 69 #[true, true, true, true, true, true, true, true, true, true, true, true, true, true, true, true, false, false, false, false, false, false, false, false, false, false, false] (by rfl) (by rfl) rfl (by rfl) (by go_simp; first | exact ⟨rfl, rfl⟩ | rfl) ?_
    with_reducible refine (HH _ _ y6).mono ?_
    rintro e1 w11 ⟨rfl, b1⟩
    refine ⟨_, rfl, b1, ?_⟩
    have hB := hB.below b1
    have hy := hy.below b1
    have ht := ht.below b1
    have B5 := B5.below b1
    have y5 := y5.below b1
    have B6 := B6.below b1
    have y6 := y6.below b1
    have o4 := OwnB.below o4 b1
    have bb := bb.thenB' b1
    clear b1
    (try simp only [Act.put, List.setIfInBounds_toArray]); (try simp only [List.set_cons_succ]); (try simp only [List.set_cons_zero])
    refine r_flt RB_refl 16 70 #[true, true, true, true, true, true, true, true, true, true, true, true, true, true, true, true, true, false, false, false, false, false, false, false, false, false, false] (by rfl) (by rfl) (by kernel_rfl) (by kernel_rfl) (by kernel_rfl) (fun _ _ _ _ h => h) rfl (by rfl) ?_
    apply Exists.intro
    apply And.intro
    · intro W hW
      first | (go_simp; with_reducible rfl) | go_simp
    (try simp only [Act.put, List.setIfInBounds_toArray]); (try simp only [List.set_cons_succ]); (try simp only [List.set_cons_zero])
    refine r_flt RB_refl 17 71 #[true, true, true, true, true, true, true, true, true, true, true, true, true, true, true, true, true, true, false, false, false, false, false, false, false, false, false] (by rfl) (by rfl) (by kernel_rfl) (by kernel_rfl) (by kernel_rfl) (fun _ _ _ _ h => h) rfl (by rfl) ?_
    apply Exists.intro
    apply And.intro
    · intro W hW
      first | (go_simp; with_reducible rfl) | go_simp
    (try simp only [Act.put, List.setIfInBounds_toArray]); (try simp only [List.set_cons_succ]); (try simp only [List.set_cons_zero])
    refine r_flt RB_refl 18 72 #[true, true, true, true, true, true, true, true, true, true, true, true, true, true, true, true, true, true, true, false, false, false, false, false, false, false, false] (by rfl) (by rfl) (by kernel_rfl) (by kernel_rfl) (by kernel_rfl) (fun _ _ _ _ h => h) rfl (by rfl) ?_
    apply Exists.intro
    apply And.intro
    · intro W hW
      first | (go_simp; with_reducible rfl) | go_simp
    (try simp only [Act.put, List.setIfInBounds_toArray]); (try simp only [List.set_cons_succ]); (try simp only [List.set_cons_zero])
    refine r_flt RB_refl 19 73 #[true, true, true, true, true, true, true, true, true, true, true, true, true, true, true, true, true, true, true, true, false, false, false, false, false, false, false] (by rfl) (by rfl) (by kernel_rfl) (by kernel_rfl) (by kernel_rfl) (fun _ _ _ _ h => h) rfl (by rfl) ?_
    apply Exists.intro
    apply And.intro
    · intro W hW
      exact exec_load_row rfl rfl (B6.below hW) Tryd.underlying24 (by rw [q6]; exact infoEn7)
    (try simp only [Act.put, List.setIfInBounds_toArray]); (try simp only [List.set_cons_succ]); (try simp only [List.set_cons_zero])
    refine r_flt RB_refl 22 76 #[true, true, true, true, true, true, true, true, true, true, true, true, true, true, true, true, true, true, true, true, false, false, true, false, false, false, false] (by rfl) (by rfl) (by kernel_rfl) (by kernel_rfl) (by kernel_rfl) (fun _ _ _ _ h => h) rfl (by rfl) ?_
    apply Exists.intro
    apply And.intro
    · intro W hW
      first | (go_simp; with_reducible rfl) | go_simp
    (try simp only [Act.put, List.setIfInBounds_toArray]); (try simp only [List.set_cons_succ]); (try simp only [List.set_cons_zero])
    refine r_flt RB_refl 23 77 #[true, true, true, true, true, true, true, true, true, true, true, true, true, true, true, true, true, true, true, true, false, false, true, true, false, false, false] (by rfl) (by rfl) (by kernel_rfl) (by kernel_rfl) (by kernel_rfl) (fun _ _ _ _ h => h) rfl (by rfl) ?_
    apply Exists.intro
    apply And.intro
    · intro W hW
      have s := str_inB o4 E4.out hW
      go_simp; rfl
    (try simp only [Act.put, List.setIfInBounds_toArray]); (try simp only [List.set_cons_succ]); (try simp only [List.set_cons_zero])
    refine r_one RB_trans 20 (by kernel_rfl) ?_
    refine alt_call 74 #[true, true, true, true, true, true, true, true, true, true, true, true, true, true, true, true, true, true, true, true, true, false, true, true, false, false, false] (by rfl) (by rfl) rfl (by rfl) (by go_simp; first | exact ⟨rfl, rfl⟩ | rfl) ?_
    with_reducible refine (HI _ _ y6 ht).mono ?_
    rintro e1 w12 ⟨v8, rfl, o8, b1⟩
    obtain ⟨A8, n8, c8, rfl, E8, l8, m8⟩ := OwnB.form' o8
    refine ⟨_, rfl, b1, ?_⟩
    have hB := hB.below b1
    have hy := hy.below b1
    have ht := ht.below b1
    have B5 := B5.below b1
    have y5 := y5.below b1
    have B6 := B6.below b1
    have y6 := y6.below b1
    have o4 := OwnB.below o4 b1
    have bb := bb.thenB' b1
    clear b1
    (try simp only [Act.put, List.setIfInBounds_toArray]); (try simp only [List.set_cons_succ]); (try simp only [List.set_cons_zero])
    refine r_flt RB_refl 21 75 #[true, true, true, true, true, true, true, true, true, true, true, true, true, true, true, true, true, true, true, true, true, true, true, true, false, false, false] (by rfl) (by rfl) (by kernel_rfl) (by kernel_rfl) (by kernel_rfl) (fun _ _ _ _ h => h) rfl (by rfl) ?_
    apply Exists.intro
    apply And.intro
    · intro W hW
      have s := str_inB o8 E8.out hW
      go_simp; rfl
    (try simp only [Act.put, List.setIfInBounds_toArray]); (try simp only [List.set_cons_succ]); (try simp only [List.set_cons_zero])
    refine r_flt RB_refl 24 78 #[true, true, true, true, true, true, true, true, true, true, true, true, true, true, true, true, true, true, true, true, true, true, true, true, true, false, false] (by rfl) (by rfl) (by kernel_rfl) (by kernel_rfl) (by kernel_rfl) (fun _ _ _ _ h => h) rfl (by rfl) ?_
    apply Exists.intro
    apply And.intro
    · intro W hW
      first | (go_simp; with_reducible rfl) | go_simp
    (try simp only [Act.put, List.setIfInBounds_toArray]); (try simp only [List.set_cons_succ]); (try simp only [List.set_cons_zero])
    refine r_flt RB_refl 25 79 #[true, true, true, true, true, true, true, true, true, true, true, true, true, true, true, true, true, true, true, true, true, true, true, true, true, true, false] (by rfl) (by rfl) (by kernel_rfl) (by kernel_rfl) (by kernel_rfl) (fun _ _ _ _ h => h) rfl (by rfl) ?_
    apply Exists.intro
    apply And.intro
    · intro W hW
      first | (go_simp; with_reducible rfl) | go_simp
    (try simp only [Act.put, List.setIfInBounds_toArray]); (try simp only [List.set_cons_succ]); (try simp only [List.set_cons_zero])
    refine r_flt RB_refl 26 4 #[true, true, true, true, true, true, true, true, true, true, true, true, true, true, true, true, true, true, true, true, true, true, true, true, true, true, true] (by rfl) (by rfl) (by kernel_rfl) (by kernel_rfl) (by kernel_rfl) (fun _ _ _ _ h => h) rfl (by rfl) ?_
    apply Exists.intro
    apply And.intro
    · intro W hW
      first | (go_simp; with_reducible rfl) | go_simp
    (try simp only [Act.put, List.setIfInBounds_toArray]); (try simp only [List.set_cons_succ]); (try simp only [List.set_cons_zero])
    refine r_done (by kernel_rfl) ?_
    go_wp2_with fail
    go_ret
    exact ⟨rfl, bb⟩
  have hfb : (ub.2 == 0) = false := by simp [hf]
  refine r_start (R := RB) (by rfl) (n := 10) (L := #[false, false, false, false, false, false, false, false, false, false]) rfl rfl ?_
  have b1 : Below z1.heap.size z1 z1.drew := (Below.refl _ _).drew
  have hB := hB.below b1
  have hy := hy.below b1
  have ht := ht.below b1
  have r := r.below b1
  have bb := bb.thenB' b1
  generalize z1.drew = wd at *
  clear b1
  refine r_flt RB_refl 0 29 #[true, false, false, false, false, false, false, false, false, false] (by simp only [List.getElem?_toArray, List.getElem?_cons_zero]; rfl) (by rfl) (by kernel_rfl) (by kernel_rfl) (by kernel_rfl) (fun _ _ _ _ h => h) rfl (by rfl) ?_
  apply Exists.intro
  apply And.intro
  · intro W hW
    first | (go_simp; with_reducible rfl) | go_simp
  (try simp only [Act.put, List.setIfInBounds_toArray]); (try simp only [List.set_cons_succ]); (try simp only [List.set_cons_zero])
  refine r_flt RB_refl 1 30 #[true, true, false, false, false, false, false, false, false, false] (by simp only [List.getElem?_toArray, List.getElem?_cons_succ, List.getElem?_cons_zero]; rfl) (by rfl) (by kernel_rfl) (by kernel_rfl) (by kernel_rfl) (fun _ _ _ _ h => h) rfl (by rfl) ?_
  apply Exists.intro
  apply And.intro
  · intro W hW
    first | (go_simp; with_reducible rfl) | go_simp
  (try simp only [Act.put, List.setIfInBounds_toArray]); (try simp only [List.set_cons_succ]); (try simp only [List.set_cons_zero])
  refine r_flt RB_refl 2 31 #[true, true, true, false, false, false, false, false, false, false] (by simp only [List.getElem?_toArray, List.getElem?_cons_succ, List.getElem?_cons_zero]; rfl) (by rfl) (by kernel_rfl) (by kernel_rfl) (by kernel_rfl) (fun _ _ _ _ h => h) rfl (by rfl) ?_
  apply Exists.intro
  apply And.intro
  · intro W hW
    first | (go_simp; with_reducible rfl) | go_simp
  (try simp only [Act.put, List.setIfInBounds_toArray]); (try simp only [List.set_cons_succ]); (try simp only [List.set_cons_zero])
  refine r_skip RB_refl 3 32 #[true, true, true, true, false, false, false, false, false, false] (by simp only [List.getElem?_toArray, List.getElem?_cons_succ, List.getElem?_cons_zero]; rfl) (by rfl) (by kernel_rfl) (by kernel_rfl) (by kernel_rfl) (fun _ _ _ _ h => h) rfl (by rfl) ?_
  (try simp only [Act.put, List.setIfInBounds_toArray]); (try simp only [List.set_cons_succ]); (try simp only [List.set_cons_zero])
  refine r_skip RB_refl 4 33 #[true, true, true, true, true, false, false, false, false, false] (by simp only [List.getElem?_toArray, List.getElem?_cons_succ, List.getElem?_cons_zero]; rfl) (by rfl) (by kernel_rfl) (by kernel_rfl) (by kernel_rfl) (fun _ _ _ _ h => h) rfl (by rfl) ?_
  (try simp only [Act.put, List.setIfInBounds_toArray]); (try simp only [List.set_cons_succ]); (try simp only [List.set_cons_zero])
  refine r_skip RB_refl 5 34 #[true, true, true, true, true, true, false, false, false, false] (by simp only [List.getElem?_toArray, List.getElem?_cons_succ, List.getElem?_cons_zero]; rfl) (by rfl) (by kernel_rfl) (by kernel_rfl) (by kernel_rfl) (fun _ _ _ _ h => h) rfl (by rfl) ?_
  (try simp only [Act.put, List.setIfInBounds_toArray]); (try simp only [List.set_cons_succ]); (try simp only [List.set_cons_zero])
  refine r_skip RB_refl 6 35 #[true, true, true, true, true, true, true, false, false, false] (by simp only [List.getElem?_toArray, List.getElem?_cons_succ, List.getElem?_cons_zero]; rfl) (by rfl) (by kernel_rfl) (by kernel_rfl) (by kernel_rfl) (fun _ _ _ _ h => h) rfl (by rfl) ?_
  (try simp only [Act.put, List.setIfInBounds_toArray]); (try simp only [List.set_cons_succ]); (try simp only [List.set_cons_zero])
  refine r_skip RB_refl 7 36 #[true, true, true, true, true, true, true, true, false, false] (by simp only [List.getElem?_toArray, List.getElem?_cons_succ, List.getElem?_cons_zero]; rfl) (by rfl) (by kernel_rfl) (by kernel_rfl) (by kernel_rfl) (fun _ _ _ _ h => h) rfl (by rfl) ?_
  (try simp only [Act.put, List.setIfInBounds_toArray]); (try simp only [List.set_cons_succ]); (try simp only [List.set_cons_zero])
  refine r_skip RB_refl 8 37 #[true, true, true, true, true, true, true, true, true, false] (by simp only [List.getElem?_toArray, List.getElem?_cons_succ, List.getElem?_cons_zero]; rfl) (by rfl) (by kernel_rfl) (by kernel_rfl) (by kernel_rfl) (fun _ _ _ _ h => h) rfl (by rfl) ?_
  (try simp only [Act.put, List.setIfInBounds_toArray]); (try simp only [List.set_cons_succ]); (try simp only [List.set_cons_zero])
  refine r_flt RB_refl 9 38 #[true, true, true, true, true, true, true, true, true, true] (by simp only [List.getElem?_toArray, List.getElem?_cons_succ, List.getElem?_cons_zero]; rfl) (by rfl) (by kernel_rfl) (by kernel_rfl) (by kernel_rfl) (fun _ _ _ _ h => h) rfl (by rfl) ?_
  apply Exists.intro
  apply And.intro
  · intro W hW
    first | (go_simp; with_reducible rfl) | go_simp
  (try simp only [Act.put, List.setIfInBounds_toArray]); (try simp only [List.set_cons_succ]); (try simp only [List.set_cons_zero])
  refine r_done (by kernel_rfl) ?_
  go_wp2_with first
    | (with_reducible show wpList _ _ _ _ _ _
       refine wpList_load_row rfl 24 (.tmp 2) rfl w.heap.size rfl 24 cs (0, 0) _ hB Tryd.underlying24 rfl (by rw [q0]; exact infoEn7) ?_)
  clear y1 B1
  refine (HP _ hy ht).mono ?_
  rintro e1 w4 ⟨v4, rfl, o4, b1⟩
  obtain ⟨A4, n4, c4, rfl, E4, l4, m4⟩ := OwnB.form' o4
  have hB := hB.below b1
  have hy := hy.below b1
  have ht := ht.below b1
  have bb := bb.thenB' b1
  clear b1
  have R4 := o4.rd'
  go_wp2_with first
    | (with_reducible show wpList _ _ _ _ _ _
       refine wpList_load_row rfl 24 (.tmp 2) rfl w.heap.size rfl 24 cs (0, 0) _ hB Tryd.underlying24 rfl (by rw [q0]; exact infoEn7) ?_)
  refine (hy.check).mono ?_
  rintro e1 w5 ⟨rfl, b1⟩
  have b5 := b1
  have hB := hB.below b1
  have hy := hy.below b1
  have ht := ht.below b1
  have o4 := OwnB.below o4 b1
  have bb := bb.thenB' b1
  clear b1
  have R4x := R4.below b5
  cases hm : mayE e
  focus
    have hn : n4 = 0 := by rw [E4.out, HN.out hm]; rfl
    subst hn
    dsimp only [errE]
    go_wp2_with fail
    go_ret
    exact ⟨rfl, bb⟩
  have hE := HY.out hm
  have hl2 : cl.data.length ≤ big := by have := hE.2.2.2.2; unfold big; omega
  have hlp : pe.length ≤ 1000000 := by have := hE.2.2.2.1; omega
  have HV := fun W r (ht : T7 W) => unpack_y (D := fun b => wd.heap.size ≤ b ∧ b < w4.heap.size) (A := A4) (c := c4) (b := pe) (w := W) r hlp (by rw [← E4.out]; exact l4) m4 ht
  rw [hE.1, ← E4.out] at HV
  have HD := fun W (hy : EnY W (.agg cs) e) (ht : T7 W) => hy.clean hl ht
  have HG := fun W x (y : EnY W x cl) (ht : T7 W) => y.clean hl2 ht
  have HH := fun W x (y : EnY W x cl) => y.check
  have HI := fun W x (y : EnY W x cl) (ht : T7 W) => y.pack hl2 ht
  rw [HC.out] at HD
  rw [hE.2.1] at HG
  rw [hE.2.2.1, show errE true = 0 from rfl] at HH
  rw [HCP.out] at HI
  have R4 : RdB w5 (fun b => wd.heap.size ≤ b ∧ b < w4.heap.size) A4 pe := R4x
  dsimp only [errE]
  go_wp2_with fail
  refine (HV _ R4 ht).mono ?_
  rintro e1 w6 ⟨v5, rfl, y5, b1⟩
  have hB := hB.below b1
  have hy := hy.below b1
  have ht := ht.below b1
  have o4 := OwnB.below o4 b1
  have bb := bb.thenB' b1
  clear b1
  obtain ⟨cs5, rfl, q5, a5⟩ := y5.agg
  have hz5 := Blk.new w6 24 z7
  unfold z7 at hz5
  go_wp2_with first
    | (with_reducible show wpList _ _ _ _ _ _
       refine wpList_rowB rfl 24 (.tmp 9) (.tmp 50) rfl w6.heap.size 24 _ cs5 rfl rfl hz5 (by rw [q5]; exact infoEn7) (by rw [q5]; rfl) a5 ?_
       intro z5 B5 m5
       have b1 := new7 m5
       have hB := hB.below b1
       have hy := hy.below b1
       have ht := ht.below b1
       have y5 := y5.below b1
       have o4 := OwnB.below o4 b1
       have bb := bb.thenB' b1
       clear b1 m5 hz5 a5)
    | (with_reducible show wpList _ _ _ _ _ _
       refine wpList_load_row rfl 24 (.tmp 2) rfl w.heap.size rfl 24 cs (0, 0) _ hB Tryd.underlying24 rfl (by rw [q0]; exact infoEn7) ?_)
  refine (HD _ hy ht).mono ?_
  rintro e1 w7 ⟨v6, rfl, y6, b1⟩
  have hB := hB.below b1
  have hy := hy.below b1
  have ht := ht.below b1
  have B5 := B5.below b1
  have y5 := y5.below b1
  have o4 := OwnB.below o4 b1
  have bb := bb.thenB' b1
  clear b1
  obtain ⟨cs6, rfl, q6, a6⟩ := y6.agg
  have hz6 := Blk.new w7 24 z7
  unfold z7 at hz6
  go_wp2_with first
    | (with_reducible show wpList _ _ _ _ _ _
       refine wpList_rowB rfl 24 (.tmp 11) (.tmp 53) rfl w7.heap.size 24 _ cs6 rfl rfl hz6 (by rw [q6]; exact infoEn7) (by rw [q6]; rfl) a6 ?_
       intro z6 B6 m6
       have b1 := new7 m6
       have hB := hB.below b1
       have hy := hy.below b1
       have ht := ht.below b1
       have B5 := B5.below b1
       have y5 := y5.below b1
       have y6 := y6.below b1
       have o4 := OwnB.below o4 b1
       have bb := bb.thenB' b1
       clear b1 m6 hz6 a6)
  refine r_start (R := RB) (by rfl) (n := 27) (L := #[false, false, false, false, false, false, false, false, false, false, false, false, false, false, false, false, false, false, false, false, false, false, false, false, false, false, false]) rfl rfl ?_
  have b1 : Below z6.heap.size z6 z6.drew := (Below.refl _ _).drew
  have hB := hB.below b1
  have hy := hy.below b1
  have ht := ht.below b1
  have B5 := B5.below b1
  have y5 := y5.below b1
  have B6 := B6.below b1
  have y6 := y6.below b1
  have o4 := OwnB.below o4 b1
  have bb := bb.thenB' b1
  generalize z6.drew = wd at *
  clear b1
  refine r_flt RB_refl 0 54 #[true, false, false, false, false, false, false, false, false, false, false, false, false, false, false, false, false, false, false, false, false, false, false, false, false, false, false] (by rfl) (by rfl) (by kernel_rfl) (by kernel_rfl) (by kernel_rfl) (fun _ _ _ _ h => h) rfl (by rfl) ?_
  apply Exists.intro
  apply And.intro
  · intro W hW
    first | (go_simp; with_reducible rfl) | go_simp
  (try simp only [Act.put, List.setIfInBounds_toArray]); (try simp only [List.set_cons_succ]); (try simp only [List.set_cons_zero])
  refine r_flt RB_refl 1 55 #[true, true, false, false, false, false, false, false, false, false, false, false, false, false, false, false, false, false, false, false, false, false, false, false, false, false, false] (by rfl) (by rfl) (by kernel_rfl) (by kernel_rfl) (by kernel_rfl) (fun _ _ _ _ h => h) rfl (by rfl) ?_
  apply Exists.intro
  apply And.intro
  · intro W hW
    first | (go_simp; with_reducible rfl) | go_simp
  (try simp only [Act.put, List.setIfInBounds_toArray]); (try simp only [List.set_cons_succ]); (try simp only [List.set_cons_zero])
  refine r_flt RB_refl 2 56 #[true, true, true, false, false, false, false, false, false, false, false, false, false, false, false, false, false, false, false, false, false, false, false, false, false, false, false] (by rfl) (by rfl) (by kernel_rfl) (by kernel_rfl) (by kernel_rfl) (fun _ _ _ _ h => h) rfl (by rfl) ?_
  apply Exists.intro
  apply And.intro
  · intro W hW
    first | (go_simp; with_reducible rfl) | go_simp
  (try simp only [Act.put, List.setIfInBounds_toArray]); (try simp only [List.set_cons_succ]); (try simp only [List.set_cons_zero])
  refine r_flt RB_refl 3 57 #[true, true, true, true, false, false, false, false, false, false, false, false, false, false, false, false, false, false, false, false, false, false, false, false, false, false, false] (by rfl) (by rfl) (by kernel_rfl) (by kernel_rfl) (by kernel_rfl) (fun _ _ _ _ h => h) rfl (by rfl) ?_
  apply Exists.intro
  apply And.intro
  · intro W hW
    exact exec_load_row rfl rfl (B5.below hW) Tryd.underlying24 (by rw [q5]; exact infoEn7)
  (try simp only [Act.put, List.setIfInBounds_toArray]); (try simp only [List.set_cons_succ]); (try simp only [List.set_cons_zero])
  refine r_flt RB_refl 4 58 #[true, true, true, true, true, false, false, false, false, false, false, false, false, false, false, false, false, false, false, false, false, false, false, false, false, false, false] (by rfl) (by rfl) (by kernel_rfl) (by kernel_rfl) (by kernel_rfl) (fun _ _ _ _ h => h) rfl (by rfl) ?_
  apply Exists.intro
  apply And.intro
  · intro W hW
    exact exec_load_row rfl rfl (B6.below hW) Tryd.underlying24 (by rw [q6]; exact infoEn7)
  (try simp only [Act.put, List.setIfInBounds_toArray]); (try simp only [List.set_cons_succ]); (try simp only [List.set_cons_zero])
  refine r_one RB_trans 5 (by kernel_rfl) ?_
  refine alt_call 59 #[true, true, true, true, true, true, false, false, false, false, false, false, false, false, false, false, false, false, false, false, false, false, false, false, false, false, false] (by rfl) (by rfl) rfl (by rfl) (by go_simp; first | exact ⟨rfl, rfl⟩ | rfl) ?_
  with_reducible refine (y5.same y6).mono ?_
  rintro e1 w8 ⟨rfl, b1⟩
  refine ⟨_, rfl, b1, ?_⟩
  have hB := hB.below b1
  have hy := hy.below b1
  have ht := ht.below b1
  have B5 := B5.below b1
  have y5 := y5.below b1
  have B6 := B6.below b1
  have y6 := y6.below b1
  have o4 := OwnB.below o4 b1
  have bb := bb.thenB' b1
  rw [same_self]
  clear b1
  (try simp only [Act.put, List.setIfInBounds_toArray]); (try simp only [List.set_cons_succ]); (try simp only [List.set_cons_zero])
  refine r_flt RB_refl 6 60 #[true, true, true, true, true, true, true, false, false, false, false, false, false, false, false, false, false, false, false, false, false, false, false, false, false, false, false] (by rfl) (by rfl) (by kernel_rfl) (by kernel_rfl) (by kernel_rfl) (fun _ _ _ _ h => h) rfl (by rfl) ?_
  apply Exists.intro
  apply And.intro
  · intro W hW
    first | (go_simp; with_reducible rfl) | go_simp
  (try simp only [Act.put, List.setIfInBounds_toArray]); (try simp only [List.set_cons_succ]); (try simp only [List.set_cons_zero])
  refine r_flt RB_refl 7 61 #[true, true, true, true, true, true, true, true, false, false, false, false, false, false, false, false, false, false, false, false, false, false, false, false, false, false, false] (by rfl) (by rfl) (by kernel_rfl) (by kernel_rfl) (by kernel_rfl) (fun _ _ _ _ h => h) rfl (by rfl) ?_
  apply Exists.intro
  apply And.intro
  · intro W hW
    first | (go_simp; with_reducible rfl) | go_simp
  (try simp only [Act.put, List.setIfInBounds_toArray]); (try simp only [List.set_cons_succ]); (try simp only [List.set_cons_zero])
  refine r_flt RB_refl 8 62 #[true, true, true, true, true, true, true, true, true, false, false, false, false, false, false, false, false, false, false, false, false, false, false, false, false, false, false] (by rfl) (by rfl) (by kernel_rfl) (by kernel_rfl) (by kernel_rfl) (fun _ _ _ _ h => h) rfl (by rfl) ?_
  apply Exists.intro
  apply And.intro
  · intro W hW
    exact exec_load_row rfl rfl (B6.below hW) Tryd.underlying24 (by rw [q6]; exact infoEn7)
  (try simp only [Act.put, List.setIfInBounds_toArray]); (try simp only [List.set_cons_succ]); (try simp only [List.set_cons_zero])
  refine r_flt RB_refl 10 64 #[true, true, true, true, true, true, true, true, true, false, true, false, false, false, false, false, false, false, false, false, false, false, false, false, false, false, false] (by rfl) (by rfl) (by kernel_rfl) (by kernel_rfl) (by kernel_rfl) (fun _ _ _ _ h => h) rfl (by rfl) ?_
  apply Exists.intro
  apply And.intro
  · intro W hW
    exact exec_load_row rfl rfl (B6.below hW) Tryd.underlying24 (by rw [q6]; exact infoEn7)
  (try simp only [Act.put, List.setIfInBounds_toArray]); (try simp only [List.set_cons_succ]); (try simp only [List.set_cons_zero])
  refine r_one RB_trans 9 (by kernel_rfl) ?_
  refine alt_call 63 #[true, true, true, true, true, true, true, true, true, true, true, false, false, false, false, false, false, false, false, false, false, false, false, false, false, false, false] (by rfl) (by rfl) rfl (by rfl) (by go_simp; first | exact ⟨rfl, rfl⟩ | rfl) ?_
  with_reducible refine (HG _ _ y6 ht).mono ?_
  rintro e1 w9 ⟨v7, rfl, y7, b1⟩
  refine ⟨_, rfl, b1, ?_⟩
  have hB := hB.below b1
  have hy := hy.below b1
  have ht := ht.below b1
  have B5 := B5.below b1
  have y5 := y5.below b1
  have B6 := B6.below b1
  have y6 := y6.below b1
  have o4 := OwnB.below o4 b1
  have bb := bb.thenB' b1
  clear b1
  (try simp only [Act.put, List.setIfInBounds_toArray]); (try simp only [List.set_cons_succ]); (try simp only [List.set_cons_zero])
  refine r_one RB_trans 11 (by kernel_rfl) ?_
  refine alt_call 65 #[true, true, true, true, true, true, true, true, true, true, true, true, false, false, false, false, false, false, false, false, false, false, false, false, false, false, false] (by rfl) (by rfl) rfl (by rfl) (by go_simp; first | exact ⟨rfl, rfl⟩ | rfl) ?_
  with_reducible refine (y7.same y6).mono ?_
  rintro e1 w10 ⟨rfl, b1⟩
  refine ⟨_, rfl, b1, ?_⟩
  have hB := hB.below b1
  have hy := hy.below b1
  have ht := ht.below b1
  have B5 := B5.below b1
  have y5 := y5.below b1
  have B6 := B6.below b1
  have y6 := y6.below b1
  have o4 := OwnB.below o4 b1
  have bb := bb.thenB' b1
  rw [same_self]
  clear b1
  (try simp only [Act.put, List.setIfInBounds_toArray]); (try simp only [List.set_cons_succ]); (try simp only [List.set_cons_zero])
  refine r_flt RB_refl 12 66 #[true, true, true, true, true, true, true, true, true, true, true, true, true, false, false, false, false, false, false, false, false, false, false, false, false, false, false] (by rfl) (by rfl) (by kernel_rfl) (by kernel_rfl) (by kernel_rfl) (fun _ _ _ _ h => h) rfl (by rfl) ?_
  apply Exists.intro
  apply And.intro
  · intro W hW
    first | (go_simp; with_reducible rfl) | go_simp
  (try simp only [Act.put, List.setIfInBounds_toArray]); (try simp only [List.set_cons_succ]); (try simp only [List.set_cons_zero])
  refine r_flt RB_refl 13 67 #[true, true, true, true, true, true, true, true, true, true, true, true, true, true, false, false, false, false, false, false, false, false, false, false, false, false, false] (by rfl) (by rfl) (by kernel_rfl) (by kernel_rfl) (by kernel_rfl) (fun _ _ _ _ h => h) rfl (by rfl) ?_
  apply Exists.intro
  apply And.intro
  · intro W hW
    first | (go_simp; with_reducible rfl) | go_simp
  (try simp only [Act.put, List.setIfInBounds_toArray]); (try simp only [List.set_cons_succ]); (try simp only [List.set_cons_zero])
  refine r_flt RB_refl 14 68 #[true, true, true, true, true, true, true, true, true, true, true, true, true, true, true, false, false, false, false, false, false, false, false, false, false, false, false] (by rfl) (by rfl) (by kernel_rfl) (by kernel_rfl) (by kernel_rfl) (fun _ _ _ _ h => h) rfl (by rfl) ?_
  apply Exists.intro
  apply And.intro
  · intro W hW
    exact exec_load_row rfl rfl (B6.below hW) Tryd.underlying24 (by rw [q6]; exact infoEn7)
  (try simp only [Act.put, List.setIfInBounds_toArray]); (try simp only [List.set_cons_succ]); (try simp only [List.set_cons_zero])
  refine r_one RB_trans 15 (by kernel_rfl) ?_
  refine alt_call 69 #[true, true, true, true, true, true, true, true, true, true, true, true, true, true, true, true, false, false, false, false, false, false, false, false, false, false, false] (by rfl) (by rfl) rfl (by rfl) (by go_simp; first | exact ⟨rfl, rfl⟩ | rfl) ?_
  with_reducible refine (HH _ _ y6).mono ?_
  rintro e1 w11 ⟨rfl, b1⟩
  refine ⟨_, rfl, b1, ?_⟩
  have hB := hB.below b1
  have hy := hy.below b1
  have ht := ht.below b1
  have B5 := B5.below b1
  have y5 := y5.below b1
  have B6 := B6.below b1
  have y6 := y6.below b1
  have o4 := OwnB.below o4 b1
  have bb := bb.thenB' b1
  clear b1
  (try simp only [Act.put, List.setIfInBounds_toArray]); (try simp only [List.set_cons_succ]); (try simp only [List.set_cons_zero])
  refine r_flt RB_refl 16 70 #[true, true, true, true, true, true, true, true, true, true, true, true, true, true, true, true, true, false, false, false, false, false, false, false, false, false, false] (by rfl) (by rfl) (by kernel_rfl) (by kernel_rfl) (by kernel_rfl) (fun _ _ _ _ h => h) rfl (by rfl) ?_
  apply Exists.intro
  apply And.intro
  · intro W hW
    first | (go_simp; with_reducible rfl) | go_simp
  (try simp only [Act.put, List.setIfInBounds_toArray]); (try simp only [List.set_cons_succ]); (try simp only [List.set_cons_zero])
  refine r_flt RB_refl 17 71 #[true, true, true, true, true, true, true, true, true, true, true, true, true, true, true, true, true, true, false, false, false, false, false, false, false, false, false] (by rfl) (by rfl) (by kernel_rfl) (by kernel_rfl) (by kernel_rfl) (fun _ _ _ _ h => h) rfl (by rfl) ?_
  apply Exists.intro
  apply And.intro
  · intro W hW
    first | (go_simp; with_reducible rfl) | go_simp
  (try simp only [Act.put, List.setIfInBounds_toArray]); (try simp only [List.set_cons_succ]); (try simp only [List.set_cons_zero])
  refine r_flt RB_refl 18 72 #[true, true, true, true, true, true, true, true, true, true, true, true, true, true, true, true, true, true, true, false, false, false, false, false, false, false, false] (by rfl) (by rfl) (by kernel_rfl) (by kernel_rfl) (by kernel_rfl) (fun _ _ _ _ h => h) rfl (by rfl) ?_
  apply Exists.intro
  apply And.intro
  · intro W hW
    first | (go_simp; with_reducible rfl) | go_simp
  (try simp only [Act.put, List.setIfInBounds_toArray]); (try simp only [List.set_cons_succ]); (try simp only [List.set_cons_zero])
  refine r_flt RB_refl 19 73 #[true, true, true, true, true, true, true, true, true, true, true, true, true, true, true, true, true, true, true, true, false, false, false, false, false, false, false] (by rfl) (by rfl) (by kernel_rfl) (by kernel_rfl) (by kernel_rfl) (fun _ _ _ _ h => h) rfl (by rfl) ?_
  apply Exists.intro
  apply And.intro
  · intro W hW
    exact exec_load_row rfl rfl (B6.below hW) Tryd.underlying24 (by rw [q6]; exact infoEn7)
  (try simp only [Act.put, List.setIfInBounds_toArray]); (try simp only [List.set_cons_succ]); (try simp only [List.set_cons_zero])
  refine r_flt RB_refl 22 76 #[true, true, true, true, true, true, true, true, true, true, true, true, true, true, true, true, true, true, true, true, false, false, true, false, false, false, false] (by rfl) (by rfl) (by kernel_rfl) (by kernel_rfl) (by kernel_rfl) (fun _ _ _ _ h => h) rfl (by rfl) ?_
  apply Exists.intro
  apply And.intro
  · intro W hW
    first | (go_simp; with_reducible rfl) | go_simp
  (try simp only [Act.put, List.setIfInBounds_toArray]); (try simp only [List.set_cons_succ]); (try simp only [List.set_cons_zero])
  refine r_flt RB_refl 23 77 #[true, true, true, true, true, true, true, true, true, true, true, true, true, true, true, true, true, true, true, true, false, false, true, true, false, false, false] (by rfl) (by rfl) (by kernel_rfl) (by kernel_rfl) (by kernel_rfl) (fun _ _ _ _ h => h) rfl (by rfl) ?_
  apply Exists.intro
  apply And.intro
  · intro W hW
    have s := str_inB o4 E4.out hW
    go_simp; rfl
  (try simp only [Act.put, List.setIfInBounds_toArray]); (try simp only [List.set_cons_succ]); (try simp only [List.set_cons_zero])
  refine r_one RB_trans 20 (by kernel_rfl) ?_
  refine alt_call 74 #[true, true, true, true, true, true, true, true, true, true, true, true, true, true, true, true, true, true, true, true, true, false, true, true, false, false, false] (by rfl) (by rfl) rfl (by rfl) (by go_simp; first | exact ⟨rfl, rfl⟩ | rfl) ?_
  with_reducible refine (HI _ _ y6 ht).mono ?_
  rintro e1 w12 ⟨v8, rfl, o8, b1⟩
  obtain ⟨A8, n8, c8, rfl, E8, l8, m8⟩ := OwnB.form' o8
  refine ⟨_, rfl, b1, ?_⟩
  have hB := hB.below b1
  have hy := hy.below b1
  have ht := ht.below b1
  have B5 := B5.below b1
  have y5 := y5.below b1
  have B6 := B6.below b1
  have y6 := y6.below b1
  have o4 := OwnB.below o4 b1
  have bb := bb.thenB' b1
  clear b1
  (try simp only [Act.put, List.setIfInBounds_toArray]); (try simp only [List.set_cons_succ]); (try simp only [List.set_cons_zero])
  refine r_flt RB_refl 21 75 #[true, true, true, true, true, true, true, true, true, true, true, true, true, true, true, true, true, true, true, true, true, true, true, true, false, false, false] (by rfl) (by rfl) (by kernel_rfl) (by kernel_rfl) (by kernel_rfl) (fun _ _ _ _ h => h) rfl (by rfl) ?_
  apply Exists.intro
  apply And.intro
  · intro W hW
    have s := str_inB o8 E8.out hW
    go_simp; rfl
  (try simp only [Act.put, List.setIfInBounds_toArray]); (try simp only [List.set_cons_succ]); (try simp only [List.set_cons_zero])
  refine r_flt RB_refl 24 78 #[true, true, true, true, true, true, true, true, true, true, true, true, true, true, true, true, true, true, true, true, true, true, true, true, true, false, false] (by rfl) (by rfl) (by kernel_rfl) (by kernel_rfl) (by kernel_rfl) (fun _ _ _ _ h => h) rfl (by rfl) ?_
  apply Exists.intro
  apply And.intro
  · intro W hW
    first | (go_simp; with_reducible rfl) | go_simp
  (try simp only [Act.put, List.setIfInBounds_toArray]); (try simp only [List.set_cons_succ]); (try simp only [List.set_cons_zero])
  refine r_flt RB_refl 25 79 #[true, true, true, true, true, true, true, true, true, true, true, true, true, true, true, true, true, true, true, true, true, true, true, true, true, true, false] (by rfl) (by rfl) (by kernel_rfl) (by kernel_rfl) (by kernel_rfl) (fun _ _ _ _ h => h) rfl (by rfl) ?_
  apply Exists.intro
  apply And.intro
  · intro W hW
    first | (go_simp; with_reducible rfl) | go_simp
  (try simp only [Act.put, List.setIfInBounds_toArray]); (try simp only [List.set_cons_succ]); (try simp only [List.set_cons_zero])
  refine r_flt RB_refl 26 4 #[true, true, true, true, true, true, true, true, true, true, true, true, true, true, true, true, true, true, true, true, true, true, true, true, true, true, true] (by rfl) (by rfl) (by kernel_rfl) (by kernel_rfl) (by kernel_rfl) (fun _ _ _ _ h => h) rfl (by rfl) ?_
  apply Exists.intro
  apply And.intro
  · intro W hW
    first | (go_simp; with_reducible rfl) | go_simp
  (try simp only [Act.put, List.setIfInBounds_toArray]); (try simp only [List.set_cons_succ]); (try simp only [List.set_cons_zero])
  refine r_done (by kernel_rfl) ?_
  go_wp2_with fail
  go_ret
  exact ⟨rfl, bb⟩
end Go.Proofs.YthpmmnpjdpgamaaDoor
