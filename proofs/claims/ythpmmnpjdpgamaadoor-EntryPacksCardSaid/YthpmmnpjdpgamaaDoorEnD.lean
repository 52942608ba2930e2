/- The law EntryPacks: the walk. -/
import Derived.Test.YthpmmnpjdpgamaaDoorEnB
namespace Go.Proofs.YthpmmnpjdpgamaaDoor
open Go.RowKit
set_option linter.unusedVariables false

set_option maxHeartbeats 8000000 in
set_option maxRecDepth 100000 in
theorem packs_walk (e : E7) (v : Value) (D : Nat → Prop) (A0 : Option Addr) (b : List UInt8) (c0 : Nat) (w : World) (hy : EnY w v e) (r : RdB w D A0 b) (lb : b.length ≤ c0) (mx : c0 ≤ 9223372036854775807) (ht : T7 w) :
    Calls Tryd.prog 4 #[v, .slice A0 b.length c0] w fun r w' => r = .returned (.bool true) ∧ Below w.heap.size w w' := by
  obtain ⟨cs, rfl, q0, a0⟩ := hy.agg
  have bb := below_new w (.cells cs 24)
  have hB := Blk.new w 24 cs
  have hy := hy.below bb
  have ht := ht.below bb
  have r := r.below bb
  obtain ⟨A, c, h6, r6, l6, m6⟩ := hy.data
  go_enter Tryd.func4, Tryd.ntmps4
  go_wp2_with fail
  refine (awake_any7 _ ht.1 ht.2.1 ht.2.2).mono ?_
  rintro e1 w1 ⟨rfl, b1⟩
  have hB := hB.below b1
  have hy := hy.below b1
  have ht := ht.below b1
  have r := r.below b1
  have bb := bb.thenB' b1
  have c6 := hB.cell 6
  rw [h6] at c6
  clear b1
  by_cases hl : 1000 < e.data.length
  focus
    go_wp2_with fail
    go_ret
    exact ⟨rfl, bb⟩
  by_cases hlb : 3000 < b.length
  focus
    go_wp2_with fail
    go_ret
    exact ⟨rfl, bb⟩
  have hl : e.data.length ≤ big := by unfold big; omega
  have hlb : b.length ≤ 1000000 := by omega
  clear r6 l6 m6
  have HU := fun W (r : RdB W D A0 b) (ht : T7 W) => unpack_y r hlb lb mx ht
  have HV := fun W (r : RdB W D A0 b) => runpack_y (c := c0) r hlb lb mx
  generalize unpO b = ub at *
  have HP := fun W (hy : EnY W (.agg cs) e) (ht : T7 W) => hy.pack hl ht
  have HQ := fun W (hy : EnY W (.agg cs) e) => hy.rpack
  generalize packO e = pe at *
  go_wp2_with fail
  refine (HU _ r ht).mono ?_
  rintro e1 w2 ⟨v1, rfl, y1, b1⟩
  have hB := hB.below b1
  have hy := hy.below b1
  have ht := ht.below b1
  have r := r.below b1
  have bb := bb.thenB' b1
  clear b1
  obtain ⟨cs1, rfl, q1, a1⟩ := y1.agg
  have hz1 := Blk.new w2 24 z7
  unfold z7 at hz1
  go_wp2_with first
    | (with_reducible show wpList _ _ _ _ _ _
       refine wpList_rowB rfl 24 (.tmp 6) (.tmp 25) rfl w2.heap.size 24 _ cs1 rfl rfl hz1 (by rw [q1]; exact infoEn7) (by rw [q1]; rfl) a1 ?_
       intro z1 B1 m1
       have b1 := new7 m1
       have hB := hB.below b1
       have hy := hy.below b1
       have ht := ht.below b1
       have r := r.below b1
       have y1 := y1.below b1
       have bb := bb.thenB' b1
       clear b1 m1 hz1 a1)
  refine (HV _ r).mono ?_
  rintro e1 w3 ⟨v2, rfl, y2, b1⟩
  have hB := hB.below b1
  have hy := hy.below b1
  have ht := ht.below b1
  have B1 := B1.below b1
  have y1 := y1.below b1
  have bb := bb.thenB' b1
  clear b1
  obtain ⟨cs2, rfl, q2, a2⟩ := y2.agg
  have hz2 := Blk.new w3 24 z7
  unfold z7 at hz2
  go_wp2_with first
    | (with_reducible show wpList _ _ _ _ _ _
       refine wpList_rowB rfl 24 (.tmp 8) (.tmp 30) rfl w3.heap.size 24 _ cs2 rfl rfl hz2 (by rw [q2]; exact infoEn7) (by rw [q2]; rfl) a2 ?_
       intro z2 B2 m2
       have b1 := new7 m2
       have hB := hB.below b1
       have hy := hy.below b1
       have ht := ht.below b1
       have B1 := B1.below b1
       have y1 := y1.below b1
       have y2 := y2.below b1
       have bb := bb.thenB' b1
       clear b1 m2 hz2 a2)
  refine r_start (R := RB) (by rfl) (n := 18) (L := #[false, false, false, false, false, false, false, false, false, false, false, false, false, false, false, false, false, false]) rfl rfl ?_
  have b1 : Below z2.heap.size z2 z2.drew := (Below.refl _ _).drew
  have hB := hB.below b1
  have hy := hy.below b1
  have ht := ht.below b1
  have B1 := B1.below b1
  have y1 := y1.below b1
  have B2 := B2.below b1
  have y2 := y2.below b1
  have bb := bb.thenB' b1
  generalize z2.drew = wd at *
  clear b1
  refine r_flt RB_refl 0 32 #[true, false, false, false, false, false, false, false, false, false, false, false, false, false, false, false, false, false] (by simp only [List.getElem?_toArray, List.getElem?_cons_zero]; rfl) (by rfl) (by kernel_rfl) (by kernel_rfl) (by kernel_rfl) (fun _ _ _ _ h => h) rfl (by rfl) ?_
  apply Exists.intro
  apply And.intro
  · intro W hW
    exact exec_load_row rfl rfl (hB.below hW) Tryd.underlying24 (by rw [q0]; exact infoEn7)
  (try simp only [Act.put, List.setIfInBounds_toArray]); (try simp only [List.set_cons_succ]); (try simp only [List.set_cons_zero])
  refine r_flt RB_refl 3 35 #[true, false, false, true, false, false, false, false, false, false, false, false, false, false, false, false, false, false] (by simp only [List.getElem?_toArray, List.getElem?_cons_succ, List.getElem?_cons_zero]; rfl) (by rfl) (by kernel_rfl) (by kernel_rfl) (by kernel_rfl) (fun _ _ _ _ h => h) rfl (by rfl) ?_
  apply Exists.intro
  apply And.intro
  · intro W hW
    exact exec_load_row rfl rfl (hB.below hW) Tryd.underlying24 (by rw [q0]; exact infoEn7)
  (try simp only [Act.put, List.setIfInBounds_toArray]); (try simp only [List.set_cons_succ]); (try simp only [List.set_cons_zero])
  refine r_one RB_trans 1 (by kernel_rfl) ?_
  refine alt_call 33 #[true, true, false, true, false, false, false, false, false, false, false, false, false, false, false, false, false, false] (by simp only [List.getElem?_toArray, List.getElem?_cons_succ, List.getElem?_cons_zero]; rfl) (by rfl) rfl (by rfl) (by go_simp; first | exact ⟨rfl, rfl⟩ | rfl) ?_
  with_reducible refine (HP _ hy ht).mono ?_
  rintro e1 w4 ⟨v3, rfl, o3, b1⟩
  obtain ⟨A3, n3, c3, rfl, E3, l3, m3⟩ := OwnB.form' o3
  refine ⟨_, rfl, b1, ?_⟩
  have hB := hB.below b1
  have hy := hy.below b1
  have ht := ht.below b1
  have B1 := B1.below b1
  have y1 := y1.below b1
  have B2 := B2.below b1
  have y2 := y2.below b1
  have bb := bb.thenB' b1
  clear b1
  (try simp only [Act.put, List.setIfInBounds_toArray]); (try simp only [List.set_cons_succ]); (try simp only [List.set_cons_zero])
  refine r_flt RB_refl 2 34 #[true, true, true, true, false, false, false, false, false, false, false, false, false, false, false, false, false, false] (by simp only [List.getElem?_toArray, List.getElem?_cons_succ, List.getElem?_cons_zero]; rfl) (by rfl) (by kernel_rfl) (by kernel_rfl) (by kernel_rfl) (fun _ _ _ _ h => h) rfl (by rfl) ?_
  apply Exists.intro
  apply And.intro
  · intro W hW
    have s := str_inB o3 E3.out hW
    go_simp; rfl
  (try simp only [Act.put, List.setIfInBounds_toArray]); (try simp only [List.set_cons_succ]); (try simp only [List.set_cons_zero])
  refine r_one RB_trans 4 (by kernel_rfl) ?_
  refine alt_call 36 #[true, true, true, true, true, false, false, false, false, false, false, false, false, false, false, false, false, false] (by simp only [List.getElem?_toArray, List.getElem?_cons_succ, List.getElem?_cons_zero]; rfl) (by rfl) rfl (by rfl) (by go_simp; first | exact ⟨rfl, rfl⟩ | rfl) ?_
  with_reducible refine (HQ _ hy).mono ?_
  rintro e1 w5 ⟨v4, rfl, o4, b1⟩
  obtain ⟨A4, n4, c4, rfl, E4, l4, m4⟩ := OwnB.form' o4
  refine ⟨_, rfl, b1, ?_⟩
  have hB := hB.below b1
  have hy := hy.below b1
  have ht := ht.below b1
  have B1 := B1.below b1
  have y1 := y1.below b1
  have B2 := B2.below b1
  have y2 := y2.below b1
  have o3 := OwnB.below o3 b1
  have bb := bb.thenB' b1
  clear b1
  (try simp only [Act.put, List.setIfInBounds_toArray]); (try simp only [List.set_cons_succ]); (try simp only [List.set_cons_zero])
  refine r_flt RB_refl 5 37 #[true, true, true, true, true, true, false, false, false, false, false, false, false, false, false, false, false, false] (by simp only [List.getElem?_toArray, List.getElem?_cons_succ, List.getElem?_cons_zero]; rfl) (by rfl) (by kernel_rfl) (by kernel_rfl) (by kernel_rfl) (fun _ _ _ _ h => h) rfl (by rfl) ?_
  apply Exists.intro
  apply And.intro
  · intro W hW
    have s := str_inB o4 E4.out hW
    go_simp; rfl
  (try simp only [Act.put, List.setIfInBounds_toArray]); (try simp only [List.set_cons_succ]); (try simp only [List.set_cons_zero])
  refine r_flt RB_refl 6 38 #[true, true, true, true, true, true, true, false, false, false, false, false, false, false, false, false, false, false] (by simp only [List.getElem?_toArray, List.getElem?_cons_succ, List.getElem?_cons_zero]; rfl) (by rfl) (by kernel_rfl) (by kernel_rfl) (by kernel_rfl) (fun _ _ _ _ h => h) rfl (by rfl) ?_
  apply Exists.intro
  apply And.intro
  · intro W hW
    first | (go_simp; with_reducible rfl) | go_simp
  (try simp only [Act.put, List.setIfInBounds_toArray]); (try simp only [List.set_cons_succ]); (try simp only [List.set_cons_zero])
  refine r_flt RB_refl 7 39 #[true, true, true, true, true, true, true, true, false, false, false, false, false, false, false, false, false, false] (by simp only [List.getElem?_toArray, List.getElem?_cons_succ, List.getElem?_cons_zero]; rfl) (by rfl) (by kernel_rfl) (by kernel_rfl) (by kernel_rfl) (fun _ _ _ _ h => h) rfl (by rfl) ?_
  apply Exists.intro
  apply And.intro
  · intro W hW
    first | (go_simp; with_reducible rfl) | go_simp
  (try simp only [Act.put, List.setIfInBounds_toArray]); (try simp only [List.set_cons_succ]); (try simp only [List.set_cons_zero])
  refine r_flt RB_refl 8 40 #[true, true, true, true, true, true, true, true, true, false, false, false, false, false, false, false, false, false] (by simp only [List.getElem?_toArray, List.getElem?_cons_succ, List.getElem?_cons_zero]; rfl) (by rfl) (by kernel_rfl) (by kernel_rfl) (by kernel_rfl) (fun _ _ _ _ h => h) rfl (by rfl) ?_
  apply Exists.intro
  apply And.intro
  · intro W hW
    first | (go_simp; with_reducible rfl) | go_simp
  (try simp only [Act.put, List.setIfInBounds_toArray]); (try simp only [List.set_cons_succ]); (try simp only [List.set_cons_zero])
  refine r_flt RB_refl 9 41 #[true, true, true, true, true, true, true, true, true, true, false, false, false, false, false, false, false, false] (by simp only [List.getElem?_toArray, List.getElem?_cons_succ, List.getElem?_cons_zero]; rfl) (by rfl) (by kernel_rfl) (by kernel_rfl) (by kernel_rfl) (fun _ _ _ _ h => h) rfl (by rfl) ?_
  apply Exists.intro
  apply And.intro
  · intro W hW
    first | (go_simp; with_reducible rfl) | go_simp
  (try simp only [Act.put, List.setIfInBounds_toArray]); (try simp only [List.set_cons_succ]); (try simp only [List.set_cons_zero])
  refine r_flt RB_refl 10 42 #[true, true, true, true, true, true, true, true, true, true, true, false, false, false, false, false, false, false] (by simp only [List.getElem?_toArray, List.getElem?_cons_succ, List.getElem?_cons_zero]; rfl) (by rfl) (by kernel_rfl) (by kernel_rfl) (by kernel_rfl) (fun _ _ _ _ h => h) rfl (by rfl) ?_
  apply Exists.intro
  apply And.intro
  · intro W hW
    first | (go_simp; with_reducible rfl) | go_simp
  (try simp only [Act.put, List.setIfInBounds_toArray]); (try simp only [List.set_cons_succ]); (try simp only [List.set_cons_zero])
  refine r_flt RB_refl 11 43 #[true, true, true, true, true, true, true, true, true, true, true, true, false, false, false, false, false, false] (by simp only [List.getElem?_toArray, List.getElem?_cons_succ, List.getElem?_cons_zero]; rfl) (by rfl) (by kernel_rfl) (by kernel_rfl) (by kernel_rfl) (fun _ _ _ _ h => h) rfl (by rfl) ?_
  apply Exists.intro
  apply And.intro
  · intro W hW
    first | (go_simp; with_reducible rfl) | go_simp
  (try simp only [Act.put, List.setIfInBounds_toArray]); (try simp only [List.set_cons_succ]); (try simp only [List.set_cons_zero])
  refine r_flt RB_refl 12 44 #[true, true, true, true, true, true, true, true, true, true, true, true, true, false, false, false, false, false] (by simp only [List.getElem?_toArray, List.getElem?_cons_succ, List.getElem?_cons_zero]; rfl) (by rfl) (by kernel_rfl) (by kernel_rfl) (by kernel_rfl) (fun _ _ _ _ h => h) rfl (by rfl) ?_
  apply Exists.intro
  apply And.intro
  · intro W hW
    first | (go_simp; with_reducible rfl) | go_simp
  (try simp only [Act.put, List.setIfInBounds_toArray]); (try simp only [List.set_cons_succ]); (try simp only [List.set_cons_zero])
  refine r_flt RB_refl 13 45 #[true, true, true, true, true, true, true, true, true, true, true, true, true, true, false, false, false, false] (by simp only [List.getElem?_toArray, List.getElem?_cons_succ, List.getElem?_cons_zero]; rfl) (by rfl) (by kernel_rfl) (by kernel_rfl) (by kernel_rfl) (fun _ _ _ _ h => h) rfl (by rfl) ?_
  apply Exists.intro
  apply And.intro
  · intro W hW
    exact exec_load_row rfl rfl (B1.below hW) Tryd.underlying24 (by rw [q1]; exact infoEn7)
  (try simp only [Act.put, List.setIfInBounds_toArray]); (try simp only [List.set_cons_succ]); (try simp only [List.set_cons_zero])
  refine r_flt RB_refl 14 46 #[true, true, true, true, true, true, true, true, true, true, true, true, true, true, true, false, false, false] (by simp only [List.getElem?_toArray, List.getElem?_cons_succ, List.getElem?_cons_zero]; rfl) (by rfl) (by kernel_rfl) (by kernel_rfl) (by kernel_rfl) (fun _ _ _ _ h => h) rfl (by rfl) ?_
  apply Exists.intro
  apply And.intro
  · intro W hW
    exact exec_load_row rfl rfl (B2.below hW) Tryd.underlying24 (by rw [q2]; exact infoEn7)
  (try simp only [Act.put, List.setIfInBounds_toArray]); (try simp only [List.set_cons_succ]); (try simp only [List.set_cons_zero])
  refine r_one RB_trans 15 (by kernel_rfl) ?_
  refine alt_call 47 #[true, true, true, true, true, true, true, true, true, true, true, true, true, true, true, true, false, false] (by simp only [List.getElem?_toArray, List.getElem?_cons_succ, List.getElem?_cons_zero]; rfl) (by rfl) rfl (by rfl) (by go_simp; first | exact ⟨rfl, rfl⟩ | rfl) ?_
  with_reducible refine (y1.same y2).mono ?_
  rintro e1 w6 ⟨rfl, b1⟩
  refine ⟨_, rfl, b1, ?_⟩
  have hB := hB.below b1
  have hy := hy.below b1
  have ht := ht.below b1
  have B1 := B1.below b1
  have y1 := y1.below b1
  have B2 := B2.below b1
  have y2 := y2.below b1
  have bb := bb.thenB' b1
  rw [same_self]
  clear b1
  (try simp only [Act.put, List.setIfInBounds_toArray]); (try simp only [List.set_cons_succ]); (try simp only [List.set_cons_zero])
  refine r_flt RB_refl 16 48 #[true, true, true, true, true, true, true, true, true, true, true, true, true, true, true, true, true, false] (by simp only [List.getElem?_toArray, List.getElem?_cons_succ, List.getElem?_cons_zero]; rfl) (by rfl) (by kernel_rfl) (by kernel_rfl) (by kernel_rfl) (fun _ _ _ _ h => h) rfl (by rfl) ?_
  apply Exists.intro
  apply And.intro
  · intro W hW
    first | (go_simp; with_reducible rfl) | go_simp
  (try simp only [Act.put, List.setIfInBounds_toArray]); (try simp only [List.set_cons_succ]); (try simp only [List.set_cons_zero])
  refine r_flt RB_refl 17 4 #[true, true, true, true, true, true, true, true, true, true, true, true, true, true, true, true, true, true] (by simp only [List.getElem?_toArray, List.getElem?_cons_succ, List.getElem?_cons_zero]; rfl) (by rfl) (by kernel_rfl) (by kernel_rfl) (by kernel_rfl) (fun _ _ _ _ h => h) rfl (by rfl) ?_
  apply Exists.intro
  apply And.intro
  · intro W hW
    first | (go_simp; with_reducible rfl) | go_simp
  (try simp only [Act.put, List.setIfInBounds_toArray]); (try simp only [List.set_cons_succ]); (try simp only [List.set_cons_zero])
  refine r_done (by kernel_rfl) ?_
  go_wp2_with fail
  go_ret
  exact ⟨rfl, bb⟩
end Go.Proofs.YthpmmnpjdpgamaaDoor
