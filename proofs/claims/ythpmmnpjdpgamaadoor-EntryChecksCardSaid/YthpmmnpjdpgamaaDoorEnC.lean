/- The law EntryChecks: the walk. -/
import Derived.Test.YthpmmnpjdpgamaaDoorEnB
namespace Go.Proofs.YthpmmnpjdpgamaaDoor
open Go.RowKit
set_option linter.unusedVariables false

set_option maxHeartbeats 8000000 in
set_option maxRecDepth 100000 in
theorem checks_walk (e : E7) (v : Value) (w : World) (hy : EnY w v e) (ht : T7 w) :
    Calls Tryd.prog 3 #[v] w fun r w' => r = .returned (.bool true) ∧ Below w.heap.size w w' := by
  obtain ⟨cs, rfl, q0, a0⟩ := hy.agg
  have bb := below_new w (.cells cs 24)
  have hB := Blk.new w 24 cs
  have hy := hy.below bb
  have ht := ht.below bb
  obtain ⟨A, c, h6, r6, l6, m6⟩ := hy.data
  go_enter Tryd.func3, Tryd.ntmps3
  go_wp2_with fail
  refine (awake_any7 _ ht.1 ht.2.1 ht.2.2).mono ?_
  rintro e1 w1 ⟨rfl, b1⟩
  have hB := hB.below b1
  have hy := hy.below b1
  have ht := ht.below b1
  have bb := bb.thenB' b1
  have c6 := hB.cell 6
  rw [h6] at c6
  clear b1
  by_cases hl : 1000 < e.data.length
  focus
    go_wp2_with fail
    go_ret
    exact ⟨rfl, bb⟩
  have hl : e.data.length ≤ big := by unfold big; omega
  clear r6 l6 m6
  go_wp2_with first
    | (with_reducible show wpList _ _ _ _ _ _
       refine wpList_load_row rfl 24 (.tmp 1) rfl w.heap.size rfl 24 cs (0, 0) _ hB Tryd.underlying24 rfl (by rw [q0]; exact infoEn7) ?_)
  refine (hy.may).mono ?_
  rintro e1 w2 ⟨rfl, b1⟩
  have hB := hB.below b1
  have hy := hy.below b1
  have ht := ht.below b1
  have bb := bb.thenB' b1
  have c6 := hB.cell 6
  rw [h6] at c6
  clear b1
  cases hm : mayE e
  all_goals
    go_wp2_with fail
    refine r_start (R := RB) (by rfl) (n := 12) (L := #[false, false, false, false, false, false, false, false, false, false, false, false]) rfl rfl ?_
    have b1 : Below w2.heap.size w2 w2.drew := (Below.refl _ _).drew
    have hB := hB.below b1
    have hy := hy.below b1
    have ht := ht.below b1
    have bb := bb.thenB' b1
    generalize w2.drew = wd at *
    clear b1
    refine r_flt RB_refl 0 14 #[true, false, false, false, false, false, false, false, false, false, false, false] (by simp only [List.getElem?_toArray, List.getElem?_cons_zero]; rfl) (by rfl) (by kernel_rfl) (by kernel_rfl) (by kernel_rfl) (fun _ _ _ _ h => h) rfl (by rfl) ?_
    apply Exists.intro
    apply And.intro
    · intro W hW
      exact exec_load_row rfl rfl (hB.below hW) Tryd.underlying24 (by rw [q0]; exact infoEn7)
    (try simp only [Act.put, List.setIfInBounds_toArray]); (try simp only [List.set_cons_succ]); (try simp only [List.set_cons_zero])
    refine r_flt RB_refl 2 16 #[true, false, true, false, false, false, false, false, false, false, false, false] (by simp only [List.getElem?_toArray, List.getElem?_cons_succ, List.getElem?_cons_zero]; rfl) (by rfl) (by kernel_rfl) (by kernel_rfl) (by kernel_rfl) (fun _ _ _ _ h => h) rfl (by rfl) ?_
    apply Exists.intro
    apply And.intro
    · intro W hW
      first | (go_simp; with_reducible rfl) | go_simp
    (try simp only [Act.put, List.setIfInBounds_toArray]); (try simp only [List.set_cons_succ]); (try simp only [List.set_cons_zero])
    refine r_one RB_trans 1 (by kernel_rfl) ?_
    refine alt_call 15 #[true, true, true, false, false, false, false, false, false, false, false, false] (by simp only [List.getElem?_toArray, List.getElem?_cons_succ, List.getElem?_cons_zero]; rfl) (by rfl) rfl (by rfl) (by go_simp; first | exact ⟨rfl, rfl⟩ | rfl) ?_
    with_reducible refine (hy.check).mono ?_
    rintro e1 w3 ⟨rfl, b1⟩
    refine ⟨_, rfl, b1, ?_⟩
    have hB := hB.below b1
    have hy := hy.below b1
    have ht := ht.below b1
    have bb := bb.thenB' b1
    rw [hm]
    clear b1
    (try simp only [Act.put, List.setIfInBounds_toArray]); (try simp only [List.set_cons_succ]); (try simp only [List.set_cons_zero])
    refine r_flt RB_refl 3 17 #[true, true, true, true, false, false, false, false, false, false, false, false] (by simp only [List.getElem?_toArray, List.getElem?_cons_succ, List.getElem?_cons_zero]; rfl) (by rfl) (by kernel_rfl) (by kernel_rfl) (by kernel_rfl) (fun _ _ _ _ h => h) rfl (by rfl) ?_
    apply Exists.intro
    apply And.intro
    · intro W hW
      first | (go_simp; with_reducible rfl) | go_simp
    (try simp only [Act.put, List.setIfInBounds_toArray]); (try simp only [List.set_cons_succ]); (try simp only [List.set_cons_zero])
    refine r_flt RB_refl 4 18 #[true, true, true, true, true, false, false, false, false, false, false, false] (by simp only [List.getElem?_toArray, List.getElem?_cons_succ, List.getElem?_cons_zero]; rfl) (by rfl) (by kernel_rfl) (by kernel_rfl) (by kernel_rfl) (fun _ _ _ _ h => h) rfl (by rfl) ?_
    apply Exists.intro
    apply And.intro
    · intro W hW
      first | (go_simp; with_reducible rfl) | go_simp
    (try simp only [Act.put, List.setIfInBounds_toArray]); (try simp only [List.set_cons_succ]); (try simp only [List.set_cons_zero])
    refine r_flt RB_refl 5 19 #[true, true, true, true, true, true, false, false, false, false, false, false] (by simp only [List.getElem?_toArray, List.getElem?_cons_succ, List.getElem?_cons_zero]; rfl) (by rfl) (by kernel_rfl) (by kernel_rfl) (by kernel_rfl) (fun _ _ _ _ h => h) rfl (by rfl) ?_
    apply Exists.intro
    apply And.intro
    · intro W hW
      exact exec_load_row rfl rfl (hB.below hW) Tryd.underlying24 (by rw [q0]; exact infoEn7)
    (try simp only [Act.put, List.setIfInBounds_toArray]); (try simp only [List.set_cons_succ]); (try simp only [List.set_cons_zero])
    refine r_flt RB_refl 7 21 #[true, true, true, true, true, true, false, true, false, false, false, false] (by simp only [List.getElem?_toArray, List.getElem?_cons_succ, List.getElem?_cons_zero]; rfl) (by rfl) (by kernel_rfl) (by kernel_rfl) (by kernel_rfl) (fun _ _ _ _ h => h) rfl (by rfl) ?_
    apply Exists.intro
    apply And.intro
    · intro W hW
      exact exec_load_row rfl rfl (hB.below hW) Tryd.underlying24 (by rw [q0]; exact infoEn7)
    (try simp only [Act.put, List.setIfInBounds_toArray]); (try simp only [List.set_cons_succ]); (try simp only [List.set_cons_zero])
    refine r_one RB_trans 6 (by kernel_rfl) ?_
    refine alt_call 20 #[true, true, true, true, true, true, true, true, false, false, false, false] (by simp only [List.getElem?_toArray, List.getElem?_cons_succ, List.getElem?_cons_zero]; rfl) (by rfl) rfl (by rfl) (by go_simp; first | exact ⟨rfl, rfl⟩ | rfl) ?_
    with_reducible refine (hy.clean hl ht).mono ?_
    rintro e1 w4 ⟨y1, rfl, k1, b1⟩
    refine ⟨_, rfl, b1, ?_⟩
    have hB := hB.below b1
    have hy := hy.below b1
    have ht := ht.below b1
    have bb := bb.thenB' b1
    clear b1
    (try simp only [Act.put, List.setIfInBounds_toArray]); (try simp only [List.set_cons_succ]); (try simp only [List.set_cons_zero])
    refine r_one RB_trans 8 (by kernel_rfl) ?_
    refine alt_call 22 #[true, true, true, true, true, true, true, true, true, false, false, false] (by simp only [List.getElem?_toArray, List.getElem?_cons_succ, List.getElem?_cons_zero]; rfl) (by rfl) rfl (by rfl) (by go_simp; first | exact ⟨rfl, rfl⟩ | rfl) ?_
    with_reducible refine (hy.rclean).mono ?_
    rintro e1 w5 ⟨y2, rfl, k2, b1⟩
    refine ⟨_, rfl, b1, ?_⟩
    have hB := hB.below b1
    have hy := hy.below b1
    have ht := ht.below b1
    have k1 := k1.below b1
    have bb := bb.thenB' b1
    clear b1
    (try simp only [Act.put, List.setIfInBounds_toArray]); (try simp only [List.set_cons_succ]); (try simp only [List.set_cons_zero])
    refine r_one RB_trans 9 (by kernel_rfl) ?_
    refine alt_call 23 #[true, true, true, true, true, true, true, true, true, true, false, false] (by simp only [List.getElem?_toArray, List.getElem?_cons_succ, List.getElem?_cons_zero]; rfl) (by rfl) rfl (by rfl) (by go_simp; first | exact ⟨rfl, rfl⟩ | rfl) ?_
    with_reducible refine (k1.same k2).mono ?_
    rintro e1 w6 ⟨rfl, b1⟩
    refine ⟨_, rfl, b1, ?_⟩
    have hB := hB.below b1
    have hy := hy.below b1
    have ht := ht.below b1
    have bb := bb.thenB' b1
    rw [same_self]
    clear b1
    (try simp only [Act.put, List.setIfInBounds_toArray]); (try simp only [List.set_cons_succ]); (try simp only [List.set_cons_zero])
    refine r_flt RB_refl 10 24 #[true, true, true, true, true, true, true, true, true, true, true, false] (by simp only [List.getElem?_toArray, List.getElem?_cons_succ, List.getElem?_cons_zero]; rfl) (by rfl) (by kernel_rfl) (by kernel_rfl) (by kernel_rfl) (fun _ _ _ _ h => h) rfl (by rfl) ?_
    apply Exists.intro
    apply And.intro
    · intro W hW
      first | (go_simp; with_reducible rfl) | go_simp
    (try simp only [Act.put, List.setIfInBounds_toArray]); (try simp only [List.set_cons_succ]); (try simp only [List.set_cons_zero])
    refine r_flt RB_refl 11 2 #[true, true, true, true, true, true, true, true, true, true, true, true] (by simp only [List.getElem?_toArray, List.getElem?_cons_succ, List.getElem?_cons_zero]; rfl) (by rfl) (by kernel_rfl) (by kernel_rfl) (by kernel_rfl) (fun _ _ _ _ h => h) rfl (by rfl) ?_
    apply Exists.intro
    apply And.intro
    · intro W hW
      first | (go_simp; with_reducible rfl) | go_simp
    (try simp only [Act.put, List.setIfInBounds_toArray]); (try simp only [List.set_cons_succ]); (try simp only [List.set_cons_zero])
    refine r_done (by kernel_rfl) ?_
    go_wp2_with fail
    go_ret
    exact ⟨rfl, bb⟩
end Go.Proofs.YthpmmnpjdpgamaaDoor
