/- Parts of the proof, joined: HeC. -/
import Derived.Test.YtpgfhbkggchliaaQo
/- The law HeadChecks: the walk. -/
namespace Go.Proofs.Ytpgfhbkggchliaa
open Go.RowKit
set_option linter.unusedVariables false

set_option maxHeartbeats 16000000 in
set_option maxRecDepth 100000 in
theorem checks_walk (D : Nat → Prop) (h : HdV) (id z : Int) (w : World) (hr : HdR w D h) :
    Calls Try.prog 3 #[hdV h, .int .i64 id, .int .i64 z] w fun e w' => e = .returned (.bool true) ∧ Below w.heap.size w w' := by
  have bb := below_new w (.cells (hdA h) 27)
  have hB := Blk.new w 27 (hdA h)
  have hr := hr.below bb
  have hv : hdV h = .agg (hdA h) := rfl
  have hfw := fun W hr => few_any D h W hr
  have hmy := fun W hr => rMay_any D h W hr
  have hck := fun W hr => Check_any6 D h W hr
  have hf1 := fun W hr => Find_any D h id W hr
  have hf2 := fun W hr => rFind_any D h id W hr
  have hn1 := fun W hr => Newest_any D h W hr
  have hn2 := fun W hr => rNewest_any D h W hr
  have hnew := fun W => New_any h.u h.n h.o z W
  have hly := fun W => rLay_any h.u h.n h.o W
  unfold layV at hnew hly
  have d0 : (hdA h)[0]? = some (.int .i64 h.u) := rfl
  have d1 : (hdA h)[1]? = some (.int .i64 h.n) := rfl
  have d2 : (hdA h)[2]? = some (.int .i64 h.o) := rfl
  rw [hv] at hfw hmy hck hf1 hf2 hn1 hn2 ⊢
  generalize findO (idsO h.S) id = fd at *
  generalize newO (idsO h.S) = nw at *
  generalize hA : hdA h = cs at *
  have h8 : cs.size = 8 := by rw [← hA]; rfl
  clear hA hv
  go_enter Try.func3, Try.ntmps3
  go_wp2_with fail
  refine (awake_any6 _).mono ?_
  rintro e w1 ⟨rfl, b1⟩
  have hB := hB.below b1
  have hr := hr.below b1
  have bb := bb.thenB' b1
  clear b1
  go_wp2_with first
    | (with_reducible show wpList _ _ _ _ _ _
       refine wpList_load_row rfl 27 (.tmp 3) rfl w.heap.size rfl 27 cs (0, 0) _ hB Try.underlying27 rfl (by rw [h8]; exact infoH) ?_)
  refine (hfw _ hr).mono ?_
  clear hfw
  rintro e w2 ⟨rfl, b2⟩
  have hB := hB.below b2
  have hr := hr.below b2
  have bb := bb.thenB' b2
  clear b2
  cases hf : fewO h
  focus
    go_wp2_with fail
    go_ret
    exact ⟨rfl, bb⟩
  go_wp2_with first
    | (with_reducible show wpList _ _ _ _ _ _
       refine wpList_load_row rfl 27 (.tmp 3) rfl w.heap.size rfl 27 cs (0, 0) _ hB Try.underlying27 rfl (by rw [h8]; exact infoH) ?_)
  refine (hmy _ hr).mono ?_
  clear hmy
  rintro e w2b ⟨rfl, b2⟩
  have hB := hB.below b2
  have hr := hr.below b2
  have bb := bb.thenB' b2
  clear b2
  go_upto_if 20 with fail
  go_cut [9] from 20 to 20 (fun s9 wx => s9 = .int .i64 (eno (mayH h) 60) ∧ w2b = wx)
  case first =>
    cases hm : mayH h
    all_goals
      go_wp2_with fail
      go_meet
      case rel => exact ⟨by rw [hm]; rfl, rfl⟩
  case rest =>
    obtain ⟨rfl, rfl⟩ := hcut
    generalize eno (mayH h) 60 = wt at *
    have c0 := hB.cell 0
    have c1 := hB.cell 1
    have c2 := hB.cell 2
    rw [d0] at c0
    rw [d1] at c1
    rw [d2] at c2
    go_wp2_with fail
    refine (hnew _).mono ?_
    clear hnew c0 c1 c2
    rintro e w3 ⟨hor, b3⟩
    have hB := hB.below b3
    have hr := hr.below b3
    have bb := bb.thenB' b3
    clear b3
    rcases hor with ⟨hlt, hz0, hz5, rfl⟩ | ⟨hno, rfl⟩
    focus
      have hap := hdA_ok (freshH h.u h.n h.o z)
      have hsm : ∀ (W : World) (q : Nat) (cn : Array Value), HdX W q cn (freshH h.u h.n h.o z) → Calls Try.prog 15 #[hdV (freshH h.u h.n h.o z), .agg #[.int .i64 h.u, .int .i64 h.n, .int .i64 h.o, .int .i64 z, .slice none 0 0, .slice none 0 0, .int .i64 0, .int .i64 0]] W fun e w' => e = .returned (.bool true) ∧ Below W.heap.size W w' := fun (W : World) (q : Nat) (cn : Array Value) (K : HdX W q cn (freshH h.u h.n h.o z)) => rSame_yes _ _ (freshH h.u h.n h.o z) (freshH h.u h.n h.o z) W K.rd (freshH_rd _ _ _ _ W (fun _ => True)) ⟨rfl, rfl, rfl, rfl, rfl, rfl, rfl, rfl⟩ ⟨by show 0 ≤ big; unfold big; omega, fun s hs => by cases hs⟩
      rw [show hdV (freshH h.u h.n h.o z) = .agg (hdA (freshH h.u h.n h.o z)) from rfl]
      have q1 := hd8 (freshH h.u h.n h.o z)
      generalize hA1 : hdA (freshH h.u h.n h.o z) = cn at *
      have hz1 := Blk.new w3 27 z8
      unfold z8 at hz1
      go_wp2_with first
        | (with_reducible show wpList _ _ _ _ _ _
           refine wpList_rowB rfl 27 (.tmp 10) (.tmp 26) rfl w3.heap.size 27 _ cn rfl rfl hz1 (by rw [q1]; exact infoH) (by rw [q1]; rfl) hap ?_
           intro y1 hy1 m1
           obtain ⟨K1, n1⟩ := HdX.new (h := freshH h.u h.n h.o z) (freshH_rd _ _ _ _ _ _) hy1 hA1 m1
           have hB := hB.below n1
           have hr := hr.below n1
           have bb := bb.thenB' n1
           have c0 := hB.cell 0
           have c1 := hB.cell 1
           have c2 := hB.cell 2
           rw [d0] at c0
           rw [d1] at c1
           rw [d2] at c2)
      refine (hly _).mono ?_
      rintro e w5 ⟨rfl, b5⟩
      have hB := hB.below b5
      have hr := hr.below b5
      have K1 := K1.below b5
      have bb := bb.thenB' b5
      try rw [hlt]
      clear c0 c1 c2
      have c0 := hB.cell 0
      have c1 := hB.cell 1
      have c2 := hB.cell 2
      rw [d0] at c0
      rw [d1] at c1
      rw [d2] at c2
      go_wp2_with first
        | (with_reducible show wpList _ _ _ _ _ _
           refine wpList_load_rowG rfl rfl 27 (.tmp 10) rfl w3.heap.size rfl 27 cn K1.B _ Try.underlying27 (by rw [q1]; exact infoH) ?_)
      have hsm := hsm _ _ _ K1
      rw [K1.v] at hsm
      refine hsm.mono ?_
      rintro e w7 ⟨rfl, b6⟩
      have hB := hB.below b6
      have hr := hr.below b6
      have bb := bb.thenB' b6
      clear c0 c1 c2 hsm K1 hy1 m1 n1 hz1 b5 b6
      go_wp2_with fail
      refine r_start (R := RB) (by rfl) (n := 21) (L := #[false, false, false, false, false, false, false, false, false, false, false, false, false, false, false, false, false, false, false, false, false]) rfl rfl ?_
      have bd : Below w7.heap.size w7 w7.drew := (Below.refl _ _).drew
      have hB := hB.below bd
      have hr := hr.below bd
      have bb := bb.thenB' bd
      generalize w7.drew = wd1 at *
      clear bd
      refine r_flt RB_refl 0 58 #[true, false, false, false, false, false, false, false, false, false, false, false, false, false, false, false, false, false, false, false, false] (by simp only [List.getElem?_toArray, List.getElem?_cons_zero]; rfl) (by rfl) (by kernel_rfl) (by kernel_rfl) (by kernel_rfl) (fun _ _ _ _ h => h) rfl (by rfl) ?_
      apply Exists.intro
      apply And.intro
      · intro W hW
        exact exec_load_row rfl rfl (hB.below hW) Try.underlying27 (by rw [h8]; exact infoH)
      (try simp only [Act.put, List.setIfInBounds_toArray]); (try simp only [List.set_cons_succ]); (try simp only [List.set_cons_zero])
      refine r_flt RB_refl 2 60 #[true, false, true, false, false, false, false, false, false, false, false, false, false, false, false, false, false, false, false, false, false] (by simp only [List.getElem?_toArray, List.getElem?_cons_succ, List.getElem?_cons_zero]; rfl) (by rfl) (by kernel_rfl) (by kernel_rfl) (by kernel_rfl) (fun _ _ _ _ h => h) rfl (by rfl) ?_
      apply Exists.intro
      apply And.intro
      · intro W hW
        first | (go_simp; with_reducible rfl) | go_simp
      (try simp only [Act.put, List.setIfInBounds_toArray]); (try simp only [List.set_cons_succ]); (try simp only [List.set_cons_zero])
      refine r_one RB_trans 1 (by kernel_rfl) ?_
      refine alt_call 59 #[true, true, true, false, false, false, false, false, false, false, false, false, false, false, false, false, false, false, false, false, false] (by simp only [List.getElem?_toArray, List.getElem?_cons_succ, List.getElem?_cons_zero]; rfl) (by rfl) rfl (by rfl) (by go_simp; first | exact ⟨rfl, rfl⟩ | rfl) ?_
      with_reducible refine (hck _ hr).mono ?_
      rintro e' x1 ⟨rfl, bp⟩
      refine ⟨_, rfl, bp, ?_⟩
      have hB := hB.below bp
      have hr := hr.below bp
      have bb := bb.thenB' bp
      clear bp
      (try simp only [Act.put, List.setIfInBounds_toArray]); (try simp only [List.set_cons_succ]); (try simp only [List.set_cons_zero])
      refine r_flt RB_refl 3 61 #[true, true, true, true, false, false, false, false, false, false, false, false, false, false, false, false, false, false, false, false, false] (by simp only [List.getElem?_toArray, List.getElem?_cons_succ, List.getElem?_cons_zero]; rfl) (by rfl) (by kernel_rfl) (by kernel_rfl) (by kernel_rfl) (fun _ _ _ _ h => h) rfl (by rfl) ?_
      apply Exists.intro
      apply And.intro
      · intro W hW
        first | (go_simp; with_reducible rfl) | go_simp
      (try simp only [Act.put, List.setIfInBounds_toArray]); (try simp only [List.set_cons_succ]); (try simp only [List.set_cons_zero])
      refine r_flt RB_refl 4 62 #[true, true, true, true, true, false, false, false, false, false, false, false, false, false, false, false, false, false, false, false, false] (by simp only [List.getElem?_toArray, List.getElem?_cons_succ, List.getElem?_cons_zero]; rfl) (by rfl) (by kernel_rfl) (by kernel_rfl) (by kernel_rfl) (fun _ _ _ _ h => h) rfl (by rfl) ?_
      apply Exists.intro
      apply And.intro
      · intro W hW
        first | (go_simp; with_reducible rfl) | go_simp
      (try simp only [Act.put, List.setIfInBounds_toArray]); (try simp only [List.set_cons_succ]); (try simp only [List.set_cons_zero])
      refine r_flt RB_refl 5 63 #[true, true, true, true, true, true, false, false, false, false, false, false, false, false, false, false, false, false, false, false, false] (by simp only [List.getElem?_toArray, List.getElem?_cons_succ, List.getElem?_cons_zero]; rfl) (by rfl) (by kernel_rfl) (by kernel_rfl) (by kernel_rfl) (fun _ _ _ _ h => h) rfl (by rfl) ?_
      apply Exists.intro
      apply And.intro
      · intro W hW
        exact exec_load_row rfl rfl (hB.below hW) Try.underlying27 (by rw [h8]; exact infoH)
      (try simp only [Act.put, List.setIfInBounds_toArray]); (try simp only [List.set_cons_succ]); (try simp only [List.set_cons_zero])
      refine r_flt RB_refl 6 64 #[true, true, true, true, true, true, true, false, false, false, false, false, false, false, false, false, false, false, false, false, false] (by simp only [List.getElem?_toArray, List.getElem?_cons_succ, List.getElem?_cons_zero]; rfl) (by rfl) (by kernel_rfl) (by kernel_rfl) (by kernel_rfl) (fun _ _ _ _ h => h) rfl (by rfl) ?_
      apply Exists.intro
      apply And.intro
      · intro W hW
        first | (go_simp; with_reducible rfl) | go_simp
      (try simp only [Act.put, List.setIfInBounds_toArray]); (try simp only [List.set_cons_succ]); (try simp only [List.set_cons_zero])
      refine r_flt RB_refl 8 66 #[true, true, true, true, true, true, true, false, true, false, false, false, false, false, false, false, false, false, false, false, false] (by simp only [List.getElem?_toArray, List.getElem?_cons_succ, List.getElem?_cons_zero]; rfl) (by rfl) (by kernel_rfl) (by kernel_rfl) (by kernel_rfl) (fun _ _ _ _ h => h) rfl (by rfl) ?_
      apply Exists.intro
      apply And.intro
      · intro W hW
        exact exec_load_row rfl rfl (hB.below hW) Try.underlying27 (by rw [h8]; exact infoH)
      (try simp only [Act.put, List.setIfInBounds_toArray]); (try simp only [List.set_cons_succ]); (try simp only [List.set_cons_zero])
      refine r_flt RB_refl 9 67 #[true, true, true, true, true, true, true, false, true, true, false, false, false, false, false, false, false, false, false, false, false] (by simp only [List.getElem?_toArray, List.getElem?_cons_succ, List.getElem?_cons_zero]; rfl) (by rfl) (by kernel_rfl) (by kernel_rfl) (by kernel_rfl) (fun _ _ _ _ h => h) rfl (by rfl) ?_
      apply Exists.intro
      apply And.intro
      · intro W hW
        first | (go_simp; with_reducible rfl) | go_simp
      (try simp only [Act.put, List.setIfInBounds_toArray]); (try simp only [List.set_cons_succ]); (try simp only [List.set_cons_zero])
      refine r_one RB_trans 7 (by kernel_rfl) ?_
      refine alt_call 65 #[true, true, true, true, true, true, true, true, true, true, false, false, false, false, false, false, false, false, false, false, false] (by simp only [List.getElem?_toArray, List.getElem?_cons_succ, List.getElem?_cons_zero]; rfl) (by rfl) rfl (by rfl) (by go_simp; first | exact ⟨rfl, rfl⟩ | rfl) ?_
      with_reducible refine (hf1 _ hr).mono ?_
      rintro e' x2 ⟨rfl, bp⟩
      refine ⟨_, rfl, bp, ?_⟩
      have hB := hB.below bp
      have hr := hr.below bp
      have bb := bb.thenB' bp
      clear bp
      (try simp only [Act.put, List.setIfInBounds_toArray]); (try simp only [List.set_cons_succ]); (try simp only [List.set_cons_zero])
      refine r_one RB_trans 10 (by kernel_rfl) ?_
      refine alt_call 68 #[true, true, true, true, true, true, true, true, true, true, true, false, false, false, false, false, false, false, false, false, false] (by simp only [List.getElem?_toArray, List.getElem?_cons_succ, List.getElem?_cons_zero]; rfl) (by rfl) rfl (by rfl) (by go_simp; first | exact ⟨rfl, rfl⟩ | rfl) ?_
      with_reducible refine (hf2 _ hr).mono ?_
      rintro e' x3 ⟨rfl, bp⟩
      refine ⟨_, rfl, bp, ?_⟩
      have hB := hB.below bp
      have hr := hr.below bp
      have bb := bb.thenB' bp
      clear bp
      (try simp only [Act.put, List.setIfInBounds_toArray]); (try simp only [List.set_cons_succ]); (try simp only [List.set_cons_zero])
      refine r_flt RB_refl 11 69 #[true, true, true, true, true, true, true, true, true, true, true, true, false, false, false, false, false, false, false, false, false] (by simp only [List.getElem?_toArray, List.getElem?_cons_succ, List.getElem?_cons_zero]; rfl) (by rfl) (by kernel_rfl) (by kernel_rfl) (by kernel_rfl) (fun _ _ _ _ h => h) rfl (by rfl) ?_
      apply Exists.intro
      apply And.intro
      · intro W hW
        first | (go_simp; with_reducible rfl) | go_simp
      (try simp only [Act.put, List.setIfInBounds_toArray]); (try simp only [List.set_cons_succ]); (try simp only [List.set_cons_zero])
      refine r_flt RB_refl 12 70 #[true, true, true, true, true, true, true, true, true, true, true, true, true, false, false, false, false, false, false, false, false] (by simp only [List.getElem?_toArray, List.getElem?_cons_succ, List.getElem?_cons_zero]; rfl) (by rfl) (by kernel_rfl) (by kernel_rfl) (by kernel_rfl) (fun _ _ _ _ h => h) rfl (by rfl) ?_
      apply Exists.intro
      apply And.intro
      · intro W hW
        first | (go_simp; with_reducible rfl) | go_simp
      (try simp only [Act.put, List.setIfInBounds_toArray]); (try simp only [List.set_cons_succ]); (try simp only [List.set_cons_zero])
      refine r_flt RB_refl 13 71 #[true, true, true, true, true, true, true, true, true, true, true, true, true, true, false, false, false, false, false, false, false] (by simp only [List.getElem?_toArray, List.getElem?_cons_succ, List.getElem?_cons_zero]; rfl) (by rfl) (by kernel_rfl) (by kernel_rfl) (by kernel_rfl) (fun _ _ _ _ h => h) rfl (by rfl) ?_
      apply Exists.intro
      apply And.intro
      · intro W hW
        first | (go_simp; with_reducible rfl) | go_simp
      (try simp only [Act.put, List.setIfInBounds_toArray]); (try simp only [List.set_cons_succ]); (try simp only [List.set_cons_zero])
      refine r_flt RB_refl 14 72 #[true, true, true, true, true, true, true, true, true, true, true, true, true, true, true, false, false, false, false, false, false] (by simp only [List.getElem?_toArray, List.getElem?_cons_succ, List.getElem?_cons_zero]; rfl) (by rfl) (by kernel_rfl) (by kernel_rfl) (by kernel_rfl) (fun _ _ _ _ h => h) rfl (by rfl) ?_
      apply Exists.intro
      apply And.intro
      · intro W hW
        exact exec_load_row rfl rfl (hB.below hW) Try.underlying27 (by rw [h8]; exact infoH)
      (try simp only [Act.put, List.setIfInBounds_toArray]); (try simp only [List.set_cons_succ]); (try simp only [List.set_cons_zero])
      refine r_flt RB_refl 16 74 #[true, true, true, true, true, true, true, true, true, true, true, true, true, true, true, false, true, false, false, false, false] (by simp only [List.getElem?_toArray, List.getElem?_cons_succ, List.getElem?_cons_zero]; rfl) (by rfl) (by kernel_rfl) (by kernel_rfl) (by kernel_rfl) (fun _ _ _ _ h => h) rfl (by rfl) ?_
      apply Exists.intro
      apply And.intro
      · intro W hW
        exact exec_load_row rfl rfl (hB.below hW) Try.underlying27 (by rw [h8]; exact infoH)
      (try simp only [Act.put, List.setIfInBounds_toArray]); (try simp only [List.set_cons_succ]); (try simp only [List.set_cons_zero])
      refine r_one RB_trans 15 (by kernel_rfl) ?_
      refine alt_call 73 #[true, true, true, true, true, true, true, true, true, true, true, true, true, true, true, true, true, false, false, false, false] (by simp only [List.getElem?_toArray, List.getElem?_cons_succ, List.getElem?_cons_zero]; rfl) (by rfl) rfl (by rfl) (by go_simp; first | exact ⟨rfl, rfl⟩ | rfl) ?_
      with_reducible refine (hn1 _ hr).mono ?_
      rintro e' x4 ⟨rfl, bp⟩
      refine ⟨_, rfl, bp, ?_⟩
      have hB := hB.below bp
      have hr := hr.below bp
      have bb := bb.thenB' bp
      clear bp
      (try simp only [Act.put, List.setIfInBounds_toArray]); (try simp only [List.set_cons_succ]); (try simp only [List.set_cons_zero])
      refine r_one RB_trans 17 (by kernel_rfl) ?_
      refine alt_call 75 #[true, true, true, true, true, true, true, true, true, true, true, true, true, true, true, true, true, true, false, false, false] (by simp only [List.getElem?_toArray, List.getElem?_cons_succ, List.getElem?_cons_zero]; rfl) (by rfl) rfl (by rfl) (by go_simp; first | exact ⟨rfl, rfl⟩ | rfl) ?_
      with_reducible refine (hn2 _ hr).mono ?_
      rintro e' x5 ⟨rfl, bp⟩
      refine ⟨_, rfl, bp, ?_⟩
      have hB := hB.below bp
      have hr := hr.below bp
      have bb := bb.thenB' bp
      clear bp
      (try simp only [Act.put, List.setIfInBounds_toArray]); (try simp only [List.set_cons_succ]); (try simp only [List.set_cons_zero])
      refine r_flt RB_refl 18 76 #[true, true, true, true, true, true, true, true, true, true, true, true, true, true, true, true, true, true, true, false, false] (by simp only [List.getElem?_toArray, List.getElem?_cons_succ, List.getElem?_cons_zero]; rfl) (by rfl) (by kernel_rfl) (by kernel_rfl) (by kernel_rfl) (fun _ _ _ _ h => h) rfl (by rfl) ?_
      apply Exists.intro
      apply And.intro
      · intro W hW
        first | (go_simp; with_reducible rfl) | go_simp
      (try simp only [Act.put, List.setIfInBounds_toArray]); (try simp only [List.set_cons_succ]); (try simp only [List.set_cons_zero])
      refine r_flt RB_refl 19 77 #[true, true, true, true, true, true, true, true, true, true, true, true, true, true, true, true, true, true, true, true, false] (by simp only [List.getElem?_toArray, List.getElem?_cons_succ, List.getElem?_cons_zero]; rfl) (by rfl) (by kernel_rfl) (by kernel_rfl) (by kernel_rfl) (fun _ _ _ _ h => h) rfl (by rfl) ?_
      apply Exists.intro
      apply And.intro
      · intro W hW
        first | (go_simp; with_reducible rfl) | go_simp
      (try simp only [Act.put, List.setIfInBounds_toArray]); (try simp only [List.set_cons_succ]); (try simp only [List.set_cons_zero])
      refine r_flt RB_refl 20 6 #[true, true, true, true, true, true, true, true, true, true, true, true, true, true, true, true, true, true, true, true, true] (by simp only [List.getElem?_toArray, List.getElem?_cons_succ, List.getElem?_cons_zero]; rfl) (by rfl) (by kernel_rfl) (by kernel_rfl) (by kernel_rfl) (fun _ _ _ _ h => h) rfl (by rfl) ?_
      apply Exists.intro
      apply And.intro
      · intro W hW
        first | (go_simp; with_reducible rfl) | go_simp
      (try simp only [Act.put, List.setIfInBounds_toArray]); (try simp only [List.set_cons_succ]); (try simp only [List.set_cons_zero])
      refine r_done (by kernel_rfl) ?_
      go_wp2_with fail
      go_ret
      exact ⟨rfl, bb⟩
    cases hlt : layO h.u h.n h.o
    focus
      clear hno
      have hap := hdA_ok (zeroH)
      have hsm : ∀ (W : World) (q : Nat) (cn : Array Value), HdX W q cn (zeroH) → Calls Try.prog 15 #[hdV (zeroH), .agg #[.int .i64 0, .int .i64 0, .int .i64 0, .int .i64 0, .slice none 0 0, .slice none 0 0, .int .i64 0, .int .i64 0]] W fun e w' => e = .returned (.bool true) ∧ Below W.heap.size W w' := fun (W : World) (q : Nat) (cn : Array Value) (K : HdX W q cn (zeroH)) => rSame_yes _ _ (zeroH) (zeroH) W K.rd (freshH_rd _ _ _ _ W (fun _ => True)) ⟨rfl, rfl, rfl, rfl, rfl, rfl, rfl, rfl⟩ ⟨by show 0 ≤ big; unfold big; omega, fun s hs => by cases hs⟩
      rw [show hdV (zeroH) = .agg (hdA (zeroH)) from rfl]
      have q1 := hd8 (zeroH)
      generalize hA1 : hdA (zeroH) = cn at *
      have hz1 := Blk.new w3 27 z8
      unfold z8 at hz1
      go_wp2_with first
        | (with_reducible show wpList _ _ _ _ _ _
           refine wpList_rowB rfl 27 (.tmp 10) (.tmp 26) rfl w3.heap.size 27 _ cn rfl rfl hz1 (by rw [q1]; exact infoH) (by rw [q1]; rfl) hap ?_
           intro y1 hy1 m1
           obtain ⟨K1, n1⟩ := HdX.new (h := zeroH) (freshH_rd _ _ _ _ _ _) hy1 hA1 m1
           have hB := hB.below n1
           have hr := hr.below n1
           have bb := bb.thenB' n1
           have c0 := hB.cell 0
           have c1 := hB.cell 1
           have c2 := hB.cell 2
           rw [d0] at c0
           rw [d1] at c1
           rw [d2] at c2)
      refine (hly _).mono ?_
      rintro e w5 ⟨rfl, b5⟩
      have hB := hB.below b5
      have hr := hr.below b5
      have K1 := K1.below b5
      have bb := bb.thenB' b5
      try rw [hlt]
      clear c0 c1 c2
      have c0 := hB.cell 0
      have c1 := hB.cell 1
      have c2 := hB.cell 2
      rw [d0] at c0
      rw [d1] at c1
      rw [d2] at c2
      go_wp2_with first
        | (with_reducible show wpList _ _ _ _ _ _
           refine wpList_load_rowG rfl rfl 27 (.tmp 10) rfl w3.heap.size rfl 27 cn K1.B _ Try.underlying27 (by rw [q1]; exact infoH) ?_)
      have hsm := hsm _ _ _ K1
      rw [K1.v] at hsm
      refine hsm.mono ?_
      rintro e w7 ⟨rfl, b6⟩
      have hB := hB.below b6
      have hr := hr.below b6
      have bb := bb.thenB' b6
      clear c0 c1 c2 hsm K1 hy1 m1 n1 hz1 b5 b6
      go_wp2_with fail
      refine r_start (R := RB) (by rfl) (n := 21) (L := #[false, false, false, false, false, false, false, false, false, false, false, false, false, false, false, false, false, false, false, false, false]) rfl rfl ?_
      have bd : Below w7.heap.size w7 w7.drew := (Below.refl _ _).drew
      have hB := hB.below bd
      have hr := hr.below bd
      have bb := bb.thenB' bd
      generalize w7.drew = wd1 at *
      clear bd
      refine r_flt RB_refl 0 58 #[true, false, false, false, false, false, false, false, false, false, false, false, false, false, false, false, false, false, false, false, false] (by simp only [List.getElem?_toArray, List.getElem?_cons_zero]; rfl) (by rfl) (by kernel_rfl) (by kernel_rfl) (by kernel_rfl) (fun _ _ _ _ h => h) rfl (by rfl) ?_
      apply Exists.intro
      apply And.intro
      · intro W hW
        exact exec_load_row rfl rfl (hB.below hW) Try.underlying27 (by rw [h8]; exact infoH)
      (try simp only [Act.put, List.setIfInBounds_toArray]); (try simp only [List.set_cons_succ]); (try simp only [List.set_cons_zero])
      refine r_flt RB_refl 2 60 #[true, false, true, false, false, false, false, false, false, false, false, false, false, false, false, false, false, false, false, false, false] (by simp only [List.getElem?_toArray, List.getElem?_cons_succ, List.getElem?_cons_zero]; rfl) (by rfl) (by kernel_rfl) (by kernel_rfl) (by kernel_rfl) (fun _ _ _ _ h => h) rfl (by rfl) ?_
      apply Exists.intro
      apply And.intro
      · intro W hW
        first | (go_simp; with_reducible rfl) | go_simp
      (try simp only [Act.put, List.setIfInBounds_toArray]); (try simp only [List.set_cons_succ]); (try simp only [List.set_cons_zero])
      refine r_one RB_trans 1 (by kernel_rfl) ?_
      refine alt_call 59 #[true, true, true, false, false, false, false, false, false, false, false, false, false, false, false, false, false, false, false, false, false] (by simp only [List.getElem?_toArray, List.getElem?_cons_succ, List.getElem?_cons_zero]; rfl) (by rfl) rfl (by rfl) (by go_simp; first | exact ⟨rfl, rfl⟩ | rfl) ?_
      with_reducible refine (hck _ hr).mono ?_
      rintro e' x1 ⟨rfl, bp⟩
      refine ⟨_, rfl, bp, ?_⟩
      have hB := hB.below bp
      have hr := hr.below bp
      have bb := bb.thenB' bp
      clear bp
      (try simp only [Act.put, List.setIfInBounds_toArray]); (try simp only [List.set_cons_succ]); (try simp only [List.set_cons_zero])
      refine r_flt RB_refl 3 61 #[true, true, true, true, false, false, false, false, false, false, false, false, false, false, false, false, false, false, false, false, false] (by simp only [List.getElem?_toArray, List.getElem?_cons_succ, List.getElem?_cons_zero]; rfl) (by rfl) (by kernel_rfl) (by kernel_rfl) (by kernel_rfl) (fun _ _ _ _ h => h) rfl (by rfl) ?_
      apply Exists.intro
      apply And.intro
      · intro W hW
        first | (go_simp; with_reducible rfl) | go_simp
      (try simp only [Act.put, List.setIfInBounds_toArray]); (try simp only [List.set_cons_succ]); (try simp only [List.set_cons_zero])
      refine r_flt RB_refl 4 62 #[true, true, true, true, true, false, false, false, false, false, false, false, false, false, false, false, false, false, false, false, false] (by simp only [List.getElem?_toArray, List.getElem?_cons_succ, List.getElem?_cons_zero]; rfl) (by rfl) (by kernel_rfl) (by kernel_rfl) (by kernel_rfl) (fun _ _ _ _ h => h) rfl (by rfl) ?_
      apply Exists.intro
      apply And.intro
      · intro W hW
        first | (go_simp; with_reducible rfl) | go_simp
      (try simp only [Act.put, List.setIfInBounds_toArray]); (try simp only [List.set_cons_succ]); (try simp only [List.set_cons_zero])
      refine r_flt RB_refl 5 63 #[true, true, true, true, true, true, false, false, false, false, false, false, false, false, false, false, false, false, false, false, false] (by simp only [List.getElem?_toArray, List.getElem?_cons_succ, List.getElem?_cons_zero]; rfl) (by rfl) (by kernel_rfl) (by kernel_rfl) (by kernel_rfl) (fun _ _ _ _ h => h) rfl (by rfl) ?_
      apply Exists.intro
      apply And.intro
      · intro W hW
        exact exec_load_row rfl rfl (hB.below hW) Try.underlying27 (by rw [h8]; exact infoH)
      (try simp only [Act.put, List.setIfInBounds_toArray]); (try simp only [List.set_cons_succ]); (try simp only [List.set_cons_zero])
      refine r_flt RB_refl 6 64 #[true, true, true, true, true, true, true, false, false, false, false, false, false, false, false, false, false, false, false, false, false] (by simp only [List.getElem?_toArray, List.getElem?_cons_succ, List.getElem?_cons_zero]; rfl) (by rfl) (by kernel_rfl) (by kernel_rfl) (by kernel_rfl) (fun _ _ _ _ h => h) rfl (by rfl) ?_
      apply Exists.intro
      apply And.intro
      · intro W hW
        first | (go_simp; with_reducible rfl) | go_simp
      (try simp only [Act.put, List.setIfInBounds_toArray]); (try simp only [List.set_cons_succ]); (try simp only [List.set_cons_zero])
      refine r_flt RB_refl 8 66 #[true, true, true, true, true, true, true, false, true, false, false, false, false, false, false, false, false, false, false, false, false] (by simp only [List.getElem?_toArray, List.getElem?_cons_succ, List.getElem?_cons_zero]; rfl) (by rfl) (by kernel_rfl) (by kernel_rfl) (by kernel_rfl) (fun _ _ _ _ h => h) rfl (by rfl) ?_
      apply Exists.intro
      apply And.intro
      · intro W hW
        exact exec_load_row rfl rfl (hB.below hW) Try.underlying27 (by rw [h8]; exact infoH)
      (try simp only [Act.put, List.setIfInBounds_toArray]); (try simp only [List.set_cons_succ]); (try simp only [List.set_cons_zero])
      refine r_flt RB_refl 9 67 #[true, true, true, true, true, true, true, false, true, true, false, false, false, false, false, false, false, false, false, false, false] (by simp only [List.getElem?_toArray, List.getElem?_cons_succ, List.getElem?_cons_zero]; rfl) (by rfl) (by kernel_rfl) (by kernel_rfl) (by kernel_rfl) (fun _ _ _ _ h => h) rfl (by rfl) ?_
      apply Exists.intro
      apply And.intro
      · intro W hW
        first | (go_simp; with_reducible rfl) | go_simp
      (try simp only [Act.put, List.setIfInBounds_toArray]); (try simp only [List.set_cons_succ]); (try simp only [List.set_cons_zero])
      refine r_one RB_trans 7 (by kernel_rfl) ?_
      refine alt_call 65 #[true, true, true, true, true, true, true, true, true, true, false, false, false, false, false, false, false, false, false, false, false] (by simp only [List.getElem?_toArray, List.getElem?_cons_succ, List.getElem?_cons_zero]; rfl) (by rfl) rfl (by rfl) (by go_simp; first | exact ⟨rfl, rfl⟩ | rfl) ?_
      with_reducible refine (hf1 _ hr).mono ?_
      rintro e' x2 ⟨rfl, bp⟩
      refine ⟨_, rfl, bp, ?_⟩
      have hB := hB.below bp
      have hr := hr.below bp
      have bb := bb.thenB' bp
      clear bp
      (try simp only [Act.put, List.setIfInBounds_toArray]); (try simp only [List.set_cons_succ]); (try simp only [List.set_cons_zero])
      refine r_one RB_trans 10 (by kernel_rfl) ?_
      refine alt_call 68 #[true, true, true, true, true, true, true, true, true, true, true, false, false, false, false, false, false, false, false, false, false] (by simp only [List.getElem?_toArray, List.getElem?_cons_succ, List.getElem?_cons_zero]; rfl) (by rfl) rfl (by rfl) (by go_simp; first | exact ⟨rfl, rfl⟩ | rfl) ?_
      with_reducible refine (hf2 _ hr).mono ?_
      rintro e' x3 ⟨rfl, bp⟩
      refine ⟨_, rfl, bp, ?_⟩
      have hB := hB.below bp
      have hr := hr.below bp
      have bb := bb.thenB' bp
      clear bp
      (try simp only [Act.put, List.setIfInBounds_toArray]); (try simp only [List.set_cons_succ]); (try simp only [List.set_cons_zero])
      refine r_flt RB_refl 11 69 #[true, true, true, true, true, true, true, true, true, true, true, true, false, false, false, false, false, false, false, false, false] (by simp only [List.getElem?_toArray, List.getElem?_cons_succ, List.getElem?_cons_zero]; rfl) (by rfl) (by kernel_rfl) (by kernel_rfl) (by kernel_rfl) (fun _ _ _ _ h => h) rfl (by rfl) ?_
      apply Exists.intro
      apply And.intro
      · intro W hW
        first | (go_simp; with_reducible rfl) | go_simp
      (try simp only [Act.put, List.setIfInBounds_toArray]); (try simp only [List.set_cons_succ]); (try simp only [List.set_cons_zero])
      refine r_flt RB_refl 12 70 #[true, true, true, true, true, true, true, true, true, true, true, true, true, false, false, false, false, false, false, false, false] (by simp only [List.getElem?_toArray, List.getElem?_cons_succ, List.getElem?_cons_zero]; rfl) (by rfl) (by kernel_rfl) (by kernel_rfl) (by kernel_rfl) (fun _ _ _ _ h => h) rfl (by rfl) ?_
      apply Exists.intro
      apply And.intro
      · intro W hW
        first | (go_simp; with_reducible rfl) | go_simp
      (try simp only [Act.put, List.setIfInBounds_toArray]); (try simp only [List.set_cons_succ]); (try simp only [List.set_cons_zero])
      refine r_flt RB_refl 13 71 #[true, true, true, true, true, true, true, true, true, true, true, true, true, true, false, false, false, false, false, false, false] (by simp only [List.getElem?_toArray, List.getElem?_cons_succ, List.getElem?_cons_zero]; rfl) (by rfl) (by kernel_rfl) (by kernel_rfl) (by kernel_rfl) (fun _ _ _ _ h => h) rfl (by rfl) ?_
      apply Exists.intro
      apply And.intro
      · intro W hW
        first | (go_simp; with_reducible rfl) | go_simp
      (try simp only [Act.put, List.setIfInBounds_toArray]); (try simp only [List.set_cons_succ]); (try simp only [List.set_cons_zero])
      refine r_flt RB_refl 14 72 #[true, true, true, true, true, true, true, true, true, true, true, true, true, true, true, false, false, false, false, false, false] (by simp only [List.getElem?_toArray, List.getElem?_cons_succ, List.getElem?_cons_zero]; rfl) (by rfl) (by kernel_rfl) (by kernel_rfl) (by kernel_rfl) (fun _ _ _ _ h => h) rfl (by rfl) ?_
      apply Exists.intro
      apply And.intro
      · intro W hW
        exact exec_load_row rfl rfl (hB.below hW) Try.underlying27 (by rw [h8]; exact infoH)
      (try simp only [Act.put, List.setIfInBounds_toArray]); (try simp only [List.set_cons_succ]); (try simp only [List.set_cons_zero])
      refine r_flt RB_refl 16 74 #[true, true, true, true, true, true, true, true, true, true, true, true, true, true, true, false, true, false, false, false, false] (by simp only [List.getElem?_toArray, List.getElem?_cons_succ, List.getElem?_cons_zero]; rfl) (by rfl) (by kernel_rfl) (by kernel_rfl) (by kernel_rfl) (fun _ _ _ _ h => h) rfl (by rfl) ?_
      apply Exists.intro
      apply And.intro
      · intro W hW
        exact exec_load_row rfl rfl (hB.below hW) Try.underlying27 (by rw [h8]; exact infoH)
      (try simp only [Act.put, List.setIfInBounds_toArray]); (try simp only [List.set_cons_succ]); (try simp only [List.set_cons_zero])
      refine r_one RB_trans 15 (by kernel_rfl) ?_
      refine alt_call 73 #[true, true, true, true, true, true, true, true, true, true, true, true, true, true, true, true, true, false, false, false, false] (by simp only [List.getElem?_toArray, List.getElem?_cons_succ, List.getElem?_cons_zero]; rfl) (by rfl) rfl (by rfl) (by go_simp; first | exact ⟨rfl, rfl⟩ | rfl) ?_
      with_reducible refine (hn1 _ hr).mono ?_
      rintro e' x4 ⟨rfl, bp⟩
      refine ⟨_, rfl, bp, ?_⟩
      have hB := hB.below bp
      have hr := hr.below bp
      have bb := bb.thenB' bp
      clear bp
      (try simp only [Act.put, List.setIfInBounds_toArray]); (try simp only [List.set_cons_succ]); (try simp only [List.set_cons_zero])
      refine r_one RB_trans 17 (by kernel_rfl) ?_
      refine alt_call 75 #[true, true, true, true, true, true, true, true, true, true, true, true, true, true, true, true, true, true, false, false, false] (by simp only [List.getElem?_toArray, List.getElem?_cons_succ, List.getElem?_cons_zero]; rfl) (by rfl) rfl (by rfl) (by go_simp; first | exact ⟨rfl, rfl⟩ | rfl) ?_
      with_reducible refine (hn2 _ hr).mono ?_
      rintro e' x5 ⟨rfl, bp⟩
      refine ⟨_, rfl, bp, ?_⟩
      have hB := hB.below bp
      have hr := hr.below bp
      have bb := bb.thenB' bp
      clear bp
      (try simp only [Act.put, List.setIfInBounds_toArray]); (try simp only [List.set_cons_succ]); (try simp only [List.set_cons_zero])
      refine r_flt RB_refl 18 76 #[true, true, true, true, true, true, true, true, true, true, true, true, true, true, true, true, true, true, true, false, false] (by simp only [List.getElem?_toArray, List.getElem?_cons_succ, List.getElem?_cons_zero]; rfl) (by rfl) (by kernel_rfl) (by kernel_rfl) (by kernel_rfl) (fun _ _ _ _ h => h) rfl (by rfl) ?_
      apply Exists.intro
      apply And.intro
      · intro W hW
        first | (go_simp; with_reducible rfl) | go_simp
      (try simp only [Act.put, List.setIfInBounds_toArray]); (try simp only [List.set_cons_succ]); (try simp only [List.set_cons_zero])
      refine r_flt RB_refl 19 77 #[true, true, true, true, true, true, true, true, true, true, true, true, true, true, true, true, true, true, true, true, false] (by simp only [List.getElem?_toArray, List.getElem?_cons_succ, List.getElem?_cons_zero]; rfl) (by rfl) (by kernel_rfl) (by kernel_rfl) (by kernel_rfl) (fun _ _ _ _ h => h) rfl (by rfl) ?_
      apply Exists.intro
      apply And.intro
      · intro W hW
        first | (go_simp; with_reducible rfl) | go_simp
      (try simp only [Act.put, List.setIfInBounds_toArray]); (try simp only [List.set_cons_succ]); (try simp only [List.set_cons_zero])
      refine r_flt RB_refl 20 6 #[true, true, true, true, true, true, true, true, true, true, true, true, true, true, true, true, true, true, true, true, true] (by simp only [List.getElem?_toArray, List.getElem?_cons_succ, List.getElem?_cons_zero]; rfl) (by rfl) (by kernel_rfl) (by kernel_rfl) (by kernel_rfl) (fun _ _ _ _ h => h) rfl (by rfl) ?_
      apply Exists.intro
      apply And.intro
      · intro W hW
        first | (go_simp; with_reducible rfl) | go_simp
      (try simp only [Act.put, List.setIfInBounds_toArray]); (try simp only [List.set_cons_succ]); (try simp only [List.set_cons_zero])
      refine r_done (by kernel_rfl) ?_
      go_wp2_with fail
      go_ret
      exact ⟨rfl, bb⟩
    by_cases hz0 : 0 ≤ z
    focus
      have hz5 : ¬ z ≤ 512 := fun hz5 => hno ⟨hlt, hz0, hz5⟩
      clear hno
      have hap := hdA_ok (zeroH)
      have hsm : ∀ (W : World) (q : Nat) (cn : Array Value), HdX W q cn (zeroH) → Calls Try.prog 15 #[hdV (zeroH), .agg #[.int .i64 0, .int .i64 0, .int .i64 0, .int .i64 0, .slice none 0 0, .slice none 0 0, .int .i64 0, .int .i64 0]] W fun e w' => e = .returned (.bool true) ∧ Below W.heap.size W w' := fun (W : World) (q : Nat) (cn : Array Value) (K : HdX W q cn (zeroH)) => rSame_yes _ _ (zeroH) (zeroH) W K.rd (freshH_rd _ _ _ _ W (fun _ => True)) ⟨rfl, rfl, rfl, rfl, rfl, rfl, rfl, rfl⟩ ⟨by show 0 ≤ big; unfold big; omega, fun s hs => by cases hs⟩
      rw [show hdV (zeroH) = .agg (hdA (zeroH)) from rfl]
      have q1 := hd8 (zeroH)
      generalize hA1 : hdA (zeroH) = cn at *
      have hz1 := Blk.new w3 27 z8
      unfold z8 at hz1
      go_wp2_with first
        | (with_reducible show wpList _ _ _ _ _ _
           refine wpList_rowB rfl 27 (.tmp 10) (.tmp 26) rfl w3.heap.size 27 _ cn rfl rfl hz1 (by rw [q1]; exact infoH) (by rw [q1]; rfl) hap ?_
           intro y1 hy1 m1
           obtain ⟨K1, n1⟩ := HdX.new (h := zeroH) (freshH_rd _ _ _ _ _ _) hy1 hA1 m1
           have hB := hB.below n1
           have hr := hr.below n1
           have bb := bb.thenB' n1
           have c0 := hB.cell 0
           have c1 := hB.cell 1
           have c2 := hB.cell 2
           rw [d0] at c0
           rw [d1] at c1
           rw [d2] at c2)
      refine (hly _).mono ?_
      rintro e w5 ⟨rfl, b5⟩
      have hB := hB.below b5
      have hr := hr.below b5
      have K1 := K1.below b5
      have bb := bb.thenB' b5
      try rw [hlt]
      clear c0 c1 c2
      have c0 := hB.cell 0
      have c1 := hB.cell 1
      have c2 := hB.cell 2
      rw [d0] at c0
      rw [d1] at c1
      rw [d2] at c2
      go_wp2_with first
        | (with_reducible show wpList _ _ _ _ _ _
           refine wpList_load_rowG rfl rfl 27 (.tmp 10) rfl w3.heap.size rfl 27 cn K1.B _ Try.underlying27 (by rw [q1]; exact infoH) ?_)
      have hsm := hsm _ _ _ K1
      rw [K1.v] at hsm
      refine hsm.mono ?_
      rintro e w7 ⟨rfl, b6⟩
      have hB := hB.below b6
      have hr := hr.below b6
      have bb := bb.thenB' b6
      clear c0 c1 c2 hsm K1 hy1 m1 n1 hz1 b5 b6
      go_wp2_with fail
      refine r_start (R := RB) (by rfl) (n := 21) (L := #[false, false, false, false, false, false, false, false, false, false, false, false, false, false, false, false, false, false, false, false, false]) rfl rfl ?_
      have bd : Below w7.heap.size w7 w7.drew := (Below.refl _ _).drew
      have hB := hB.below bd
      have hr := hr.below bd
      have bb := bb.thenB' bd
      generalize w7.drew = wd1 at *
      clear bd
      refine r_flt RB_refl 0 58 #[true, false, false, false, false, false, false, false, false, false, false, false, false, false, false, false, false, false, false, false, false] (by simp only [List.getElem?_toArray, List.getElem?_cons_zero]; rfl) (by rfl) (by kernel_rfl) (by kernel_rfl) (by kernel_rfl) (fun _ _ _ _ h => h) rfl (by rfl) ?_
      apply Exists.intro
      apply And.intro
      · intro W hW
        exact exec_load_row rfl rfl (hB.below hW) Try.underlying27 (by rw [h8]; exact infoH)
      (try simp only [Act.put, List.setIfInBounds_toArray]); (try simp only [List.set_cons_succ]); (try simp only [List.set_cons_zero])
      refine r_flt RB_refl 2 60 #[true, false, true, false, false, false, false, false, false, false, false, false, false, false, false, false, false, false, false, false, false] (by simp only [List.getElem?_toArray, List.getElem?_cons_succ, List.getElem?_cons_zero]; rfl) (by rfl) (by kernel_rfl) (by kernel_rfl) (by kernel_rfl) (fun _ _ _ _ h => h) rfl (by rfl) ?_
      apply Exists.intro
      apply And.intro
      · intro W hW
        first | (go_simp; with_reducible rfl) | go_simp
      (try simp only [Act.put, List.setIfInBounds_toArray]); (try simp only [List.set_cons_succ]); (try simp only [List.set_cons_zero])
      refine r_one RB_trans 1 (by kernel_rfl) ?_
      refine alt_call 59 #[true, true, true, false, false, false, false, false, false, false, false, false, false, false, false, false, false, false, false, false, false] (by simp only [List.getElem?_toArray, List.getElem?_cons_succ, List.getElem?_cons_zero]; rfl) (by rfl) rfl (by rfl) (by go_simp; first | exact ⟨rfl, rfl⟩ | rfl) ?_
      with_reducible refine (hck _ hr).mono ?_
      rintro e' x1 ⟨rfl, bp⟩
      refine ⟨_, rfl, bp, ?_⟩
      have hB := hB.below bp
      have hr := hr.below bp
      have bb := bb.thenB' bp
      clear bp
      (try simp only [Act.put, List.setIfInBounds_toArray]); (try simp only [List.set_cons_succ]); (try simp only [List.set_cons_zero])
      refine r_flt RB_refl 3 61 #[true, true, true, true, false, false, false, false, false, false, false, false, false, false, false, false, false, false, false, false, false] (by simp only [List.getElem?_toArray, List.getElem?_cons_succ, List.getElem?_cons_zero]; rfl) (by rfl) (by kernel_rfl) (by kernel_rfl) (by kernel_rfl) (fun _ _ _ _ h => h) rfl (by rfl) ?_
      apply Exists.intro
      apply And.intro
      · intro W hW
        first | (go_simp; with_reducible rfl) | go_simp
      (try simp only [Act.put, List.setIfInBounds_toArray]); (try simp only [List.set_cons_succ]); (try simp only [List.set_cons_zero])
      refine r_flt RB_refl 4 62 #[true, true, true, true, true, false, false, false, false, false, false, false, false, false, false, false, false, false, false, false, false] (by simp only [List.getElem?_toArray, List.getElem?_cons_succ, List.getElem?_cons_zero]; rfl) (by rfl) (by kernel_rfl) (by kernel_rfl) (by kernel_rfl) (fun _ _ _ _ h => h) rfl (by rfl) ?_
      apply Exists.intro
      apply And.intro
      · intro W hW
        first | (go_simp; with_reducible rfl) | go_simp
      (try simp only [Act.put, List.setIfInBounds_toArray]); (try simp only [List.set_cons_succ]); (try simp only [List.set_cons_zero])
      refine r_flt RB_refl 5 63 #[true, true, true, true, true, true, false, false, false, false, false, false, false, false, false, false, false, false, false, false, false] (by simp only [List.getElem?_toArray, List.getElem?_cons_succ, List.getElem?_cons_zero]; rfl) (by rfl) (by kernel_rfl) (by kernel_rfl) (by kernel_rfl) (fun _ _ _ _ h => h) rfl (by rfl) ?_
      apply Exists.intro
      apply And.intro
      · intro W hW
        exact exec_load_row rfl rfl (hB.below hW) Try.underlying27 (by rw [h8]; exact infoH)
      (try simp only [Act.put, List.setIfInBounds_toArray]); (try simp only [List.set_cons_succ]); (try simp only [List.set_cons_zero])
      refine r_flt RB_refl 6 64 #[true, true, true, true, true, true, true, false, false, false, false, false, false, false, false, false, false, false, false, false, false] (by simp only [List.getElem?_toArray, List.getElem?_cons_succ, List.getElem?_cons_zero]; rfl) (by rfl) (by kernel_rfl) (by kernel_rfl) (by kernel_rfl) (fun _ _ _ _ h => h) rfl (by rfl) ?_
      apply Exists.intro
      apply And.intro
      · intro W hW
        first | (go_simp; with_reducible rfl) | go_simp
      (try simp only [Act.put, List.setIfInBounds_toArray]); (try simp only [List.set_cons_succ]); (try simp only [List.set_cons_zero])
      refine r_flt RB_refl 8 66 #[true, true, true, true, true, true, true, false, true, false, false, false, false, false, false, false, false, false, false, false, false] (by simp only [List.getElem?_toArray, List.getElem?_cons_succ, List.getElem?_cons_zero]; rfl) (by rfl) (by kernel_rfl) (by kernel_rfl) (by kernel_rfl) (fun _ _ _ _ h => h) rfl (by rfl) ?_
      apply Exists.intro
      apply And.intro
      · intro W hW
        exact exec_load_row rfl rfl (hB.below hW) Try.underlying27 (by rw [h8]; exact infoH)
      (try simp only [Act.put, List.setIfInBounds_toArray]); (try simp only [List.set_cons_succ]); (try simp only [List.set_cons_zero])
      refine r_flt RB_refl 9 67 #[true, true, true, true, true, true, true, false, true, true, false, false, false, false, false, false, false, false, false, false, false] (by simp only [List.getElem?_toArray, List.getElem?_cons_succ, List.getElem?_cons_zero]; rfl) (by rfl) (by kernel_rfl) (by kernel_rfl) (by kernel_rfl) (fun _ _ _ _ h => h) rfl (by rfl) ?_
      apply Exists.intro
      apply And.intro
      · intro W hW
        first | (go_simp; with_reducible rfl) | go_simp
      (try simp only [Act.put, List.setIfInBounds_toArray]); (try simp only [List.set_cons_succ]); (try simp only [List.set_cons_zero])
      refine r_one RB_trans 7 (by kernel_rfl) ?_
      refine alt_call 65 #[true, true, true, true, true, true, true, true, true, true, false, false, false, false, false, false, false, false, false, false, false] (by simp only [List.getElem?_toArray, List.getElem?_cons_succ, List.getElem?_cons_zero]; rfl) (by rfl) rfl (by rfl) (by go_simp; first | exact ⟨rfl, rfl⟩ | rfl) ?_
      with_reducible refine (hf1 _ hr).mono ?_
      rintro e' x2 ⟨rfl, bp⟩
      refine ⟨_, rfl, bp, ?_⟩
      have hB := hB.below bp
      have hr := hr.below bp
      have bb := bb.thenB' bp
      clear bp
      (try simp only [Act.put, List.setIfInBounds_toArray]); (try simp only [List.set_cons_succ]); (try simp only [List.set_cons_zero])
      refine r_one RB_trans 10 (by kernel_rfl) ?_
      refine alt_call 68 #[true, true, true, true, true, true, true, true, true, true, true, false, false, false, false, false, false, false, false, false, false] (by simp only [List.getElem?_toArray, List.getElem?_cons_succ, List.getElem?_cons_zero]; rfl) (by rfl) rfl (by rfl) (by go_simp; first | exact ⟨rfl, rfl⟩ | rfl) ?_
      with_reducible refine (hf2 _ hr).mono ?_
      rintro e' x3 ⟨rfl, bp⟩
      refine ⟨_, rfl, bp, ?_⟩
      have hB := hB.below bp
      have hr := hr.below bp
      have bb := bb.thenB' bp
      clear bp
      (try simp only [Act.put, List.setIfInBounds_toArray]); (try simp only [List.set_cons_succ]); (try simp only [List.set_cons_zero])
      refine r_flt RB_refl 11 69 #[true, true, true, true, true, true, true, true, true, true, true, true, false, false, false, false, false, false, false, false, false] (by simp only [List.getElem?_toArray, List.getElem?_cons_succ, List.getElem?_cons_zero]; rfl) (by rfl) (by kernel_rfl) (by kernel_rfl) (by kernel_rfl) (fun _ _ _ _ h => h) rfl (by rfl) ?_
      apply Exists.intro
      apply And.intro
      · intro W hW
        first | (go_simp; with_reducible rfl) | go_simp
      (try simp only [Act.put, List.setIfInBounds_toArray]); (try simp only [List.set_cons_succ]); (try simp only [List.set_cons_zero])
      refine r_flt RB_refl 12 70 #[true, true, true, true, true, true, true, true, true, true, true, true, true, false, false, false, false, false, false, false, false] (by simp only [List.getElem?_toArray, List.getElem?_cons_succ, List.getElem?_cons_zero]; rfl) (by rfl) (by kernel_rfl) (by kernel_rfl) (by kernel_rfl) (fun _ _ _ _ h => h) rfl (by rfl) ?_
      apply Exists.intro
      apply And.intro
      · intro W hW
        first | (go_simp; with_reducible rfl) | go_simp
      (try simp only [Act.put, List.setIfInBounds_toArray]); (try simp only [List.set_cons_succ]); (try simp only [List.set_cons_zero])
      refine r_flt RB_refl 13 71 #[true, true, true, true, true, true, true, true, true, true, true, true, true, true, false, false, false, false, false, false, false] (by simp only [List.getElem?_toArray, List.getElem?_cons_succ, List.getElem?_cons_zero]; rfl) (by rfl) (by kernel_rfl) (by kernel_rfl) (by kernel_rfl) (fun _ _ _ _ h => h) rfl (by rfl) ?_
      apply Exists.intro
      apply And.intro
      · intro W hW
        first | (go_simp; with_reducible rfl) | go_simp
      (try simp only [Act.put, List.setIfInBounds_toArray]); (try simp only [List.set_cons_succ]); (try simp only [List.set_cons_zero])
      refine r_flt RB_refl 14 72 #[true, true, true, true, true, true, true, true, true, true, true, true, true, true, true, false, false, false, false, false, false] (by simp only [List.getElem?_toArray, List.getElem?_cons_succ, List.getElem?_cons_zero]; rfl) (by rfl) (by kernel_rfl) (by kernel_rfl) (by kernel_rfl) (fun _ _ _ _ h => h) rfl (by rfl) ?_
      apply Exists.intro
      apply And.intro
      · intro W hW
        exact exec_load_row rfl rfl (hB.below hW) Try.underlying27 (by rw [h8]; exact infoH)
      (try simp only [Act.put, List.setIfInBounds_toArray]); (try simp only [List.set_cons_succ]); (try simp only [List.set_cons_zero])
      refine r_flt RB_refl 16 74 #[true, true, true, true, true, true, true, true, true, true, true, true, true, true, true, false, true, false, false, false, false] (by simp only [List.getElem?_toArray, List.getElem?_cons_succ, List.getElem?_cons_zero]; rfl) (by rfl) (by kernel_rfl) (by kernel_rfl) (by kernel_rfl) (fun _ _ _ _ h => h) rfl (by rfl) ?_
      apply Exists.intro
      apply And.intro
      · intro W hW
        exact exec_load_row rfl rfl (hB.below hW) Try.underlying27 (by rw [h8]; exact infoH)
      (try simp only [Act.put, List.setIfInBounds_toArray]); (try simp only [List.set_cons_succ]); (try simp only [List.set_cons_zero])
      refine r_one RB_trans 15 (by kernel_rfl) ?_
      refine alt_call 73 #[true, true, true, true, true, true, true, true, true, true, true, true, true, true, true, true, true, false, false, false, false] (by simp only [List.getElem?_toArray, List.getElem?_cons_succ, List.getElem?_cons_zero]; rfl) (by rfl) rfl (by rfl) (by go_simp; first | exact ⟨rfl, rfl⟩ | rfl) ?_
      with_reducible refine (hn1 _ hr).mono ?_
      rintro e' x4 ⟨rfl, bp⟩
      refine ⟨_, rfl, bp, ?_⟩
      have hB := hB.below bp
      have hr := hr.below bp
      have bb := bb.thenB' bp
      clear bp
      (try simp only [Act.put, List.setIfInBounds_toArray]); (try simp only [List.set_cons_succ]); (try simp only [List.set_cons_zero])
      refine r_one RB_trans 17 (by kernel_rfl) ?_
      refine alt_call 75 #[true, true, true, true, true, true, true, true, true, true, true, true, true, true, true, true, true, true, false, false, false] (by simp only [List.getElem?_toArray, List.getElem?_cons_succ, List.getElem?_cons_zero]; rfl) (by rfl) rfl (by rfl) (by go_simp; first | exact ⟨rfl, rfl⟩ | rfl) ?_
      with_reducible refine (hn2 _ hr).mono ?_
      rintro e' x5 ⟨rfl, bp⟩
      refine ⟨_, rfl, bp, ?_⟩
      have hB := hB.below bp
      have hr := hr.below bp
      have bb := bb.thenB' bp
      clear bp
      (try simp only [Act.put, List.setIfInBounds_toArray]); (try simp only [List.set_cons_succ]); (try simp only [List.set_cons_zero])
      refine r_flt RB_refl 18 76 #[true, true, true, true, true, true, true, true, true, true, true, true, true, true, true, true, true, true, true, false, false] (by simp only [List.getElem?_toArray, List.getElem?_cons_succ, List.getElem?_cons_zero]; rfl) (by rfl) (by kernel_rfl) (by kernel_rfl) (by kernel_rfl) (fun _ _ _ _ h => h) rfl (by rfl) ?_
      apply Exists.intro
      apply And.intro
      · intro W hW
        first | (go_simp; with_reducible rfl) | go_simp
      (try simp only [Act.put, List.setIfInBounds_toArray]); (try simp only [List.set_cons_succ]); (try simp only [List.set_cons_zero])
      refine r_flt RB_refl 19 77 #[true, true, true, true, true, true, true, true, true, true, true, true, true, true, true, true, true, true, true, true, false] (by simp only [List.getElem?_toArray, List.getElem?_cons_succ, List.getElem?_cons_zero]; rfl) (by rfl) (by kernel_rfl) (by kernel_rfl) (by kernel_rfl) (fun _ _ _ _ h => h) rfl (by rfl) ?_
      apply Exists.intro
      apply And.intro
      · intro W hW
        first | (go_simp; with_reducible rfl) | go_simp
      (try simp only [Act.put, List.setIfInBounds_toArray]); (try simp only [List.set_cons_succ]); (try simp only [List.set_cons_zero])
      refine r_flt RB_refl 20 6 #[true, true, true, true, true, true, true, true, true, true, true, true, true, true, true, true, true, true, true, true, true] (by simp only [List.getElem?_toArray, List.getElem?_cons_succ, List.getElem?_cons_zero]; rfl) (by rfl) (by kernel_rfl) (by kernel_rfl) (by kernel_rfl) (fun _ _ _ _ h => h) rfl (by rfl) ?_
      apply Exists.intro
      apply And.intro
      · intro W hW
        first | (go_simp; with_reducible rfl) | go_simp
      (try simp only [Act.put, List.setIfInBounds_toArray]); (try simp only [List.set_cons_succ]); (try simp only [List.set_cons_zero])
      refine r_done (by kernel_rfl) ?_
      go_wp2_with fail
      go_ret
      exact ⟨rfl, bb⟩
    focus
      clear hno
      have hap := hdA_ok (zeroH)
      have hsm : ∀ (W : World) (q : Nat) (cn : Array Value), HdX W q cn (zeroH) → Calls Try.prog 15 #[hdV (zeroH), .agg #[.int .i64 0, .int .i64 0, .int .i64 0, .int .i64 0, .slice none 0 0, .slice none 0 0, .int .i64 0, .int .i64 0]] W fun e w' => e = .returned (.bool true) ∧ Below W.heap.size W w' := fun (W : World) (q : Nat) (cn : Array Value) (K : HdX W q cn (zeroH)) => rSame_yes _ _ (zeroH) (zeroH) W K.rd (freshH_rd _ _ _ _ W (fun _ => True)) ⟨rfl, rfl, rfl, rfl, rfl, rfl, rfl, rfl⟩ ⟨by show 0 ≤ big; unfold big; omega, fun s hs => by cases hs⟩
      rw [show hdV (zeroH) = .agg (hdA (zeroH)) from rfl]
      have q1 := hd8 (zeroH)
      generalize hA1 : hdA (zeroH) = cn at *
      have hz1 := Blk.new w3 27 z8
      unfold z8 at hz1
      go_wp2_with first
        | (with_reducible show wpList _ _ _ _ _ _
           refine wpList_rowB rfl 27 (.tmp 10) (.tmp 26) rfl w3.heap.size 27 _ cn rfl rfl hz1 (by rw [q1]; exact infoH) (by rw [q1]; rfl) hap ?_
           intro y1 hy1 m1
           obtain ⟨K1, n1⟩ := HdX.new (h := zeroH) (freshH_rd _ _ _ _ _ _) hy1 hA1 m1
           have hB := hB.below n1
           have hr := hr.below n1
           have bb := bb.thenB' n1
           have c0 := hB.cell 0
           have c1 := hB.cell 1
           have c2 := hB.cell 2
           rw [d0] at c0
           rw [d1] at c1
           rw [d2] at c2)
      refine (hly _).mono ?_
      rintro e w5 ⟨rfl, b5⟩
      have hB := hB.below b5
      have hr := hr.below b5
      have K1 := K1.below b5
      have bb := bb.thenB' b5
      try rw [hlt]
      clear c0 c1 c2
      have c0 := hB.cell 0
      have c1 := hB.cell 1
      have c2 := hB.cell 2
      rw [d0] at c0
      rw [d1] at c1
      rw [d2] at c2
      go_wp2_with first
        | (with_reducible show wpList _ _ _ _ _ _
           refine wpList_load_rowG rfl rfl 27 (.tmp 10) rfl w3.heap.size rfl 27 cn K1.B _ Try.underlying27 (by rw [q1]; exact infoH) ?_)
      have hsm := hsm _ _ _ K1
      rw [K1.v] at hsm
      refine hsm.mono ?_
      rintro e w7 ⟨rfl, b6⟩
      have hB := hB.below b6
      have hr := hr.below b6
      have bb := bb.thenB' b6
      clear c0 c1 c2 hsm K1 hy1 m1 n1 hz1 b5 b6
      go_wp2_with fail
      refine r_start (R := RB) (by rfl) (n := 21) (L := #[false, false, false, false, false, false, false, false, false, false, false, false, false, false, false, false, false, false, false, false, false]) rfl rfl ?_
      have bd : Below w7.heap.size w7 w7.drew := (Below.refl _ _).drew
      have hB := hB.below bd
      have hr := hr.below bd
      have bb := bb.thenB' bd
      generalize w7.drew = wd1 at *
      clear bd
      refine r_flt RB_refl 0 58 #[true, false, false, false, false, false, false, false, false, false, false, false, false, false, false, false, false, false, false, false, false] (by simp only [List.getElem?_toArray, List.getElem?_cons_zero]; rfl) (by rfl) (by kernel_rfl) (by kernel_rfl) (by kernel_rfl) (fun _ _ _ _ h => h) rfl (by rfl) ?_
      apply Exists.intro
      apply And.intro
      · intro W hW
        exact exec_load_row rfl rfl (hB.below hW) Try.underlying27 (by rw [h8]; exact infoH)
      (try simp only [Act.put, List.setIfInBounds_toArray]); (try simp only [List.set_cons_succ]); (try simp only [List.set_cons_zero])
      refine r_flt RB_refl 2 60 #[true, false, true, false, false, false, false, false, false, false, false, false, false, false, false, false, false, false, false, false, false] (by simp only [List.getElem?_toArray, List.getElem?_cons_succ, List.getElem?_cons_zero]; rfl) (by rfl) (by kernel_rfl) (by kernel_rfl) (by kernel_rfl) (fun _ _ _ _ h => h) rfl (by rfl) ?_
      apply Exists.intro
      apply And.intro
      · intro W hW
        first | (go_simp; with_reducible rfl) | go_simp
      (try simp only [Act.put, List.setIfInBounds_toArray]); (try simp only [List.set_cons_succ]); (try simp only [List.set_cons_zero])
      refine r_one RB_trans 1 (by kernel_rfl) ?_
      refine alt_call 59 #[true, true, true, false, false, false, false, false, false, false, false, false, false, false, false, false, false, false, false, false, false] (by simp only [List.getElem?_toArray, List.getElem?_cons_succ, List.getElem?_cons_zero]; rfl) (by rfl) rfl (by rfl) (by go_simp; first | exact ⟨rfl, rfl⟩ | rfl) ?_
      with_reducible refine (hck _ hr).mono ?_
      rintro e' x1 ⟨rfl, bp⟩
      refine ⟨_, rfl, bp, ?_⟩
      have hB := hB.below bp
      have hr := hr.below bp
      have bb := bb.thenB' bp
      clear bp
      (try simp only [Act.put, List.setIfInBounds_toArray]); (try simp only [List.set_cons_succ]); (try simp only [List.set_cons_zero])
      refine r_flt RB_refl 3 61 #[true, true, true, true, false, false, false, false, false, false, false, false, false, false, false, false, false, false, false, false, false] (by simp only [List.getElem?_toArray, List.getElem?_cons_succ, List.getElem?_cons_zero]; rfl) (by rfl) (by kernel_rfl) (by kernel_rfl) (by kernel_rfl) (fun _ _ _ _ h => h) rfl (by rfl) ?_
      apply Exists.intro
      apply And.intro
      · intro W hW
        first | (go_simp; with_reducible rfl) | go_simp
      (try simp only [Act.put, List.setIfInBounds_toArray]); (try simp only [List.set_cons_succ]); (try simp only [List.set_cons_zero])
      refine r_flt RB_refl 4 62 #[true, true, true, true, true, false, false, false, false, false, false, false, false, false, false, false, false, false, false, false, false] (by simp only [List.getElem?_toArray, List.getElem?_cons_succ, List.getElem?_cons_zero]; rfl) (by rfl) (by kernel_rfl) (by kernel_rfl) (by kernel_rfl) (fun _ _ _ _ h => h) rfl (by rfl) ?_
      apply Exists.intro
      apply And.intro
      · intro W hW
        first | (go_simp; with_reducible rfl) | go_simp
      (try simp only [Act.put, List.setIfInBounds_toArray]); (try simp only [List.set_cons_succ]); (try simp only [List.set_cons_zero])
      refine r_flt RB_refl 5 63 #[true, true, true, true, true, true, false, false, false, false, false, false, false, false, false, false, false, false, false, false, false] (by simp only [List.getElem?_toArray, List.getElem?_cons_succ, List.getElem?_cons_zero]; rfl) (by rfl) (by kernel_rfl) (by kernel_rfl) (by kernel_rfl) (fun _ _ _ _ h => h) rfl (by rfl) ?_
      apply Exists.intro
      apply And.intro
      · intro W hW
        exact exec_load_row rfl rfl (hB.below hW) Try.underlying27 (by rw [h8]; exact infoH)
      (try simp only [Act.put, List.setIfInBounds_toArray]); (try simp only [List.set_cons_succ]); (try simp only [List.set_cons_zero])
      refine r_flt RB_refl 6 64 #[true, true, true, true, true, true, true, false, false, false, false, false, false, false, false, false, false, false, false, false, false] (by simp only [List.getElem?_toArray, List.getElem?_cons_succ, List.getElem?_cons_zero]; rfl) (by rfl) (by kernel_rfl) (by kernel_rfl) (by kernel_rfl) (fun _ _ _ _ h => h) rfl (by rfl) ?_
      apply Exists.intro
      apply And.intro
      · intro W hW
        first | (go_simp; with_reducible rfl) | go_simp
      (try simp only [Act.put, List.setIfInBounds_toArray]); (try simp only [List.set_cons_succ]); (try simp only [List.set_cons_zero])
      refine r_flt RB_refl 8 66 #[true, true, true, true, true, true, true, false, true, false, false, false, false, false, false, false, false, false, false, false, false] (by simp only [List.getElem?_toArray, List.getElem?_cons_succ, List.getElem?_cons_zero]; rfl) (by rfl) (by kernel_rfl) (by kernel_rfl) (by kernel_rfl) (fun _ _ _ _ h => h) rfl (by rfl) ?_
      apply Exists.intro
      apply And.intro
      · intro W hW
        exact exec_load_row rfl rfl (hB.below hW) Try.underlying27 (by rw [h8]; exact infoH)
      (try simp only [Act.put, List.setIfInBounds_toArray]); (try simp only [List.set_cons_succ]); (try simp only [List.set_cons_zero])
      refine r_flt RB_refl 9 67 #[true, true, true, true, true, true, true, false, true, true, false, false, false, false, false, false, false, false, false, false, false] (by simp only [List.getElem?_toArray, List.getElem?_cons_succ, List.getElem?_cons_zero]; rfl) (by rfl) (by kernel_rfl) (by kernel_rfl) (by kernel_rfl) (fun _ _ _ _ h => h) rfl (by rfl) ?_
      apply Exists.intro
      apply And.intro
      · intro W hW
        first | (go_simp; with_reducible rfl) | go_simp
      (try simp only [Act.put, List.setIfInBounds_toArray]); (try simp only [List.set_cons_succ]); (try simp only [List.set_cons_zero])
      refine r_one RB_trans 7 (by kernel_rfl) ?_
      refine alt_call 65 #[true, true, true, true, true, true, true, true, true, true, false, false, false, false, false, false, false, false, false, false, false] (by simp only [List.getElem?_toArray, List.getElem?_cons_succ, List.getElem?_cons_zero]; rfl) (by rfl) rfl (by rfl) (by go_simp; first | exact ⟨rfl, rfl⟩ | rfl) ?_
      with_reducible refine (hf1 _ hr).mono ?_
      rintro e' x2 ⟨rfl, bp⟩
      refine ⟨_, rfl, bp, ?_⟩
      have hB := hB.below bp
      have hr := hr.below bp
      have bb := bb.thenB' bp
      clear bp
      (try simp only [Act.put, List.setIfInBounds_toArray]); (try simp only [List.set_cons_succ]); (try simp only [List.set_cons_zero])
      refine r_one RB_trans 10 (by kernel_rfl) ?_
      refine alt_call 68 #[true, true, true, true, true, true, true, true, true, true, true, false, false, false, false, false, false, false, false, false, false] (by simp only [List.getElem?_toArray, List.getElem?_cons_succ, List.getElem?_cons_zero]; rfl) (by rfl) rfl (by rfl) (by go_simp; first | exact ⟨rfl, rfl⟩ | rfl) ?_
      with_reducible refine (hf2 _ hr).mono ?_
      rintro e' x3 ⟨rfl, bp⟩
      refine ⟨_, rfl, bp, ?_⟩
      have hB := hB.below bp
      have hr := hr.below bp
      have bb := bb.thenB' bp
      clear bp
      (try simp only [Act.put, List.setIfInBounds_toArray]); (try simp only [List.set_cons_succ]); (try simp only [List.set_cons_zero])
      refine r_flt RB_refl 11 69 #[true, true, true, true, true, true, true, true, true, true, true, true, false, false, false, false, false, false, false, false, false] (by simp only [List.getElem?_toArray, List.getElem?_cons_succ, List.getElem?_cons_zero]; rfl) (by rfl) (by kernel_rfl) (by kernel_rfl) (by kernel_rfl) (fun _ _ _ _ h => h) rfl (by rfl) ?_
      apply Exists.intro
      apply And.intro
      · intro W hW
        first | (go_simp; with_reducible rfl) | go_simp
      (try simp only [Act.put, List.setIfInBounds_toArray]); (try simp only [List.set_cons_succ]); (try simp only [List.set_cons_zero])
      refine r_flt RB_refl 12 70 #[true, true, true, true, true, true, true, true, true, true, true, true, true, false, false, false, false, false, false, false, false] (by simp only [List.getElem?_toArray, List.getElem?_cons_succ, List.getElem?_cons_zero]; rfl) (by rfl) (by kernel_rfl) (by kernel_rfl) (by kernel_rfl) (fun _ _ _ _ h => h) rfl (by rfl) ?_
      apply Exists.intro
      apply And.intro
      · intro W hW
        first | (go_simp; with_reducible rfl) | go_simp
      (try simp only [Act.put, List.setIfInBounds_toArray]); (try simp only [List.set_cons_succ]); (try simp only [List.set_cons_zero])
      refine r_flt RB_refl 13 71 #[true, true, true, true, true, true, true, true, true, true, true, true, true, true, false, false, false, false, false, false, false] (by simp only [List.getElem?_toArray, List.getElem?_cons_succ, List.getElem?_cons_zero]; rfl) (by rfl) (by kernel_rfl) (by kernel_rfl) (by kernel_rfl) (fun _ _ _ _ h => h) rfl (by rfl) ?_
      apply Exists.intro
      apply And.intro
      · intro W hW
        first | (go_simp; with_reducible rfl) | go_simp
      (try simp only [Act.put, List.setIfInBounds_toArray]); (try simp only [List.set_cons_succ]); (try simp only [List.set_cons_zero])
      refine r_flt RB_refl 14 72 #[true, true, true, true, true, true, true, true, true, true, true, true, true, true, true, false, false, false, false, false, false] (by simp only [List.getElem?_toArray, List.getElem?_cons_succ, List.getElem?_cons_zero]; rfl) (by rfl) (by kernel_rfl) (by kernel_rfl) (by kernel_rfl) (fun _ _ _ _ h => h) rfl (by rfl) ?_
      apply Exists.intro
      apply And.intro
      · intro W hW
        exact exec_load_row rfl rfl (hB.below hW) Try.underlying27 (by rw [h8]; exact infoH)
      (try simp only [Act.put, List.setIfInBounds_toArray]); (try simp only [List.set_cons_succ]); (try simp only [List.set_cons_zero])
      refine r_flt RB_refl 16 74 #[true, true, true, true, true, true, true, true, true, true, true, true, true, true, true, false, true, false, false, false, false] (by simp only [List.getElem?_toArray, List.getElem?_cons_succ, List.getElem?_cons_zero]; rfl) (by rfl) (by kernel_rfl) (by kernel_rfl) (by kernel_rfl) (fun _ _ _ _ h => h) rfl (by rfl) ?_
      apply Exists.intro
      apply And.intro
      · intro W hW
        exact exec_load_row rfl rfl (hB.below hW) Try.underlying27 (by rw [h8]; exact infoH)
      (try simp only [Act.put, List.setIfInBounds_toArray]); (try simp only [List.set_cons_succ]); (try simp only [List.set_cons_zero])
      refine r_one RB_trans 15 (by kernel_rfl) ?_
      refine alt_call 73 #[true, true, true, true, true, true, true, true, true, true, true, true, true, true, true, true, true, false, false, false, false] (by simp only [List.getElem?_toArray, List.getElem?_cons_succ, List.getElem?_cons_zero]; rfl) (by rfl) rfl (by rfl) (by go_simp; first | exact ⟨rfl, rfl⟩ | rfl) ?_
      with_reducible refine (hn1 _ hr).mono ?_
      rintro e' x4 ⟨rfl, bp⟩
      refine ⟨_, rfl, bp, ?_⟩
      have hB := hB.below bp
      have hr := hr.below bp
      have bb := bb.thenB' bp
      clear bp
      (try simp only [Act.put, List.setIfInBounds_toArray]); (try simp only [List.set_cons_succ]); (try simp only [List.set_cons_zero])
      refine r_one RB_trans 17 (by kernel_rfl) ?_
      refine alt_call 75 #[true, true, true, true, true, true, true, true, true, true, true, true, true, true, true, true, true, true, false, false, false] (by simp only [List.getElem?_toArray, List.getElem?_cons_succ, List.getElem?_cons_zero]; rfl) (by rfl) rfl (by rfl) (by go_simp; first | exact ⟨rfl, rfl⟩ | rfl) ?_
      with_reducible refine (hn2 _ hr).mono ?_
      rintro e' x5 ⟨rfl, bp⟩
      refine ⟨_, rfl, bp, ?_⟩
      have hB := hB.below bp
      have hr := hr.below bp
      have bb := bb.thenB' bp
      clear bp
      (try simp only [Act.put, List.setIfInBounds_toArray]); (try simp only [List.set_cons_succ]); (try simp only [List.set_cons_zero])
      refine r_flt RB_refl 18 76 #[true, true, true, true, true, true, true, true, true, true, true, true, true, true, true, true, true, true, true, false, false] (by simp only [List.getElem?_toArray, List.getElem?_cons_succ, List.getElem?_cons_zero]; rfl) (by rfl) (by kernel_rfl) (by kernel_rfl) (by kernel_rfl) (fun _ _ _ _ h => h) rfl (by rfl) ?_
      apply Exists.intro
      apply And.intro
      · intro W hW
        first | (go_simp; with_reducible rfl) | go_simp
      (try simp only [Act.put, List.setIfInBounds_toArray]); (try simp only [List.set_cons_succ]); (try simp only [List.set_cons_zero])
      refine r_flt RB_refl 19 77 #[true, true, true, true, true, true, true, true, true, true, true, true, true, true, true, true, true, true, true, true, false] (by simp only [List.getElem?_toArray, List.getElem?_cons_succ, List.getElem?_cons_zero]; rfl) (by rfl) (by kernel_rfl) (by kernel_rfl) (by kernel_rfl) (fun _ _ _ _ h => h) rfl (by rfl) ?_
      apply Exists.intro
      apply And.intro
      · intro W hW
        first | (go_simp; with_reducible rfl) | go_simp
      (try simp only [Act.put, List.setIfInBounds_toArray]); (try simp only [List.set_cons_succ]); (try simp only [List.set_cons_zero])
      refine r_flt RB_refl 20 6 #[true, true, true, true, true, true, true, true, true, true, true, true, true, true, true, true, true, true, true, true, true] (by simp only [List.getElem?_toArray, List.getElem?_cons_succ, List.getElem?_cons_zero]; rfl) (by rfl) (by kernel_rfl) (by kernel_rfl) (by kernel_rfl) (fun _ _ _ _ h => h) rfl (by rfl) ?_
      apply Exists.intro
      apply And.intro
      · intro W hW
        first | (go_simp; with_reducible rfl) | go_simp
      (try simp only [Act.put, List.setIfInBounds_toArray]); (try simp only [List.set_cons_succ]); (try simp only [List.set_cons_zero])
      refine r_done (by kernel_rfl) ?_
      go_wp2_with fail
      go_ret
      exact ⟨rfl, bb⟩
end Go.Proofs.Ytpgfhbkggchliaa
