/- The law AbstractDoes: the walk. -/
import Derived.Test.YtcdodchjgadcoaaAbU
namespace Go.Proofs.Ytcdodchjgadcoaa
open Go.RowKit
set_option linter.unusedVariables false
set_option maxRecDepth 100000

theorem im_new {w w' : World} {o : Obj} (m : Mod (· = w.heap.size) (w.alloc o) w') : Below w.heap.size w w' := (below_new w o).thenM m (below_new w o).size fun i hi e => by omega
theorem box2 (i : ImV) (e : E7) (A : Option Addr) (c : Nat) (w : World) :
    let w0 := (w.alloc (.cells (imA i) 25)).alloc (.cells (enA e A c) 41)
    Blk w0 w.heap.size 25 (imA i) ∧ Blk w0 (w.heap.size + 1) 41 (enA e A c) ∧ Below w.heap.size w w0 := by
  intro w0
  have b1 := below_new w (.cells (imA i) 25)
  have hB := Blk.new w 25 (imA i)
  have s1 : (w.alloc (.cells (imA i) 25)).heap.size = w.heap.size + 1 := Array.size_push ..
  have b2 := below_new (w.alloc (.cells (imA i) 25)) (.cells (enA e A c) 41)
  have hE := Blk.new (w.alloc (.cells (imA i) 25)) 41 (enA e A c)
  rw [s1] at hE
  exact ⟨hB.below b2, hE, b1.thenB' b2⟩

set_option maxHeartbeats 8000000 in
theorem does_walk (W : World) (i : ImV) (r0 : ImR W (Old W) i) (ii : ImI i) (e : E7) (A : Option Addr) (c : Nat) (rd : RdB W (Old W) A e.data) (hdc : e.data.length ≤ c) (hcm : c ≤ 9223372036854775807) (hn : A = none → c = 0) (ei : EnI e) :
    Calls Try.prog 7 #[.agg (imA i), enV e A c] W fun e w' => e = .returned (.bool true) ∧ Below W.heap.size W w' := by
  obtain ⟨hB, hE, bb⟩ := box2 i e A c W
  replace r0 := r0.below bb
  replace rd := rd.below bb
  clear ii hn ei
  unfold enV
  generalize hw0 : (W.alloc (.cells (imA i) 25)).alloc (.cells (enA e A c) 41) = w0 at *
  have haw := awake18 w0
  go_enter Try.func7, Try.ntmps7
  go_wp2_with fail
  refine haw.mono ?_
  clear haw hw0
  rintro e1 w1 ⟨rfl, b_⟩
  replace hB := hB.below b_
  replace hE := hE.below b_
  replace r0 := r0.below b_
  replace rd := rd.below b_
  replace bb := bb.thenB' b_
  clear b_
  go_wp2_with first
    | (with_reducible show wpList _ _ _ _ _ _
       refine wpList_load_row rfl 25 (.tmp 2) rfl W.heap.size rfl 25 _ (0, 0) _ hB Try.underlying25 rfl infoIm ?_)
  refine (few_any _ i _ r0).mono ?_
  rintro e w2 ⟨rfl, b_⟩
  replace hB := hB.below b_
  replace hE := hE.below b_
  replace r0 := r0.below b_
  replace rd := rd.below b_
  replace bb := bb.thenB' b_
  clear b_
  cases hf : fewB i.p
  focus
    go_wp2_with fail
    go_ret
    exact ⟨rfl, bb⟩
  clear hf
  have c6 := hE.cell 6
  unfold enA at c6
  simp at c6
  by_cases h1 : (1000 : Int) < (e.data.length : Int)
  focus
    go_wp2_with fail
    go_ret
    exact ⟨rfl, bb⟩
  go_upto_region 8 with fail
  clear c6
  have hmay := rMay18_any _ i w2 r0
  generalize hm : mayI i.p = mm at *
  go_wp2_with first
    | (with_reducible show wpList _ _ _ _ _ _
       refine wpList_load_row rfl 25 (.tmp 2) rfl W.heap.size rfl 25 _ (0, 0) _ hB Try.underlying25 rfl infoIm ?_)
  refine hmay.mono ?_
  clear hmay
  rintro e3 w3 ⟨rfl, b_⟩
  replace hB := hB.below b_
  replace hE := hE.below b_
  replace r0 := r0.below b_
  replace rd := rd.below b_
  replace bb := bb.thenB' b_
  clear b_
  have HM := Lib.hid hm
  clear hm
  go_upto_if 28 with fail
  go_cut [7] from 28 to 28 (fun s wx => s = .int .i64 (eno mm 1) ∧ w3 = wx)
  case first =>
    cases mm
    · go_wp2_with fail
      go_meet
      case rel => exact ⟨rfl, rfl⟩
    · go_wp2_with fail
      go_meet
      case rel => exact ⟨rfl, rfl⟩
  case rest =>
    obtain ⟨rfl, rfl⟩ := hcut
    have hd := Do_any _ _ i e A c w3 r0 rd hdc hcm
    generalize hdp : doP i.p e = dp at *
    obtain ⟨pp, nn_, ee⟩ := dp
    unfold enV at hd
    dsimp only at hd
    go_wp2_with first
      | (with_reducible show wpList _ _ _ _ _ _
         refine wpList_load_row rfl 25 (.tmp 2) rfl W.heap.size rfl 25 _ (0, 0) _ hB Try.underlying25 rfl infoIm ?_)
      | (with_reducible show wpList _ _ _ _ _ _
         refine wpList_load_row rfl 41 (.tmp 3) rfl (W.heap.size + 1) rfl 41 _ (0, 0) _ hE Try.underlying41 rfl infoEy ?_)
    refine hd.mono ?_
    clear hd
    rintro e4 w4 ⟨ix, rfl, hx, oX, b_⟩
    replace hB := hB.below b_
    replace hE := hE.below b_
    replace r0 := r0.below b_
    replace rd := rd.below b_
    replace bb := bb.thenB' b_
    clear b_
    have rX := oX.rd
    clear oX
    have hd := fun V (q : ImR V (Old W) i) (q2 : RdB V (Old W) A e.data) => rDo_any _ _ i e A c V q q2 hdc hcm
    rw [hdp] at hd
    unfold enV at hd
    dsimp only at hd
    have HDP := Lib.hid hdp
    clear hdp
    go_wp2_with first
      | (with_reducible show wpList _ _ _ _ _ _
         refine wpList_rowB rfl 25 (.tmp 8) (.tmp 33) rfl w4.heap.size 25 _ (imA ix) rfl rfl (Blk.new w4 25 #[.slice none 0 0, .slice none 0 0, .int .i64 0]) infoIm rfl (imA_ok _) ?_
         intro w5 hX mm
         have nn : Below w4.heap.size w4 w5 := im_new mm
         replace hB := hB.below nn
         replace hE := hE.below nn
         replace r0 := r0.below nn
         replace rd := rd.below nn
         replace rX := rX.below nn
         replace bb := bb.thenB' nn
         clear nn mm)
      | (with_reducible show wpList _ _ _ _ _ _
         refine wpList_load_row rfl 25 (.tmp 2) rfl W.heap.size rfl 25 _ (0, 0) _ hB Try.underlying25 rfl infoIm ?_)
      | (with_reducible show wpList _ _ _ _ _ _
         refine wpList_load_row rfl 41 (.tmp 3) rfl (W.heap.size + 1) rfl 41 _ (0, 0) _ hE Try.underlying41 rfl infoEy ?_)
    refine (hd _ r0 rd).mono ?_
    clear hd
    rintro e6 w6 ⟨iy, rfl, hy, rY, b_⟩
    replace hB := hB.below b_
    replace hE := hE.below b_
    replace r0 := r0.below b_
    replace rd := rd.below b_
    replace rX := rX.below b_
    replace hX := hX.below b_
    replace bb := bb.thenB' b_
    clear b_
    go_upto_region 12 with first
      | (with_reducible show wpList _ _ _ _ _ _
         refine wpList_rowB rfl 25 (.tmp 11) (.tmp 40) rfl w6.heap.size 25 _ (imA iy) rfl rfl (Blk.new w6 25 #[.slice none 0 0, .slice none 0 0, .int .i64 0]) infoIm rfl (imA_ok _) ?_
         intro w7 hY mm
         have nn : Below w6.heap.size w6 w7 := im_new mm
         replace hB := hB.below nn
         replace hE := hE.below nn
         replace r0 := r0.below nn
         replace rd := rd.below nn
         replace rX := rX.below nn
         replace hX := hX.below nn
         replace rY := rY.below nn
         replace bb := bb.thenB' nn
         clear nn mm)
    have hck := fun V (q : ImR V (Old W) i) => Check18_any _ i V q
    rw [HM.out] at hck
    have hxy : sameI ix.p iy.p = true := by rw [hx, hy]; exact sameI_self _
    have hs1 := fun D D' V (a : ImR V D ix) (b : ImR V D' iy) => rSame18_any _ _ ix iy V a b
    have hs2 := fun D D' V (a : ImR V D ix) (b : ImR V D' iy) => Same18_any _ _ ix iy V a b
    rw [hxy] at hs1 hs2
    clear hx hy hxy
    refine r_start (R := RB) (by rfl) (n := 34) (L := #[false, false, false, false, false, false, false, false, false, false, false, false, false, false, false, false, false, false, false, false, false, false, false, false, false, false, false, false, false, false, false, false, false, false]) rfl rfl ?_
    have bd : Below w7.heap.size w7 w7.drew := (Below.refl _ _).drew
    replace hB := hB.below bd
    replace hE := hE.below bd
    replace r0 := r0.below bd
    replace hX := hX.below bd
    replace rX := rX.below bd
    replace hY := hY.below bd
    replace rY := rY.below bd
    replace bb := bb.thenB' bd
    clear bd
    generalize w7.drew = wd at *
    refine r_flt RB_refl 0 43 #[true, false, false, false, false, false, false, false, false, false, false, false, false, false, false, false, false, false, false, false, false, false, false, false, false, false, false, false, false, false, false, false, false, false] (by simp only [List.getElem?_toArray, List.getElem?_cons_zero]; rfl) (by rfl) (by kernel_rfl) (by kernel_rfl) (by kernel_rfl) (fun _ _ _ _ h => h) rfl (by rfl) ?_
    apply Exists.intro
    apply And.intro
    · intro W hW
      exact exec_load_row rfl rfl (hB.below hW) Try.underlying25 infoIm
    (try simp only [Act.put, List.setIfInBounds_toArray]); (try simp only [List.set_cons_succ]); (try simp only [List.set_cons_zero])
    refine r_flt RB_refl 2 45 #[true, false, true, false, false, false, false, false, false, false, false, false, false, false, false, false, false, false, false, false, false, false, false, false, false, false, false, false, false, false, false, false, false, false] (by simp only [List.getElem?_toArray, List.getElem?_cons_succ, List.getElem?_cons_zero]; rfl) (by rfl) (by kernel_rfl) (by kernel_rfl) (by kernel_rfl) (fun _ _ _ _ h => h) rfl (by rfl) ?_
    apply Exists.intro
    apply And.intro
    · intro W hW
      first | (go_simp; with_reducible rfl) | go_simp
    (try simp only [Act.put, List.setIfInBounds_toArray]); (try simp only [List.set_cons_succ]); (try simp only [List.set_cons_zero])
    refine r_one RB_trans 1 (by kernel_rfl) ?_
    refine alt_call 44 #[true, true, true, false, false, false, false, false, false, false, false, false, false, false, false, false, false, false, false, false, false, false, false, false, false, false, false, false, false, false, false, false, false, false] (by simp only [List.getElem?_toArray, List.getElem?_cons_succ, List.getElem?_cons_zero]; rfl) (by rfl) rfl (by rfl) (by go_simp; first | exact ⟨rfl, rfl⟩ | rfl) ?_
    with_reducible refine (hck _ r0).mono ?_
    rintro e' w8 ⟨rfl, b_⟩
    refine ⟨_, rfl, b_, ?_⟩
    replace hB := hB.below b_
    replace hE := hE.below b_
    replace r0 := r0.below b_
    replace hX := hX.below b_
    replace rX := rX.below b_
    replace hY := hY.below b_
    replace rY := rY.below b_
    replace bb := bb.thenB' b_
    clear b_
    (try simp only [Act.put, List.setIfInBounds_toArray]); (try simp only [List.set_cons_succ]); (try simp only [List.set_cons_zero])
    refine r_flt RB_refl 3 46 #[true, true, true, true, false, false, false, false, false, false, false, false, false, false, false, false, false, false, false, false, false, false, false, false, false, false, false, false, false, false, false, false, false, false] (by simp only [List.getElem?_toArray, List.getElem?_cons_succ, List.getElem?_cons_zero]; rfl) (by rfl) (by kernel_rfl) (by kernel_rfl) (by kernel_rfl) (fun _ _ _ _ h => h) rfl (by rfl) ?_
    apply Exists.intro
    apply And.intro
    · intro W hW
      first | (go_simp; with_reducible rfl) | go_simp
    (try simp only [Act.put, List.setIfInBounds_toArray]); (try simp only [List.set_cons_succ]); (try simp only [List.set_cons_zero])
    refine r_flt RB_refl 4 47 #[true, true, true, true, true, false, false, false, false, false, false, false, false, false, false, false, false, false, false, false, false, false, false, false, false, false, false, false, false, false, false, false, false, false] (by simp only [List.getElem?_toArray, List.getElem?_cons_succ, List.getElem?_cons_zero]; rfl) (by rfl) (by kernel_rfl) (by kernel_rfl) (by kernel_rfl) (fun _ _ _ _ h => h) rfl (by rfl) ?_
    apply Exists.intro
    apply And.intro
    · intro W hW
      first | (go_simp; with_reducible rfl) | go_simp
    (try simp only [Act.put, List.setIfInBounds_toArray]); (try simp only [List.set_cons_succ]); (try simp only [List.set_cons_zero])
    refine r_flt RB_refl 5 48 #[true, true, true, true, true, true, false, false, false, false, false, false, false, false, false, false, false, false, false, false, false, false, false, false, false, false, false, false, false, false, false, false, false, false] (by simp only [List.getElem?_toArray, List.getElem?_cons_succ, List.getElem?_cons_zero]; rfl) (by rfl) (by kernel_rfl) (by kernel_rfl) (by kernel_rfl) (fun _ _ _ _ h => h) rfl (by rfl) ?_
    apply Exists.intro
    apply And.intro
    · intro W hW
      first | (go_simp; with_reducible rfl) | go_simp
    (try simp only [Act.put, List.setIfInBounds_toArray]); (try simp only [List.set_cons_succ]); (try simp only [List.set_cons_zero])
    refine r_flt RB_refl 6 49 #[true, true, true, true, true, true, true, false, false, false, false, false, false, false, false, false, false, false, false, false, false, false, false, false, false, false, false, false, false, false, false, false, false, false] (by simp only [List.getElem?_toArray, List.getElem?_cons_succ, List.getElem?_cons_zero]; rfl) (by rfl) (by kernel_rfl) (by kernel_rfl) (by kernel_rfl) (fun _ _ _ _ h => h) rfl (by rfl) ?_
    apply Exists.intro
    apply And.intro
    · intro W hW
      first | (go_simp; with_reducible rfl) | go_simp
    (try simp only [Act.put, List.setIfInBounds_toArray]); (try simp only [List.set_cons_succ]); (try simp only [List.set_cons_zero])
    refine r_flt RB_refl 7 50 #[true, true, true, true, true, true, true, true, false, false, false, false, false, false, false, false, false, false, false, false, false, false, false, false, false, false, false, false, false, false, false, false, false, false] (by simp only [List.getElem?_toArray, List.getElem?_cons_succ, List.getElem?_cons_zero]; rfl) (by rfl) (by kernel_rfl) (by kernel_rfl) (by kernel_rfl) (fun _ _ _ _ h => h) rfl (by rfl) ?_
    apply Exists.intro
    apply And.intro
    · intro W hW
      first | (go_simp; with_reducible rfl) | go_simp
    (try simp only [Act.put, List.setIfInBounds_toArray]); (try simp only [List.set_cons_succ]); (try simp only [List.set_cons_zero])
    refine r_flt RB_refl 8 51 #[true, true, true, true, true, true, true, true, true, false, false, false, false, false, false, false, false, false, false, false, false, false, false, false, false, false, false, false, false, false, false, false, false, false] (by simp only [List.getElem?_toArray, List.getElem?_cons_succ, List.getElem?_cons_zero]; rfl) (by rfl) (by kernel_rfl) (by kernel_rfl) (by kernel_rfl) (fun _ _ _ _ h => h) rfl (by rfl) ?_
    apply Exists.intro
    apply And.intro
    · intro W hW
      first | (go_simp; with_reducible rfl) | go_simp
    (try simp only [Act.put, List.setIfInBounds_toArray]); (try simp only [List.set_cons_succ]); (try simp only [List.set_cons_zero])
    refine r_flt RB_refl 9 52 #[true, true, true, true, true, true, true, true, true, true, false, false, false, false, false, false, false, false, false, false, false, false, false, false, false, false, false, false, false, false, false, false, false, false] (by simp only [List.getElem?_toArray, List.getElem?_cons_succ, List.getElem?_cons_zero]; rfl) (by rfl) (by kernel_rfl) (by kernel_rfl) (by kernel_rfl) (fun _ _ _ _ h => h) rfl (by rfl) ?_
    apply Exists.intro
    apply And.intro
    · intro W hW
      first | (go_simp; with_reducible rfl) | go_simp
    (try simp only [Act.put, List.setIfInBounds_toArray]); (try simp only [List.set_cons_succ]); (try simp only [List.set_cons_zero])
    refine r_flt RB_refl 10 53 #[true, true, true, true, true, true, true, true, true, true, true, false, false, false, false, false, false, false, false, false, false, false, false, false, false, false, false, false, false, false, false, false, false, false] (by simp only [List.getElem?_toArray, List.getElem?_cons_succ, List.getElem?_cons_zero]; rfl) (by rfl) (by kernel_rfl) (by kernel_rfl) (by kernel_rfl) (fun _ _ _ _ h => h) rfl (by rfl) ?_
    apply Exists.intro
    apply And.intro
    · intro W hW
      first | (go_simp; with_reducible rfl) | go_simp
    (try simp only [Act.put, List.setIfInBounds_toArray]); (try simp only [List.set_cons_succ]); (try simp only [List.set_cons_zero])
    refine r_flt RB_refl 11 54 #[true, true, true, true, true, true, true, true, true, true, true, true, false, false, false, false, false, false, false, false, false, false, false, false, false, false, false, false, false, false, false, false, false, false] (by simp only [List.getElem?_toArray, List.getElem?_cons_succ, List.getElem?_cons_zero]; rfl) (by rfl) (by kernel_rfl) (by kernel_rfl) (by kernel_rfl) (fun _ _ _ _ h => h) rfl (by rfl) ?_
    apply Exists.intro
    apply And.intro
    · intro W hW
      first | (go_simp; with_reducible rfl) | go_simp
    (try simp only [Act.put, List.setIfInBounds_toArray]); (try simp only [List.set_cons_succ]); (try simp only [List.set_cons_zero])
    refine r_flt RB_refl 12 55 #[true, true, true, true, true, true, true, true, true, true, true, true, true, false, false, false, false, false, false, false, false, false, false, false, false, false, false, false, false, false, false, false, false, false] (by simp only [List.getElem?_toArray, List.getElem?_cons_succ, List.getElem?_cons_zero]; rfl) (by rfl) (by kernel_rfl) (by kernel_rfl) (by kernel_rfl) (fun _ _ _ _ h => h) rfl (by rfl) ?_
    apply Exists.intro
    apply And.intro
    · intro W hW
      first | (go_simp; with_reducible rfl) | go_simp
    (try simp only [Act.put, List.setIfInBounds_toArray]); (try simp only [List.set_cons_succ]); (try simp only [List.set_cons_zero])
    refine r_flt RB_refl 13 56 #[true, true, true, true, true, true, true, true, true, true, true, true, true, true, false, false, false, false, false, false, false, false, false, false, false, false, false, false, false, false, false, false, false, false] (by simp only [List.getElem?_toArray, List.getElem?_cons_succ, List.getElem?_cons_zero]; rfl) (by rfl) (by kernel_rfl) (by kernel_rfl) (by kernel_rfl) (fun _ _ _ _ h => h) rfl (by rfl) ?_
    apply Exists.intro
    apply And.intro
    · intro W hW
      first | (go_simp; with_reducible rfl) | go_simp
    (try simp only [Act.put, List.setIfInBounds_toArray]); (try simp only [List.set_cons_succ]); (try simp only [List.set_cons_zero])
    refine r_flt RB_refl 14 57 #[true, true, true, true, true, true, true, true, true, true, true, true, true, true, true, false, false, false, false, false, false, false, false, false, false, false, false, false, false, false, false, false, false, false] (by simp only [List.getElem?_toArray, List.getElem?_cons_succ, List.getElem?_cons_zero]; rfl) (by rfl) (by kernel_rfl) (by kernel_rfl) (by kernel_rfl) (fun _ _ _ _ h => h) rfl (by rfl) ?_
    apply Exists.intro
    apply And.intro
    · intro W hW
      first | (go_simp; with_reducible rfl) | go_simp
    (try simp only [Act.put, List.setIfInBounds_toArray]); (try simp only [List.set_cons_succ]); (try simp only [List.set_cons_zero])
    refine r_flt RB_refl 15 58 #[true, true, true, true, true, true, true, true, true, true, true, true, true, true, true, true, false, false, false, false, false, false, false, false, false, false, false, false, false, false, false, false, false, false] (by simp only [List.getElem?_toArray, List.getElem?_cons_succ, List.getElem?_cons_zero]; rfl) (by rfl) (by kernel_rfl) (by kernel_rfl) (by kernel_rfl) (fun _ _ _ _ h => h) rfl (by rfl) ?_
    apply Exists.intro
    apply And.intro
    · intro W hW
      exact exec_load_row rfl rfl (hX.below hW) Try.underlying25 infoIm
    (try simp only [Act.put, List.setIfInBounds_toArray]); (try simp only [List.set_cons_succ]); (try simp only [List.set_cons_zero])
    refine r_flt RB_refl 16 59 #[true, true, true, true, true, true, true, true, true, true, true, true, true, true, true, true, true, false, false, false, false, false, false, false, false, false, false, false, false, false, false, false, false, false] (by simp only [List.getElem?_toArray, List.getElem?_cons_succ, List.getElem?_cons_zero]; rfl) (by rfl) (by kernel_rfl) (by kernel_rfl) (by kernel_rfl) (fun _ _ _ _ h => h) rfl (by rfl) ?_
    apply Exists.intro
    apply And.intro
    · intro W hW
      exact exec_load_row rfl rfl (hY.below hW) Try.underlying25 infoIm
    (try simp only [Act.put, List.setIfInBounds_toArray]); (try simp only [List.set_cons_succ]); (try simp only [List.set_cons_zero])
    refine r_one RB_trans 17 (by kernel_rfl) ?_
    refine alt_call 60 #[true, true, true, true, true, true, true, true, true, true, true, true, true, true, true, true, true, true, false, false, false, false, false, false, false, false, false, false, false, false, false, false, false, false] (by simp only [List.getElem?_toArray, List.getElem?_cons_succ, List.getElem?_cons_zero]; rfl) (by rfl) rfl (by rfl) (by go_simp; first | exact ⟨rfl, rfl⟩ | rfl) ?_
    with_reducible refine (hs1 _ _ _ rX rY).mono ?_
    rintro e' w9 ⟨rfl, b_⟩
    refine ⟨_, rfl, b_, ?_⟩
    replace hB := hB.below b_
    replace hE := hE.below b_
    replace r0 := r0.below b_
    replace hX := hX.below b_
    replace rX := rX.below b_
    replace hY := hY.below b_
    replace rY := rY.below b_
    replace bb := bb.thenB' b_
    clear b_
    (try simp only [Act.put, List.setIfInBounds_toArray]); (try simp only [List.set_cons_succ]); (try simp only [List.set_cons_zero])
    refine r_flt RB_refl 18 61 #[true, true, true, true, true, true, true, true, true, true, true, true, true, true, true, true, true, true, true, false, false, false, false, false, false, false, false, false, false, false, false, false, false, false] (by simp only [List.getElem?_toArray, List.getElem?_cons_succ, List.getElem?_cons_zero]; rfl) (by rfl) (by kernel_rfl) (by kernel_rfl) (by kernel_rfl) (fun _ _ _ _ h => h) rfl (by rfl) ?_
    apply Exists.intro
    apply And.intro
    · intro W hW
      first | (go_simp; with_reducible rfl) | go_simp
    (try simp only [Act.put, List.setIfInBounds_toArray]); (try simp only [List.set_cons_succ]); (try simp only [List.set_cons_zero])
    refine r_flt RB_refl 19 62 #[true, true, true, true, true, true, true, true, true, true, true, true, true, true, true, true, true, true, true, true, false, false, false, false, false, false, false, false, false, false, false, false, false, false] (by simp only [List.getElem?_toArray, List.getElem?_cons_succ, List.getElem?_cons_zero]; rfl) (by rfl) (by kernel_rfl) (by kernel_rfl) (by kernel_rfl) (fun _ _ _ _ h => h) rfl (by rfl) ?_
    apply Exists.intro
    apply And.intro
    · intro W hW
      first | (go_simp; with_reducible rfl) | go_simp
    (try simp only [Act.put, List.setIfInBounds_toArray]); (try simp only [List.set_cons_succ]); (try simp only [List.set_cons_zero])
    refine r_flt RB_refl 20 63 #[true, true, true, true, true, true, true, true, true, true, true, true, true, true, true, true, true, true, true, true, true, false, false, false, false, false, false, false, false, false, false, false, false, false] (by simp only [List.getElem?_toArray, List.getElem?_cons_succ, List.getElem?_cons_zero]; rfl) (by rfl) (by kernel_rfl) (by kernel_rfl) (by kernel_rfl) (fun _ _ _ _ h => h) rfl (by rfl) ?_
    apply Exists.intro
    apply And.intro
    · intro W hW
      exact exec_load_row rfl rfl (hX.below hW) Try.underlying25 infoIm
    (try simp only [Act.put, List.setIfInBounds_toArray]); (try simp only [List.set_cons_succ]); (try simp only [List.set_cons_zero])
    refine r_flt RB_refl 21 64 #[true, true, true, true, true, true, true, true, true, true, true, true, true, true, true, true, true, true, true, true, true, true, false, false, false, false, false, false, false, false, false, false, false, false] (by simp only [List.getElem?_toArray, List.getElem?_cons_succ, List.getElem?_cons_zero]; rfl) (by rfl) (by kernel_rfl) (by kernel_rfl) (by kernel_rfl) (fun _ _ _ _ h => h) rfl (by rfl) ?_
    apply Exists.intro
    apply And.intro
    · intro W hW
      exact exec_load_row rfl rfl (hY.below hW) Try.underlying25 infoIm
    (try simp only [Act.put, List.setIfInBounds_toArray]); (try simp only [List.set_cons_succ]); (try simp only [List.set_cons_zero])
    refine r_one RB_trans 22 (by kernel_rfl) ?_
    refine alt_call 65 #[true, true, true, true, true, true, true, true, true, true, true, true, true, true, true, true, true, true, true, true, true, true, true, false, false, false, false, false, false, false, false, false, false, false] (by simp only [List.getElem?_toArray, List.getElem?_cons_succ, List.getElem?_cons_zero]; rfl) (by rfl) rfl (by rfl) (by go_simp; first | exact ⟨rfl, rfl⟩ | rfl) ?_
    with_reducible refine (hs2 _ _ _ rX rY).mono ?_
    rintro e' wa ⟨rfl, b_⟩
    refine ⟨_, rfl, b_, ?_⟩
    replace hB := hB.below b_
    replace hE := hE.below b_
    replace r0 := r0.below b_
    replace hX := hX.below b_
    replace rX := rX.below b_
    replace hY := hY.below b_
    replace rY := rY.below b_
    replace bb := bb.thenB' b_
    clear b_
    (try simp only [Act.put, List.setIfInBounds_toArray]); (try simp only [List.set_cons_succ]); (try simp only [List.set_cons_zero])
    refine r_flt RB_refl 23 66 #[true, true, true, true, true, true, true, true, true, true, true, true, true, true, true, true, true, true, true, true, true, true, true, true, false, false, false, false, false, false, false, false, false, false] (by simp only [List.getElem?_toArray, List.getElem?_cons_succ, List.getElem?_cons_zero]; rfl) (by rfl) (by kernel_rfl) (by kernel_rfl) (by kernel_rfl) (fun _ _ _ _ h => h) rfl (by rfl) ?_
    apply Exists.intro
    apply And.intro
    · intro W hW
      first | (go_simp; with_reducible rfl) | go_simp
    (try simp only [Act.put, List.setIfInBounds_toArray]); (try simp only [List.set_cons_succ]); (try simp only [List.set_cons_zero])
    refine r_flt RB_refl 24 67 #[true, true, true, true, true, true, true, true, true, true, true, true, true, true, true, true, true, true, true, true, true, true, true, true, true, false, false, false, false, false, false, false, false, false] (by simp only [List.getElem?_toArray, List.getElem?_cons_succ, List.getElem?_cons_zero]; rfl) (by rfl) (by kernel_rfl) (by kernel_rfl) (by kernel_rfl) (fun _ _ _ _ h => h) rfl (by rfl) ?_
    apply Exists.intro
    apply And.intro
    · intro W hW
      first | (go_simp; with_reducible rfl) | go_simp
    (try simp only [Act.put, List.setIfInBounds_toArray]); (try simp only [List.set_cons_succ]); (try simp only [List.set_cons_zero])
    refine r_flt RB_refl 25 68 #[true, true, true, true, true, true, true, true, true, true, true, true, true, true, true, true, true, true, true, true, true, true, true, true, true, true, false, false, false, false, false, false, false, false] (by simp only [List.getElem?_toArray, List.getElem?_cons_succ, List.getElem?_cons_zero]; rfl) (by rfl) (by kernel_rfl) (by kernel_rfl) (by kernel_rfl) (fun _ _ _ _ h => h) rfl (by rfl) ?_
    apply Exists.intro
    apply And.intro
    · intro W hW
      first | (go_simp; with_reducible rfl) | go_simp
    (try simp only [Act.put, List.setIfInBounds_toArray]); (try simp only [List.set_cons_succ]); (try simp only [List.set_cons_zero])
    refine r_flt RB_refl 26 69 #[true, true, true, true, true, true, true, true, true, true, true, true, true, true, true, true, true, true, true, true, true, true, true, true, true, true, true, false, false, false, false, false, false, false] (by simp only [List.getElem?_toArray, List.getElem?_cons_succ, List.getElem?_cons_zero]; rfl) (by rfl) (by kernel_rfl) (by kernel_rfl) (by kernel_rfl) (fun _ _ _ _ h => h) rfl (by rfl) ?_
    apply Exists.intro
    apply And.intro
    · intro W hW
      have c := (hE.below hW).cell 3
      unfold enA at c
      simp at c
      go_simp; rfl
    (try simp only [Act.put, List.setIfInBounds_toArray]); (try simp only [List.set_cons_succ]); (try simp only [List.set_cons_zero])
    refine r_flt RB_refl 28 71 #[true, true, true, true, true, true, true, true, true, true, true, true, true, true, true, true, true, true, true, true, true, true, true, true, true, true, true, false, true, false, false, false, false, false] (by simp only [List.getElem?_toArray, List.getElem?_cons_succ, List.getElem?_cons_zero]; rfl) (by rfl) (by kernel_rfl) (by kernel_rfl) (by kernel_rfl) (fun _ _ _ _ h => h) rfl (by rfl) ?_
    apply Exists.intro
    apply And.intro
    · intro W hW
      first | (go_simp; with_reducible rfl) | go_simp
    (try simp only [Act.put, List.setIfInBounds_toArray]); (try simp only [List.set_cons_succ]); (try simp only [List.set_cons_zero])
    refine r_flt RB_refl 29 72 #[true, true, true, true, true, true, true, true, true, true, true, true, true, true, true, true, true, true, true, true, true, true, true, true, true, true, true, false, true, true, false, false, false, false] (by simp only [List.getElem?_toArray, List.getElem?_cons_succ, List.getElem?_cons_zero]; rfl) (by rfl) (by kernel_rfl) (by kernel_rfl) (by kernel_rfl) (fun _ _ _ _ h => h) rfl (by rfl) ?_
    apply Exists.intro
    apply And.intro
    · intro W hW
      have c := (hE.below hW).cell 3
      unfold enA at c
      simp at c
      go_simp; rfl
    (try simp only [Act.put, List.setIfInBounds_toArray]); (try simp only [List.set_cons_succ]); (try simp only [List.set_cons_zero])
    refine r_one RB_trans 27 (by kernel_rfl) ?_
    refine alt_call 70 #[true, true, true, true, true, true, true, true, true, true, true, true, true, true, true, true, true, true, true, true, true, true, true, true, true, true, true, true, true, true, false, false, false, false] (by simp only [List.getElem?_toArray, List.getElem?_cons_succ, List.getElem?_cons_zero]; rfl) (by rfl) rfl (by rfl) (by go_simp; first | exact ⟨rfl, rfl⟩ | rfl) ?_
    with_reducible refine (New18_any e.off _).mono ?_
    rintro e' wb ⟨n1, rfl, hn1, on1, b_⟩
    refine ⟨_, rfl, b_, ?_⟩
    replace hB := hB.below b_
    replace hE := hE.below b_
    replace r0 := r0.below b_
    replace hX := hX.below b_
    replace rX := rX.below b_
    replace hY := hY.below b_
    replace rY := rY.below b_
    replace bb := bb.thenB' b_
    try replace rn1 := rn1.below b_
    try replace rn2 := rn2.below b_
    have rn1 := on1.rd
    clear b_ on1
    (try simp only [Act.put, List.setIfInBounds_toArray]); (try simp only [List.set_cons_succ]); (try simp only [List.set_cons_zero])
    refine r_one RB_trans 30 (by kernel_rfl) ?_
    refine alt_call 73 #[true, true, true, true, true, true, true, true, true, true, true, true, true, true, true, true, true, true, true, true, true, true, true, true, true, true, true, true, true, true, true, false, false, false] (by simp only [List.getElem?_toArray, List.getElem?_cons_succ, List.getElem?_cons_zero]; rfl) (by rfl) rfl (by rfl) (by go_simp; first | exact ⟨rfl, rfl⟩ | rfl) ?_
    with_reducible refine (rNew18_any e.off _).mono ?_
    rintro e' wc ⟨n2, rfl, hn2, on2, b_⟩
    refine ⟨_, rfl, b_, ?_⟩
    replace hB := hB.below b_
    replace hE := hE.below b_
    replace r0 := r0.below b_
    replace hX := hX.below b_
    replace rX := rX.below b_
    replace hY := hY.below b_
    replace rY := rY.below b_
    replace bb := bb.thenB' b_
    try replace rn1 := rn1.below b_
    try replace rn2 := rn2.below b_
    have rn2 := on2.rd
    clear b_ on2
    (try simp only [Act.put, List.setIfInBounds_toArray]); (try simp only [List.set_cons_succ]); (try simp only [List.set_cons_zero])
    refine r_one RB_trans 31 (by kernel_rfl) ?_
    refine alt_call 74 #[true, true, true, true, true, true, true, true, true, true, true, true, true, true, true, true, true, true, true, true, true, true, true, true, true, true, true, true, true, true, true, true, false, false] (by simp only [List.getElem?_toArray, List.getElem?_cons_succ, List.getElem?_cons_zero]; rfl) (by rfl) rfl (by rfl) (by go_simp; first | exact ⟨rfl, rfl⟩ | rfl) ?_
    with_reducible refine (rSame18_any _ _ n1 n2 _ rn1 rn2).mono ?_
    rw [show sameI n1.p n2.p = true from by rw [hn1, hn2]; exact sameI_self _]
    rintro e' wf ⟨rfl, b_⟩
    refine ⟨_, rfl, b_, ?_⟩
    replace bb := bb.thenB' b_
    (try simp only [Act.put, List.setIfInBounds_toArray]); (try simp only [List.set_cons_succ]); (try simp only [List.set_cons_zero])
    refine r_flt RB_refl 32 75 #[true, true, true, true, true, true, true, true, true, true, true, true, true, true, true, true, true, true, true, true, true, true, true, true, true, true, true, true, true, true, true, true, true, false] (by simp only [List.getElem?_toArray, List.getElem?_cons_succ, List.getElem?_cons_zero]; rfl) (by rfl) (by kernel_rfl) (by kernel_rfl) (by kernel_rfl) (fun _ _ _ _ h => h) rfl (by rfl) ?_
    apply Exists.intro
    apply And.intro
    · intro W hW
      first | (go_simp; with_reducible rfl) | go_simp
    (try simp only [Act.put, List.setIfInBounds_toArray]); (try simp only [List.set_cons_succ]); (try simp only [List.set_cons_zero])
    refine r_flt RB_refl 33 4 #[true, true, true, true, true, true, true, true, true, true, true, true, true, true, true, true, true, true, true, true, true, true, true, true, true, true, true, true, true, true, true, true, true, true] (by simp only [List.getElem?_toArray, List.getElem?_cons_succ, List.getElem?_cons_zero]; rfl) (by rfl) (by kernel_rfl) (by kernel_rfl) (by kernel_rfl) (fun _ _ _ _ h => h) rfl (by rfl) ?_
    apply Exists.intro
    apply And.intro
    · intro W hW
      first | (go_simp; with_reducible rfl) | go_simp
    (try simp only [Act.put, List.setIfInBounds_toArray]); (try simp only [List.set_cons_succ]); (try simp only [List.set_cons_zero])
    refine r_done (by kernel_rfl) ?_
    go_wp2_with fail
    go_ret
    exact ⟨rfl, bb⟩
end Go.Proofs.Ytcdodchjgadcoaa
