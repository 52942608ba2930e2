import Derived.Test.YtjgafklomndhlaaLaw3
import Derived.Test.YtjgafklomndhlaaCut1
import Derived.Lib.SmallJoins
namespace Go.Proofs.Ytjgafklomndhlaa
open Go.RowKit Go.Joins Go.ChangeShapes Go.WideShapes
set_option linter.unusedVariables false

theorem and_mask (c : Int) (m : Nat) (hm : m < 9223372036854775808) : ∃ j : Nat, bits .and .i64 c (m : Int) = (j : Int) ∧ j ≤ m := by
  refine ⟨(BitVec.ofInt 64 c &&& BitVec.ofInt 64 (m : Int)).toNat, ?_, ?_⟩
  · show IntKind.i64.wrap (((BitVec.ofInt 64 c &&& BitVec.ofInt 64 (m : Int)).toNat : Nat) : Int) = _
    have h : (BitVec.ofInt 64 c &&& BitVec.ofInt 64 (m : Int)).toNat ≤ m := by
      rw [BitVec.toNat_and, ofInt64 m hm]
      exact Nat.and_le_right
    rw [IntKind.wrap_i64]
    omega
  · rw [BitVec.toNat_and, ofInt64 m hm]
    exact Nat.and_le_right

/-- A value of type Words. -/
theorem openWords {H : Type} {enc : TypeId × Value → H} {W : World} {base : Nat} {v : Value} {d : DataW H} {p : List MemPlace}
    (hv : Value.okWide Try.prog W .any base 47 v) (h : DataW.Trod enc Try.prog W 0 (fun _ => true) true 47 v d p) :
    ∃ (width n : Int) (Ax : Option Addr) (x : List UInt8) (cx : Nat) (Al : Option Addr) (l : List Int) (cl : Nat), v = .agg #[.int .i64 width, .int .i64 n, .slice Ax x.length cx, .slice Al l.length cl] ∧ I64 width ∧ I64 n ∧
      RdB W (Old W) Ax x ∧ x.length ≤ cx ∧ cx ≤ 9223372036854775807 ∧ RdI W (Old W) Al l ∧ l.length ≤ cl ∧ cl ≤ 9223372036854775807 ∧ ∀ z ∈ l, I64 z := by
  obtain ⟨v0, v1, v2, v3, y0, y1, y2, y3, n, rfl, _, _, h0, h1, h2, h3⟩ := open_agg4 Try.underlying47 (by kernel_rfl) (by kernel_rfl) hv h
  obtain ⟨a, ea, ia⟩ := readN h0
  obtain ⟨b, eb, ib⟩ := readN h1
  obtain ⟨Ax, x, cx, ec, rx, lx, mx, _⟩ := readB h2
  obtain ⟨Al, l, cl, ed, rl, ll, ml, _, wl⟩ := readI h3
  simp only [List.cons.injEq, and_true] at ea eb ec ed
  subst ea eb ec ed
  exact ⟨a, b, Ax, x, cx, Al, l, cl, rfl, ia, ib, rx, lx, mx, rl, ll, ml, wl⟩

set_option maxHeartbeats 4000000 in
theorem wireCut_walk (w : World) (width n : Int) (Ax : Option Addr) (x : List UInt8) (cx : Nat) (Al : Option Addr) (l : List Int) (cl : Nat) (iw : I64 width) (im : I64 n)
    (rx : RdB w (Old w) Ax x) (lx : x.length ≤ cx) (mx : cx ≤ 9223372036854775807) (rl : RdI w (Old w) Al l) (ll : l.length ≤ cl) (ml : cl ≤ 9223372036854775807) (wl : ∀ z ∈ l, I64 z) (cut : Int) (ic : I64 cut) :
    Calls Try.prog 8 #[.agg #[.int .i64 width, .int .i64 n, .slice Ax x.length cx, .slice Al l.length cl], .int .i64 cut] w fun e w' => e = .returned (.bool true) ∧ Below w.heap.size w w' := by
  have hB : Blk (w.alloc (.cells #[.int .i64 width, .int .i64 n, .slice Ax x.length cx, .slice Al l.length cl] 47)) w.heap.size 47 #[.int .i64 width, .int .i64 n, .slice Ax x.length cx, .slice Al l.length cl] := Blk.new _ _ _
  have bn := below_new w (.cells #[.int .i64 width, .int .i64 n, .slice Ax x.length cx, .slice Al l.length cl] 47)
  by_cases h1 : 1000 < x.length ∨ 200 < l.length
  · by_cases h2 : 1000 < x.length
    focus skip
    rotate_left
    focus
      have h3 : 200 < l.length := by omega
    all_goals
      clear h1
      go_enter Try.func8, Try.ntmps8
      go_wp2_with fail
      refine (awake_any _).mono ?_
      rintro e wa ⟨rfl, b1⟩
      have hB := hB.below b1
      have c2 := hB.cell 2
      have c3 := hB.cell 3
      simp at c2 c3
      go_wp2_with fail
      go_ret
      exact ⟨rfl, bn.thenB' b1⟩
  · have lx1000 : x.length ≤ 1000 := by omega
    have ll200 : l.length ≤ 200 := by omega
    clear h1
    have rx := rx.below bn
    have rl := rl.below bn
    go_enter Try.func8, Try.ntmps8
    go_wp2_with fail
    refine (awake_any _).mono ?_
    rintro e wa ⟨rfl, b1⟩
    have hB := hB.below b1
    have rx := rx.below b1
    have rl := rl.below b1
    have bb := bn.thenB' b1
    have c2 := hB.cell 2
    have c3 := hB.cell 3
    simp at c2 c3
    clear bn b1
    go_wp2_with fail
    clear c2 c3
    refine r_start (R := RB) (by rfl) (n := 14) (L := #[false, false, false, false, false, false, false, false, false, false, false, false, false, false]) rfl rfl ?_
    have bd : Below wa.heap.size wa wa.drew := (Below.refl _ _).drew
    have hB := hB.below bd
    have rx := rx.below bd
    have rl := rl.below bd
    have bb := bb.thenB' bd
    generalize wa.drew = wa1 at *
    clear bd
    refine r_flt RB_refl 0 21 #[true, false, false, false, false, false, false, false, false, false, false, false, false, false] (by simp only [List.getElem?_toArray, List.getElem?_cons_zero]; rfl) (by rfl) (by kernel_rfl) (by kernel_rfl) (by kernel_rfl) (fun _ _ _ _ h => h) rfl (by rfl) ?_
    apply Exists.intro
    apply And.intro
    · intro W hW
      first | (go_simp; with_reducible rfl) | go_simp
    (try simp only [Act.put, List.setIfInBounds_toArray]); (try simp only [List.set_cons_succ]); (try simp only [List.set_cons_zero])
    refine r_flt RB_refl 1 22 #[true, true, false, false, false, false, false, false, false, false, false, false, false, false] (by simp only [List.getElem?_toArray, List.getElem?_cons_succ, List.getElem?_cons_zero]; rfl) (by rfl) (by kernel_rfl) (by kernel_rfl) (by kernel_rfl) (fun _ _ _ _ h => h) rfl (by rfl) ?_
    apply Exists.intro
    apply And.intro
    · intro W hW
      have c := (hB.below hW).cell 0
      simp at c
      go_simp; rfl
    (try simp only [Act.put, List.setIfInBounds_toArray]); (try simp only [List.set_cons_succ]); (try simp only [List.set_cons_zero])
    refine r_flt RB_refl 2 23 #[true, true, true, false, false, false, false, false, false, false, false, false, false, false] (by simp only [List.getElem?_toArray, List.getElem?_cons_succ, List.getElem?_cons_zero]; rfl) (by rfl) (by kernel_rfl) (by kernel_rfl) (by kernel_rfl) (fun _ _ _ _ h => h) rfl (by rfl) ?_
    apply Exists.intro
    apply And.intro
    · intro W hW
      first | (go_simp; with_reducible rfl) | go_simp
    (try simp only [Act.put, List.setIfInBounds_toArray]); (try simp only [List.set_cons_succ]); (try simp only [List.set_cons_zero])
    refine r_flt RB_refl 3 24 #[true, true, true, true, false, false, false, false, false, false, false, false, false, false] (by simp only [List.getElem?_toArray, List.getElem?_cons_succ, List.getElem?_cons_zero]; rfl) (by rfl) (by kernel_rfl) (by kernel_rfl) (by kernel_rfl) (fun _ _ _ _ h => h) rfl (by rfl) ?_
    apply Exists.intro
    apply And.intro
    · intro W hW
      have c := (hB.below hW).cell 1
      simp at c
      go_simp; rfl
    (try simp only [Act.put, List.setIfInBounds_toArray]); (try simp only [List.set_cons_succ]); (try simp only [List.set_cons_zero])
    refine r_flt RB_refl 5 26 #[true, true, true, true, false, true, false, false, false, false, false, false, false, false] (by simp only [List.getElem?_toArray, List.getElem?_cons_succ, List.getElem?_cons_zero]; rfl) (by rfl) (by kernel_rfl) (by kernel_rfl) (by kernel_rfl) (fun _ _ _ _ h => h) rfl (by rfl) ?_
    apply Exists.intro
    apply And.intro
    · intro W hW
      first | (go_simp; with_reducible rfl) | go_simp
    (try simp only [Act.put, List.setIfInBounds_toArray]); (try simp only [List.set_cons_succ]); (try simp only [List.set_cons_zero])
    refine r_flt RB_refl 6 27 #[true, true, true, true, false, true, true, false, false, false, false, false, false, false] (by simp only [List.getElem?_toArray, List.getElem?_cons_succ, List.getElem?_cons_zero]; rfl) (by rfl) (by kernel_rfl) (by kernel_rfl) (by kernel_rfl) (fun _ _ _ _ h => h) rfl (by rfl) ?_
    apply Exists.intro
    apply And.intro
    · intro W hW
      have c := (hB.below hW).cell 2
      simp at c
      go_simp; rfl
    (try simp only [Act.put, List.setIfInBounds_toArray]); (try simp only [List.set_cons_succ]); (try simp only [List.set_cons_zero])
    refine r_flt RB_refl 8 29 #[true, true, true, true, false, true, true, false, true, false, false, false, false, false] (by simp only [List.getElem?_toArray, List.getElem?_cons_succ, List.getElem?_cons_zero]; rfl) (by rfl) (by kernel_rfl) (by kernel_rfl) (by kernel_rfl) (fun _ _ _ _ h => h) rfl (by rfl) ?_
    apply Exists.intro
    apply And.intro
    · intro W hW
      first | (go_simp; with_reducible rfl) | go_simp
    (try simp only [Act.put, List.setIfInBounds_toArray]); (try simp only [List.set_cons_succ]); (try simp only [List.set_cons_zero])
    refine r_flt RB_refl 9 30 #[true, true, true, true, false, true, true, false, true, true, false, false, false, false] (by simp only [List.getElem?_toArray, List.getElem?_cons_succ, List.getElem?_cons_zero]; rfl) (by rfl) (by kernel_rfl) (by kernel_rfl) (by kernel_rfl) (fun _ _ _ _ h => h) rfl (by rfl) ?_
    apply Exists.intro
    apply And.intro
    · intro W hW
      have c := (hB.below hW).cell 0
      simp at c
      go_simp; rfl
    (try simp only [Act.put, List.setIfInBounds_toArray]); (try simp only [List.set_cons_succ]); (try simp only [List.set_cons_zero])
    refine r_flt RB_refl 10 31 #[true, true, true, true, false, true, true, false, true, true, true, false, false, false] (by simp only [List.getElem?_toArray, List.getElem?_cons_succ, List.getElem?_cons_zero]; rfl) (by rfl) (by kernel_rfl) (by kernel_rfl) (by kernel_rfl) (fun _ _ _ _ h => h) rfl (by rfl) ?_
    apply Exists.intro
    apply And.intro
    · intro W hW
      first | (go_simp; with_reducible rfl) | go_simp
    (try simp only [Act.put, List.setIfInBounds_toArray]); (try simp only [List.set_cons_succ]); (try simp only [List.set_cons_zero])
    refine r_flt RB_refl 11 32 #[true, true, true, true, false, true, true, false, true, true, true, true, false, false] (by simp only [List.getElem?_toArray, List.getElem?_cons_succ, List.getElem?_cons_zero]; rfl) (by rfl) (by kernel_rfl) (by kernel_rfl) (by kernel_rfl) (fun _ _ _ _ h => h) rfl (by rfl) ?_
    apply Exists.intro
    apply And.intro
    · intro W hW
      have c := (hB.below hW).cell 3
      simp at c
      go_simp; rfl
    (try simp only [Act.put, List.setIfInBounds_toArray]); (try simp only [List.set_cons_succ]); (try simp only [List.set_cons_zero])
    refine r_one RB_trans 4 (by kernel_rfl) ?_
    refine alt_call 25 #[true, true, true, true, true, true, true, false, true, true, true, true, false, false] (by simp only [List.getElem?_toArray, List.getElem?_cons_succ, List.getElem?_cons_zero]; rfl) (by rfl) rfl (by rfl) (by go_simp; first | exact ⟨rfl, rfl⟩ | rfl) ?_
    with_reducible refine (NumNil_any width n _ iw im).mono ?_
    rintro e wb ⟨A2, c2, rfl, o2, b2⟩
    refine ⟨_, rfl, b2, ?_⟩
    have hB := hB.below b2
    have rx := rx.below b2
    have rl := rl.below b2
    have bb := bb.thenB' b2
    (try simp only [Act.put, List.setIfInBounds_toArray]); (try simp only [List.set_cons_succ]); (try simp only [List.set_cons_zero])
    refine r_one RB_trans 7 (by kernel_rfl) ?_
    refine alt_call 28 #[true, true, true, true, true, true, true, true, true, true, true, true, false, false] (by simp only [List.getElem?_toArray, List.getElem?_cons_succ, List.getElem?_cons_zero]; rfl) (by rfl) rfl (by rfl) (by go_simp; first | exact ⟨rfl, rfl⟩ | rfl) ?_
    with_reducible refine (Blob_any _ _ A2 Ax c2 cx (numE width n) x _ o2.rd rx (by have := numE_length width n; omega) lx mx).mono ?_
    rintro e wc ⟨v3, rfl, o3, b3⟩
    obtain ⟨A3, c3, rfl, _, _⟩ := o3.form
    refine ⟨_, rfl, b3, ?_⟩
    have hB := hB.below b3
    have rl := rl.below b3
    have bb := bb.thenB' b3
    (try simp only [Act.put, List.setIfInBounds_toArray]); (try simp only [List.set_cons_succ]); (try simp only [List.set_cons_zero])
    refine r_one RB_trans 12 (by kernel_rfl) ?_
    refine alt_call 33 #[true, true, true, true, true, true, true, true, true, true, true, true, true, false] (by simp only [List.getElem?_toArray, List.getElem?_cons_succ, List.getElem?_cons_zero]; rfl) (by rfl) rfl (by rfl) (by go_simp; first | exact ⟨rfl, rfl⟩ | rfl) ?_
    have hcall := Nums_any _ _ A3 Al c3 cl (numE width n ++ blobE x) width l _ o3.rd rl (by have := numE_length width n; have := blobE_len x; rw [List.length_append]; omega) ll ml iw wl
    rw [List.length_append] at hcall
    with_reducible refine hcall.mono ?_
    clear hcall
    rintro e wd ⟨v4, rfl, o4, b4⟩
    refine ⟨_, rfl, b4, ?_⟩
    have hB := hB.below b4
    have bb := bb.thenB' b4
    (try simp only [Act.put, List.setIfInBounds_toArray]); (try simp only [List.set_cons_succ]); (try simp only [List.set_cons_zero])
    refine r_flt RB_refl 13 6 #[true, true, true, true, true, true, true, true, true, true, true, true, true, true] (by simp only [List.getElem?_toArray, List.getElem?_cons_succ, List.getElem?_cons_zero]; rfl) (by rfl) (by kernel_rfl) (by kernel_rfl) (by kernel_rfl) (fun _ _ _ _ h => h) rfl (by rfl) ?_
    apply Exists.intro
    apply And.intro
    · intro W hW
      first | (go_simp; with_reducible rfl) | go_simp
    (try simp only [Act.put, List.setIfInBounds_toArray]); (try simp only [List.set_cons_succ]); (try simp only [List.set_cons_zero])
    refine r_done (by kernel_rfl) ?_
    obtain ⟨A4, c4, rfl, hc4, hm4⟩ := o4.form
    have hlen : 1 ≤ (numE width n ++ blobE x ++ numsE width l).length := by
      rw [List.length_append, List.length_append, numE_len]
      have := wideI_bd width
      omega
    have hlen2 : (numE width n ++ blobE x ++ numsE width l).length ≤ 1000000 := by
      have h1 := numE_length width n
      have h2 := blobE_len x
      have h3 : (numsE width l).length ≤ 7 + 7 * 255 := by
        have h4 := numE_length 1 (min l.length 255 : Nat)
        have h5 := flatMap_len width (l.take (min l.length 255))
        rw [List.length_take] at h5
        unfold numsE
        rw [List.length_append]
        omega
      rw [List.length_append, List.length_append]
      omega
    have hcut := cut_short width n x l
    have hrd := o4.rd
    obtain ⟨j, hj0, hj2⟩ := and_mask cut 65535 (by omega)
    have hj : bits .and .i64 cut 65535 = (j : Int) := hj0
    clear hj0
    generalize hbs : numE width n ++ blobE x ++ numsE width l = bs at *
    obtain ⟨k, hk⟩ : ∃ k, k = j % bs.length := ⟨_, rfl⟩
    have hkl : k < bs.length := by rw [hk]; exact Nat.mod_lt _ (by omega)
    have hC := Lib.hid (hcut k lx1000 ll200 hkl)
    have hmod : (j : Int) % (bs.length : Int) = (k : Int) := by rw [hk]; rfl
    clear hk hcut hbs
    have ht := RdB.take hrd (k := k) (by omega)
    have htl : (bs.take k).length = k := by rw [List.length_take]; omega
    have HT := Lib.hid htl
    clear htl
    have hkc : k ≤ c4 := by omega
    go_wp2_with fail
    have hcall := Read_any _ A4 c4 (bs.take k) wd ht (by rw [HT.out]; unfold big; omega)
    rw [HT.out] at hcall
    with_reducible refine hcall.mono ?_
    clear hcall
    rintro e we ⟨g, rfl, r5, hg, b5⟩
    have hne : ¬ w.heap.size = g := by have := hB.lt; omega
    have hB := hB.below b5
    have c0 := hB.cell 0
    simp at c0
    go_wp2_with fail
    with_reducible refine (Num_any' g _ _ width we r5).mono ?_
    rintro e wf ⟨rfl, r6, m6⟩
    have hB := hB.mod m6 hne
    have c0 := hB.cell 0
    simp at c0
    go_wp2_with fail
    with_reducible refine (Blob_any' g _ _ 1000 wf r6).mono ?_
    rintro e wg ⟨v7, rfl, o7, r7, m7⟩
    have hB := hB.mod m7 hne
    have c0 := hB.cell 0
    simp at c0
    go_wp2_with fail
    with_reducible refine (Nums_any' g _ _ width 200 wg r7).mono ?_
    rintro e wh ⟨v8, rfl, o8, r8, m8⟩
    rw [hC.out] at r8
    go_wp2_with fail
    with_reducible refine (Err_any g _ _ wh r8).mono ?_
    rintro e wi ⟨rfl, rfl⟩
    go_wp2_with fail
    with_reducible refine (End_any g _ _ wh r8).mono ?_
    rintro e wi ⟨rfl, r9, m9⟩
    rw [show rEnd (([] : List UInt8), (10 : Int)) = ([], 10) from rfl] at r9 ⊢
    go_wp2_with fail
    with_reducible refine (Left_any g _ _ wi r9).mono ?_
    rintro e wj ⟨rfl, rfl⟩
    go_wp2_with fail
    go_ret
    have bz := (bb.thenB' b5).thenM (((m6.trans m7).trans m8).trans m9) (by have := bb.size; have := b5.size; omega) (fun i hi hx => by have := bb.size; omega)
    exact ⟨rfl, bz⟩

end Go.Proofs.Ytjgafklomndhlaa
