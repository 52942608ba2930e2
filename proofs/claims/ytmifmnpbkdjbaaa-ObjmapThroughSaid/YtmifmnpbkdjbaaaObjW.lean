/- The walk of ObjmapBack. -/
import Derived.Test.YtmifmnpbkdjbaaaObjV
namespace Go.Proofs.Ytmifmnpbkdjbaaa
open Go.RowKit
set_option linter.unusedVariables false

theorem packO_le (m : List Int) : (packO m).length ≤ 1000 := by
  have h5 : (rowO m).length ≤ 512 := rowF_len _
  rw [packO_len]; omega
theorem rowO_le (m : List Int) : (rowO m).length ≤ 512 := rowF_len _
theorem gO_row' (m : List Int) (k : Nat) : gO (rowO m) (k : Int) = gN m k := by rw [gO_nat, gN_rowO]

set_option maxHeartbeats 4000000 in
set_option maxRecDepth 100000 in
theorem back_walk (w : World) (A : Option Addr) (m : List Int) (c : Nat) (r : RdI w (Old w) A m) (l : m.length ≤ c) (mx : c ≤ 9223372036854775807) (nn : A = none → c = 0) (wf : ∀ z ∈ m, I64 z)
    (A' : Option Addr) (b : List UInt8) (c' : Nat) (r' : RdB w (Old w) A' b) (l' : b.length ≤ c') (mx' : c' ≤ 9223372036854775807) (nn' : A' = none → c' = 0) :
    Calls Try.prog 8 #[.slice A m.length c, .slice A' b.length c'] w fun e w' => e = .returned (.bool true) ∧ Below w.heap.size w w' := by
  by_cases h0 : 2000 < m.length ∨ 1000 < b.length
  · by_cases h1 : 2000 < m.length
    focus skip
    rotate_left
    focus
      have h2 : 1000 < b.length := by omega
    all_goals
      clear h0
      go_enter Try.func8, Try.ntmps8
      go_wp2_with fail
      refine (awake_any _).mono ?_
      rintro e wa ⟨rfl, b1⟩
      go_wp2_with fail
      go_ret
      exact ⟨rfl, b1⟩
  · have hml : m.length ≤ 2000 := by omega
    have hml' : b.length ≤ 1000 := by omega
    clear h0
    have hpl := packO_le m
    have hrl := rowO_le m
    have HU := Lib.hid (unp_pack m)
    have HMR := Lib.hid (may_row m)
    have HG := Lib.hid (gO_row' m)
    go_enter Try.func8, Try.ntmps8
    go_wp2_with fail
    refine (awake_any _).mono ?_
    rintro e wa ⟨rfl, b1⟩
    have r := r.below b1
    have r' := r'.below b1
    go_wp2_with fail
    refine (Pack_any _ A c m wa r).mono ?_
    rintro e w2 ⟨A2, n2, rfl, hn2, p2, b2⟩
    have r := r.below b2
    have r' := r'.below b2
    have hcall := Unpack_any _ A2 (packO m).length (packO m) w2 p2.rd (Nat.le_refl _) (by omega)
    rw [HU.out, ← hn2] at hcall
    simp only [Option.isSome_some, Option.getD_some] at hcall
    have HN2 := Lib.hid hn2
    clear hn2
    go_wp2_with fail
    refine hcall.mono ?_
    clear hcall
    rintro e w3 ⟨A3, n3, rfl, hn3, x3, b3⟩
    have r := r.below b3
    have r' := r'.below b3
    have bb := (b1.thenB' b2).thenB' b3
    clear b1 b2 b3 p2
    have hck := Check_any _ A3 n3 (rowO m) w3 x3.rd (by omega)
    rw [← hn3, HMR.out] at hck
    have hcm := Check_any _ A c m w3 r (by omega)
    have HN3 := Lib.hid hn3
    clear hn3
    have HY := Lib.hid (fun y h => unp_some b y h)
    cases hmay : mayO m
    focus
      rw [hmay] at hcm
      clear hmay
      go_wp2_with fail
      refine hck.mono ?_
      rintro e w4 ⟨rfl, rfl⟩
      go_wp2_with fail
      refine hcm.mono ?_
      rintro e w4 ⟨rfl, rfl⟩
      go_wp2_with fail
    rotate_left
    focus
      have hmm := row_may m hmay
      have hnm : n3 = m.length := by rw [HN3.out, hmm]
      subst hnm
      have hx := x3.rd
      rw [hmm] at hx
      rw [hmay] at hcm
      have hi := Ints_yes _ _ A3 A _ m.length c m rfl hx r (by unfold big; omega)
      clear hmay hmm hx
      go_wp2_with fail
      refine hck.mono ?_
      rintro e w4 ⟨rfl, rfl⟩
      go_wp2_with fail
      refine hcm.mono ?_
      rintro e w4 ⟨rfl, rfl⟩
      go_wp2_with fail
      refine hi.mono ?_
      rintro e w3 ⟨rfl, b4⟩
      have r := r.below b4
      have r' := r'.below b4
      have x3 := x3.below b4
      have bb := bb.thenB' b4
      go_wp2_with fail
    rotate_left
    all_goals
      go_loopw [8] (fun i wr => ∃ j : Nat, j ≤ 512 ∧ j ≤ m.length + 4 ∧ i = .int .i64 (j : Int) ∧ w3 = wr) (fun i _ => 512 - (intOf i).toNat)
      case atStart => exact ⟨0, Nat.zero_le _, Nat.zero_le _, rfl, rfl⟩
      case round =>
        obtain ⟨j, hj, hj4, rfl, rfl⟩ := hrel
        by_cases hlt : j < 512 ∧ j < m.length + 4
        · obtain ⟨hlt1, hlt2⟩ := hlt
          have hc1 := Get_any _ A3 (rowO m).length (rowO m) j w3 x3.rd
          have hc2 := Get_any _ A c m j w3 r
          rw [← HN3.out, HG.out j] at hc1
          rw [gO_nat] at hc2
          generalize gN m j = z at *
          go_wp2_with fail
          refine hc1.mono ?_
          rintro e w4 ⟨rfl, rfl⟩
          go_wp2_with fail
          refine hc2.mono ?_
          rintro e w4 ⟨rfl, rfl⟩
          go_wp2_with fail
          go_roundw
          case rel => exact ⟨j + 1, by omega, by omega, by go_num, trivial⟩
          case measure => simp [intOf] <;> omega
        · by_cases h1 : j < 512
          focus
            have h2 : ¬ j < m.length + 4 := fun h => hlt ⟨h1, h⟩
          rotate_left
          focus skip
          all_goals
            clear hlt
            go_wp2_with fail
            refine (Unpack_any _ A' c' b w3 r' l' mx').mono ?_
            rintro e w5 ⟨A5, n5, rfl, hn5, x5, b5⟩
            have r' := r'.below b5
            have bb := bb.thenB' b5
            cases hu : unpO b
            focus
              rw [hu] at hn5
              replace hn5 : n5 = 0 := hn5
              subst hn5
              rw [show (none : Option (List Int)).isSome = false from rfl]
              clear hu x5
              go_wp2_with fail
              refine r_start (R := RB) (by rfl) (n := 19) (L := #[false, false, false, false, false, false, false, false, false, false, false, false, false, false, false, false, false, false, false]) rfl rfl ?_
              have bd : Below w5.heap.size w5 w5.drew := (Below.refl _ _).drew
              have r' := r'.below bd
              have bb := bb.thenB' bd
              generalize w5.drew = wd1 at *
              clear bd
              refine r_flt RB_refl 0 68 #[true, false, false, false, false, false, false, false, false, false, false, false, false, false, false, false, false, false, false] (by simp only [List.getElem?_toArray, List.getElem?_cons_zero]; rfl) (by rfl) (by kernel_rfl) (by kernel_rfl) (by kernel_rfl) (fun _ _ _ _ h => h) rfl (by rfl) ?_
              apply Exists.intro
              apply And.intro
              · intro W hW
                first | (go_simp; with_reducible rfl) | go_simp
              (try simp only [Act.put, List.setIfInBounds_toArray]); (try simp only [List.set_cons_succ]); (try simp only [List.set_cons_zero])
              refine r_flt RB_refl 1 69 #[true, true, false, false, false, false, false, false, false, false, false, false, false, false, false, false, false, false, false] (by simp only [List.getElem?_toArray, List.getElem?_cons_succ, List.getElem?_cons_zero]; rfl) (by rfl) (by kernel_rfl) (by kernel_rfl) (by kernel_rfl) (fun _ _ _ _ h => h) rfl (by rfl) ?_
              apply Exists.intro
              apply And.intro
              · intro W hW
                first | (go_simp; with_reducible rfl) | go_simp
              (try simp only [Act.put, List.setIfInBounds_toArray]); (try simp only [List.set_cons_succ]); (try simp only [List.set_cons_zero])
              refine r_flt RB_refl 2 70 #[true, true, true, false, false, false, false, false, false, false, false, false, false, false, false, false, false, false, false] (by simp only [List.getElem?_toArray, List.getElem?_cons_succ, List.getElem?_cons_zero]; rfl) (by rfl) (by kernel_rfl) (by kernel_rfl) (by kernel_rfl) (fun _ _ _ _ h => h) rfl (by rfl) ?_
              apply Exists.intro
              apply And.intro
              · intro W hW
                first | (go_simp; with_reducible rfl) | go_simp
              (try simp only [Act.put, List.setIfInBounds_toArray]); (try simp only [List.set_cons_succ]); (try simp only [List.set_cons_zero])
              refine r_flt RB_refl 3 71 #[true, true, true, true, false, false, false, false, false, false, false, false, false, false, false, false, false, false, false] (by simp only [List.getElem?_toArray, List.getElem?_cons_succ, List.getElem?_cons_zero]; rfl) (by rfl) (by kernel_rfl) (by kernel_rfl) (by kernel_rfl) (fun _ _ _ _ h => h) rfl (by rfl) ?_
              apply Exists.intro
              apply And.intro
              · intro W hW
                first | (go_simp; with_reducible rfl) | go_simp
              (try simp only [Act.put, List.setIfInBounds_toArray]); (try simp only [List.set_cons_succ]); (try simp only [List.set_cons_zero])
              refine r_flt RB_refl 4 72 #[true, true, true, true, true, false, false, false, false, false, false, false, false, false, false, false, false, false, false] (by simp only [List.getElem?_toArray, List.getElem?_cons_succ, List.getElem?_cons_zero]; rfl) (by rfl) (by kernel_rfl) (by kernel_rfl) (by kernel_rfl) (fun _ _ _ _ h => h) rfl (by rfl) ?_
              apply Exists.intro
              apply And.intro
              · intro W hW
                first | (go_simp; with_reducible rfl) | go_simp
              (try simp only [Act.put, List.setIfInBounds_toArray]); (try simp only [List.set_cons_succ]); (try simp only [List.set_cons_zero])
              refine r_flt RB_refl 5 73 #[true, true, true, true, true, true, false, false, false, false, false, false, false, false, false, false, false, false, false] (by simp only [List.getElem?_toArray, List.getElem?_cons_succ, List.getElem?_cons_zero]; rfl) (by rfl) (by kernel_rfl) (by kernel_rfl) (by kernel_rfl) (fun _ _ _ _ h => h) rfl (by rfl) ?_
              apply Exists.intro
              apply And.intro
              · intro W hW
                first | (go_simp; with_reducible rfl) | go_simp
              (try simp only [Act.put, List.setIfInBounds_toArray]); (try simp only [List.set_cons_succ]); (try simp only [List.set_cons_zero])
              refine r_flt RB_refl 6 74 #[true, true, true, true, true, true, true, false, false, false, false, false, false, false, false, false, false, false, false] (by simp only [List.getElem?_toArray, List.getElem?_cons_succ, List.getElem?_cons_zero]; rfl) (by rfl) (by kernel_rfl) (by kernel_rfl) (by kernel_rfl) (fun _ _ _ _ h => h) rfl (by rfl) ?_
              apply Exists.intro
              apply And.intro
              · intro W hW
                first | (go_simp; with_reducible rfl) | go_simp
              (try simp only [Act.put, List.setIfInBounds_toArray]); (try simp only [List.set_cons_succ]); (try simp only [List.set_cons_zero])
              refine r_flt RB_refl 7 75 #[true, true, true, true, true, true, true, true, false, false, false, false, false, false, false, false, false, false, false] (by simp only [List.getElem?_toArray, List.getElem?_cons_succ, List.getElem?_cons_zero]; rfl) (by rfl) (by kernel_rfl) (by kernel_rfl) (by kernel_rfl) (fun _ _ _ _ h => h) rfl (by rfl) ?_
              apply Exists.intro
              apply And.intro
              · intro W hW
                first | (go_simp; with_reducible rfl) | go_simp
              (try simp only [Act.put, List.setIfInBounds_toArray]); (try simp only [List.set_cons_succ]); (try simp only [List.set_cons_zero])
              refine r_skip RB_refl 8 76 #[true, true, true, true, true, true, true, true, true, false, false, false, false, false, false, false, false, false, false] (by simp only [List.getElem?_toArray, List.getElem?_cons_succ, List.getElem?_cons_zero]; rfl) (by rfl) (by kernel_rfl) (by kernel_rfl) (by kernel_rfl) (fun _ _ _ _ h => h) rfl (by rfl) ?_
              (try simp only [Act.put, List.setIfInBounds_toArray]); (try simp only [List.set_cons_succ]); (try simp only [List.set_cons_zero])
              refine r_skip RB_refl 9 77 #[true, true, true, true, true, true, true, true, true, true, false, false, false, false, false, false, false, false, false] (by simp only [List.getElem?_toArray, List.getElem?_cons_succ, List.getElem?_cons_zero]; rfl) (by rfl) (by kernel_rfl) (by kernel_rfl) (by kernel_rfl) (fun _ _ _ _ h => h) rfl (by rfl) ?_
              (try simp only [Act.put, List.setIfInBounds_toArray]); (try simp only [List.set_cons_succ]); (try simp only [List.set_cons_zero])
              refine r_skip RB_refl 10 78 #[true, true, true, true, true, true, true, true, true, true, true, false, false, false, false, false, false, false, false] (by simp only [List.getElem?_toArray, List.getElem?_cons_succ, List.getElem?_cons_zero]; rfl) (by rfl) (by kernel_rfl) (by kernel_rfl) (by kernel_rfl) (fun _ _ _ _ h => h) rfl (by rfl) ?_
              (try simp only [Act.put, List.setIfInBounds_toArray]); (try simp only [List.set_cons_succ]); (try simp only [List.set_cons_zero])
              refine r_skip RB_refl 11 79 #[true, true, true, true, true, true, true, true, true, true, true, true, false, false, false, false, false, false, false] (by simp only [List.getElem?_toArray, List.getElem?_cons_succ, List.getElem?_cons_zero]; rfl) (by rfl) (by kernel_rfl) (by kernel_rfl) (by kernel_rfl) (fun _ _ _ _ h => h) rfl (by rfl) ?_
              (try simp only [Act.put, List.setIfInBounds_toArray]); (try simp only [List.set_cons_succ]); (try simp only [List.set_cons_zero])
              refine r_skip RB_refl 12 80 #[true, true, true, true, true, true, true, true, true, true, true, true, true, false, false, false, false, false, false] (by simp only [List.getElem?_toArray, List.getElem?_cons_succ, List.getElem?_cons_zero]; rfl) (by rfl) (by kernel_rfl) (by kernel_rfl) (by kernel_rfl) (fun _ _ _ _ h => h) rfl (by rfl) ?_
              (try simp only [Act.put, List.setIfInBounds_toArray]); (try simp only [List.set_cons_succ]); (try simp only [List.set_cons_zero])
              refine r_skip RB_refl 13 81 #[true, true, true, true, true, true, true, true, true, true, true, true, true, true, false, false, false, false, false] (by simp only [List.getElem?_toArray, List.getElem?_cons_succ, List.getElem?_cons_zero]; rfl) (by rfl) (by kernel_rfl) (by kernel_rfl) (by kernel_rfl) (fun _ _ _ _ h => h) rfl (by rfl) ?_
              (try simp only [Act.put, List.setIfInBounds_toArray]); (try simp only [List.set_cons_succ]); (try simp only [List.set_cons_zero])
              refine r_skip RB_refl 14 82 #[true, true, true, true, true, true, true, true, true, true, true, true, true, true, true, false, false, false, false] (by simp only [List.getElem?_toArray, List.getElem?_cons_succ, List.getElem?_cons_zero]; rfl) (by rfl) (by kernel_rfl) (by kernel_rfl) (by kernel_rfl) (fun _ _ _ _ h => h) rfl (by rfl) ?_
              (try simp only [Act.put, List.setIfInBounds_toArray]); (try simp only [List.set_cons_succ]); (try simp only [List.set_cons_zero])
              refine r_skip RB_refl 15 83 #[true, true, true, true, true, true, true, true, true, true, true, true, true, true, true, true, false, false, false] (by simp only [List.getElem?_toArray, List.getElem?_cons_succ, List.getElem?_cons_zero]; rfl) (by rfl) (by kernel_rfl) (by kernel_rfl) (by kernel_rfl) (fun _ _ _ _ h => h) rfl (by rfl) ?_
              (try simp only [Act.put, List.setIfInBounds_toArray]); (try simp only [List.set_cons_succ]); (try simp only [List.set_cons_zero])
              refine r_skip RB_refl 16 84 #[true, true, true, true, true, true, true, true, true, true, true, true, true, true, true, true, true, false, false] (by simp only [List.getElem?_toArray, List.getElem?_cons_succ, List.getElem?_cons_zero]; rfl) (by rfl) (by kernel_rfl) (by kernel_rfl) (by kernel_rfl) (fun _ _ _ _ h => h) rfl (by rfl) ?_
              (try simp only [Act.put, List.setIfInBounds_toArray]); (try simp only [List.set_cons_succ]); (try simp only [List.set_cons_zero])
              refine r_flt RB_refl 17 85 #[true, true, true, true, true, true, true, true, true, true, true, true, true, true, true, true, true, true, false] (by simp only [List.getElem?_toArray, List.getElem?_cons_succ, List.getElem?_cons_zero]; rfl) (by rfl) (by kernel_rfl) (by kernel_rfl) (by kernel_rfl) (fun _ _ _ _ h => h) rfl (by rfl) ?_
              apply Exists.intro
              apply And.intro
              · intro W hW
                first | (go_simp; with_reducible rfl) | go_simp
              (try simp only [Act.put, List.setIfInBounds_toArray]); (try simp only [List.set_cons_succ]); (try simp only [List.set_cons_zero])
              refine r_flt RB_refl 18 4 #[true, true, true, true, true, true, true, true, true, true, true, true, true, true, true, true, true, true, true] (by simp only [List.getElem?_toArray, List.getElem?_cons_succ, List.getElem?_cons_zero]; rfl) (by rfl) (by kernel_rfl) (by kernel_rfl) (by kernel_rfl) (fun _ _ _ _ h => h) rfl (by rfl) ?_
              apply Exists.intro
              apply And.intro
              · intro W hW
                first | (go_simp; with_reducible rfl) | go_simp
              (try simp only [Act.put, List.setIfInBounds_toArray]); (try simp only [List.set_cons_succ]); (try simp only [List.set_cons_zero])
              refine r_done (by kernel_rfl) ?_
              go_wp2_with fail
              go_ret
              exact ⟨rfl, bb⟩
            rotate_left
            focus
              rename_i y
              have HP : Hid (packO y = b) := (HY.out y hu).2.1
              rw [hu] at hn5 x5
              replace hn5 : n5 = y.length := hn5
              replace x5 : RowI w5 w3.heap.size A5 y := x5
              subst hn5
              rw [show (some y).isSome = true from rfl]
              clear hu
              go_wp2_with fail
              refine r_start (R := RB) (by rfl) (n := 19) (L := #[false, false, false, false, false, false, false, false, false, false, false, false, false, false, false, false, false, false, false]) rfl rfl ?_
              have bd : Below w5.heap.size w5 w5.drew := (Below.refl _ _).drew
              have r' := r'.below bd
              have x5 := x5.below bd
              have bb := bb.thenB' bd
              generalize w5.drew = wd1 at *
              clear bd
              refine r_flt RB_refl 0 68 #[true, false, false, false, false, false, false, false, false, false, false, false, false, false, false, false, false, false, false] (by simp only [List.getElem?_toArray, List.getElem?_cons_zero]; rfl) (by rfl) (by kernel_rfl) (by kernel_rfl) (by kernel_rfl) (fun _ _ _ _ h => h) rfl (by rfl) ?_
              apply Exists.intro
              apply And.intro
              · intro W hW
                first | (go_simp; with_reducible rfl) | go_simp
              (try simp only [Act.put, List.setIfInBounds_toArray]); (try simp only [List.set_cons_succ]); (try simp only [List.set_cons_zero])
              refine r_flt RB_refl 1 69 #[true, true, false, false, false, false, false, false, false, false, false, false, false, false, false, false, false, false, false] (by simp only [List.getElem?_toArray, List.getElem?_cons_succ, List.getElem?_cons_zero]; rfl) (by rfl) (by kernel_rfl) (by kernel_rfl) (by kernel_rfl) (fun _ _ _ _ h => h) rfl (by rfl) ?_
              apply Exists.intro
              apply And.intro
              · intro W hW
                first | (go_simp; with_reducible rfl) | go_simp
              (try simp only [Act.put, List.setIfInBounds_toArray]); (try simp only [List.set_cons_succ]); (try simp only [List.set_cons_zero])
              refine r_flt RB_refl 2 70 #[true, true, true, false, false, false, false, false, false, false, false, false, false, false, false, false, false, false, false] (by simp only [List.getElem?_toArray, List.getElem?_cons_succ, List.getElem?_cons_zero]; rfl) (by rfl) (by kernel_rfl) (by kernel_rfl) (by kernel_rfl) (fun _ _ _ _ h => h) rfl (by rfl) ?_
              apply Exists.intro
              apply And.intro
              · intro W hW
                first | (go_simp; with_reducible rfl) | go_simp
              (try simp only [Act.put, List.setIfInBounds_toArray]); (try simp only [List.set_cons_succ]); (try simp only [List.set_cons_zero])
              refine r_skip RB_refl 3 71 #[true, true, true, true, false, false, false, false, false, false, false, false, false, false, false, false, false, false, false] (by simp only [List.getElem?_toArray, List.getElem?_cons_succ, List.getElem?_cons_zero]; rfl) (by rfl) (by kernel_rfl) (by kernel_rfl) (by kernel_rfl) (fun _ _ _ _ h => h) rfl (by rfl) ?_
              (try simp only [Act.put, List.setIfInBounds_toArray]); (try simp only [List.set_cons_succ]); (try simp only [List.set_cons_zero])
              refine r_skip RB_refl 4 72 #[true, true, true, true, true, false, false, false, false, false, false, false, false, false, false, false, false, false, false] (by simp only [List.getElem?_toArray, List.getElem?_cons_succ, List.getElem?_cons_zero]; rfl) (by rfl) (by kernel_rfl) (by kernel_rfl) (by kernel_rfl) (fun _ _ _ _ h => h) rfl (by rfl) ?_
              (try simp only [Act.put, List.setIfInBounds_toArray]); (try simp only [List.set_cons_succ]); (try simp only [List.set_cons_zero])
              refine r_skip RB_refl 5 73 #[true, true, true, true, true, true, false, false, false, false, false, false, false, false, false, false, false, false, false] (by simp only [List.getElem?_toArray, List.getElem?_cons_succ, List.getElem?_cons_zero]; rfl) (by rfl) (by kernel_rfl) (by kernel_rfl) (by kernel_rfl) (fun _ _ _ _ h => h) rfl (by rfl) ?_
              (try simp only [Act.put, List.setIfInBounds_toArray]); (try simp only [List.set_cons_succ]); (try simp only [List.set_cons_zero])
              refine r_flt RB_refl 6 74 #[true, true, true, true, true, true, true, false, false, false, false, false, false, false, false, false, false, false, false] (by simp only [List.getElem?_toArray, List.getElem?_cons_succ, List.getElem?_cons_zero]; rfl) (by rfl) (by kernel_rfl) (by kernel_rfl) (by kernel_rfl) (fun _ _ _ _ h => h) rfl (by rfl) ?_
              apply Exists.intro
              apply And.intro
              · intro W hW
                first | (go_simp; with_reducible rfl) | go_simp
              (try simp only [Act.put, List.setIfInBounds_toArray]); (try simp only [List.set_cons_succ]); (try simp only [List.set_cons_zero])
              refine r_flt RB_refl 7 75 #[true, true, true, true, true, true, true, true, false, false, false, false, false, false, false, false, false, false, false] (by simp only [List.getElem?_toArray, List.getElem?_cons_succ, List.getElem?_cons_zero]; rfl) (by rfl) (by kernel_rfl) (by kernel_rfl) (by kernel_rfl) (fun _ _ _ _ h => h) rfl (by rfl) ?_
              apply Exists.intro
              apply And.intro
              · intro W hW
                first | (go_simp; with_reducible rfl) | go_simp
              (try simp only [Act.put, List.setIfInBounds_toArray]); (try simp only [List.set_cons_succ]); (try simp only [List.set_cons_zero])
              refine r_flt RB_refl 8 76 #[true, true, true, true, true, true, true, true, true, false, false, false, false, false, false, false, false, false, false] (by simp only [List.getElem?_toArray, List.getElem?_cons_succ, List.getElem?_cons_zero]; rfl) (by rfl) (by kernel_rfl) (by kernel_rfl) (by kernel_rfl) (fun _ _ _ _ h => h) rfl (by rfl) ?_
              apply Exists.intro
              apply And.intro
              · intro W hW
                first | (go_simp; with_reducible rfl) | go_simp
              (try simp only [Act.put, List.setIfInBounds_toArray]); (try simp only [List.set_cons_succ]); (try simp only [List.set_cons_zero])
              refine r_flt RB_refl 9 77 #[true, true, true, true, true, true, true, true, true, true, false, false, false, false, false, false, false, false, false] (by simp only [List.getElem?_toArray, List.getElem?_cons_succ, List.getElem?_cons_zero]; rfl) (by rfl) (by kernel_rfl) (by kernel_rfl) (by kernel_rfl) (fun _ _ _ _ h => h) rfl (by rfl) ?_
              apply Exists.intro
              apply And.intro
              · intro W hW
                first | (go_simp; with_reducible rfl) | go_simp
              (try simp only [Act.put, List.setIfInBounds_toArray]); (try simp only [List.set_cons_succ]); (try simp only [List.set_cons_zero])
              refine r_flt RB_refl 10 78 #[true, true, true, true, true, true, true, true, true, true, true, false, false, false, false, false, false, false, false] (by simp only [List.getElem?_toArray, List.getElem?_cons_succ, List.getElem?_cons_zero]; rfl) (by rfl) (by kernel_rfl) (by kernel_rfl) (by kernel_rfl) (fun _ _ _ _ h => h) rfl (by rfl) ?_
              apply Exists.intro
              apply And.intro
              · intro W hW
                first | (go_simp; with_reducible rfl) | go_simp
              (try simp only [Act.put, List.setIfInBounds_toArray]); (try simp only [List.set_cons_succ]); (try simp only [List.set_cons_zero])
              refine r_flt RB_refl 13 81 #[true, true, true, true, true, true, true, true, true, true, true, false, false, true, false, false, false, false, false] (by simp only [List.getElem?_toArray, List.getElem?_cons_succ, List.getElem?_cons_zero]; rfl) (by rfl) (by kernel_rfl) (by kernel_rfl) (by kernel_rfl) (fun _ _ _ _ h => h) rfl (by rfl) ?_
              apply Exists.intro
              apply And.intro
              · intro W hW
                first | (go_simp; with_reducible rfl) | go_simp
              (try simp only [Act.put, List.setIfInBounds_toArray]); (try simp only [List.set_cons_succ]); (try simp only [List.set_cons_zero])
              refine r_flt RB_refl 14 82 #[true, true, true, true, true, true, true, true, true, true, true, false, false, true, true, false, false, false, false] (by simp only [List.getElem?_toArray, List.getElem?_cons_succ, List.getElem?_cons_zero]; rfl) (by rfl) (by kernel_rfl) (by kernel_rfl) (by kernel_rfl) (fun _ _ _ _ h => h) rfl (by rfl) ?_
              apply Exists.intro
              apply And.intro
              · intro W hW
                have s := str_rd (c := c') (r'.below hW) rfl
                go_simp; rfl
              (try simp only [Act.put, List.setIfInBounds_toArray]); (try simp only [List.set_cons_succ]); (try simp only [List.set_cons_zero])
              refine r_one RB_trans 11 (by kernel_rfl) ?_
              refine alt_call 79 #[true, true, true, true, true, true, true, true, true, true, true, true, false, true, true, false, false, false, false] (by simp only [List.getElem?_toArray, List.getElem?_cons_succ, List.getElem?_cons_zero]; rfl) (by rfl) rfl (by rfl) (by go_simp; first | exact ⟨rfl, rfl⟩ | rfl) ?_
              with_reducible refine (Pack_any _ A5 _ y _ x5.rd).mono ?_
              rintro e w6 ⟨A6, n6, rfl, hn6, p6, bp⟩
              have E6 := Lib.hid hn6
              clear hn6
              refine ⟨_, rfl, bp, ?_⟩
              have r' := r'.below bp
              have bb := bb.thenB' bp
              (try simp only [Act.put, List.setIfInBounds_toArray]); (try simp only [List.set_cons_succ]); (try simp only [List.set_cons_zero])
              refine r_flt RB_refl 12 80 #[true, true, true, true, true, true, true, true, true, true, true, true, true, true, true, false, false, false, false] (by simp only [List.getElem?_toArray, List.getElem?_cons_succ, List.getElem?_cons_zero]; rfl) (by rfl) (by kernel_rfl) (by kernel_rfl) (by kernel_rfl) (fun _ _ _ _ h => h) rfl (by rfl) ?_
              apply Exists.intro
              apply And.intro
              · intro W hW
                have s := str_rd (c := n6) (p6.rd.below hW) E6.out
                go_simp; rfl
              (try simp only [Act.put, List.setIfInBounds_toArray]); (try simp only [List.set_cons_succ]); (try simp only [List.set_cons_zero])
              refine r_flt RB_refl 15 83 #[true, true, true, true, true, true, true, true, true, true, true, true, true, true, true, true, false, false, false] (by simp only [List.getElem?_toArray, List.getElem?_cons_succ, List.getElem?_cons_zero]; rfl) (by rfl) (by kernel_rfl) (by kernel_rfl) (by kernel_rfl) (fun _ _ _ _ h => h) rfl (by rfl) ?_
              apply Exists.intro
              apply And.intro
              · intro W hW
                have s := HP.out
                go_simp; rfl
              (try simp only [Act.put, List.setIfInBounds_toArray]); (try simp only [List.set_cons_succ]); (try simp only [List.set_cons_zero])
              refine r_flt RB_refl 16 84 #[true, true, true, true, true, true, true, true, true, true, true, true, true, true, true, true, true, false, false] (by simp only [List.getElem?_toArray, List.getElem?_cons_succ, List.getElem?_cons_zero]; rfl) (by rfl) (by kernel_rfl) (by kernel_rfl) (by kernel_rfl) (fun _ _ _ _ h => h) rfl (by rfl) ?_
              apply Exists.intro
              apply And.intro
              · intro W hW
                first | (go_simp; with_reducible rfl) | go_simp
              (try simp only [Act.put, List.setIfInBounds_toArray]); (try simp only [List.set_cons_succ]); (try simp only [List.set_cons_zero])
              refine r_flt RB_refl 17 85 #[true, true, true, true, true, true, true, true, true, true, true, true, true, true, true, true, true, true, false] (by simp only [List.getElem?_toArray, List.getElem?_cons_succ, List.getElem?_cons_zero]; rfl) (by rfl) (by kernel_rfl) (by kernel_rfl) (by kernel_rfl) (fun _ _ _ _ h => h) rfl (by rfl) ?_
              apply Exists.intro
              apply And.intro
              · intro W hW
                first | (go_simp; with_reducible rfl) | go_simp
              (try simp only [Act.put, List.setIfInBounds_toArray]); (try simp only [List.set_cons_succ]); (try simp only [List.set_cons_zero])
              refine r_flt RB_refl 18 4 #[true, true, true, true, true, true, true, true, true, true, true, true, true, true, true, true, true, true, true] (by simp only [List.getElem?_toArray, List.getElem?_cons_succ, List.getElem?_cons_zero]; rfl) (by rfl) (by kernel_rfl) (by kernel_rfl) (by kernel_rfl) (fun _ _ _ _ h => h) rfl (by rfl) ?_
              apply Exists.intro
              apply And.intro
              · intro W hW
                first | (go_simp; with_reducible rfl) | go_simp
              (try simp only [Act.put, List.setIfInBounds_toArray]); (try simp only [List.set_cons_succ]); (try simp only [List.set_cons_zero])
              refine r_done (by kernel_rfl) ?_
              go_wp2_with fail
              go_ret
              exact ⟨rfl, bb⟩
end Go.Proofs.Ytmifmnpbkdjbaaa
