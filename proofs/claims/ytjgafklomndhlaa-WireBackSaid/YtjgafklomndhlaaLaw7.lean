import Derived.Test.YtjgafklomndhlaaWordsL
import Derived.Test.YtjgafklomndhlaaLaw6
namespace Go.Proofs.Ytjgafklomndhlaa
open Go.RowKit
set_option linter.unusedVariables false

theorem old_lt (w : World) : ∀ b, Old w b → b < w.heap.size := fun _ h => h
theorem RdB.belowB {w w' : World} {D : Nat → Prop} {A : Option Addr} {zs : List UInt8} {B : Nat} (h : RdB w D A zs) (hb : Below B w w') (hd : ∀ b, D b → b < B) : RdB w' D A zs := Rd.belowB h hb hd
theorem RdI.belowB {w w' : World} {D : Nat → Prop} {A : Option Addr} {zs : List Int} {B : Nat} (h : RdI w D A zs) (hb : Below B w w') (hd : ∀ b, D b → b < B) : RdI w' D A zs := Rd.belowB h hb hd
theorem Rdr.world {w : World} {g : Nat} {D : Nat → Prop} {s : St} (h : Rdr w g D s) : ∃ W, W = w := ⟨_, rfl⟩
theorem mk16_i64 (n : Int) : I64 (mk16 n) := by
  obtain ⟨j, h1, h2⟩ := mk16_nat n
  rw [h1]; unfold I64; omega

set_option maxRecDepth 100000 in
set_option maxHeartbeats 8000000 in
theorem wireBack_walk (w : World) (AL : Option Addr) (L : List WV) (cL : Nat) (rL : RdL w (Old w) 4 wordC AL L) (lL : L.length ≤ cL) (mL : cL ≤ 9223372036854775807) (nL : AL = none → cL = 0) (wL : ∀ s ∈ L, wordP w s) :
    Calls Try.prog 7 #[.slice AL L.length cL] w fun e w' => e = .returned (.bool true) ∧ Below w.heap.size w w' := by
  by_cases h0 : 50 < L.length
  · go_enter Try.func7, Try.ntmps7
    go_wp2_with fail
    refine (awake_any _).mono ?_
    rintro e wa ⟨rfl, b1⟩
    go_wp2_with fail
    go_ret
    exact ⟨rfl, b1⟩
  · have hLl : L.length ≤ 50 := by omega
    clear h0
    go_enter Try.func7, Try.ntmps7
    go_wp2_with fail
    refine (awake_any _).mono ?_
    rintro e wa ⟨rfl, b1⟩
    go_wp2_with fail
    go_loopw [4, 5, 6, 7] (fun b i p kk wr => ∃ j : Nat, j ≤ L.length ∧ i = .int .i64 (j : Int) ∧ OwnB wr w.heap.size b ((L.take j).flatMap encW) ∧ (∀ s ∈ L.take j, goodW s) ∧ Below w.heap.size w wr) (fun _ i _ _ _ => L.length - (intOf i).toNat)
    case atStart => exact ⟨0, Nat.zero_le _, rfl, OwnB.nil, by simp, b1⟩
    case round =>
      clear b1
      obtain ⟨j, hj, rfl, hown, hgood, bb⟩ := hrel
      rename_i wr _
      by_cases hk1 : j < L.length
      · obtain ⟨ad, e0, c0, c1, c2, c3⟩ := (rL.belowB bb (fun _ h => h)).word hk1
        have hP := wL _ (List.getElem_mem hk1)
        have HT := Lib.hid (flatW_take L j hk1)
        have HG : Hid (∀ s ∈ L.take (j + 1), s = L[j] ∨ s ∈ L.take j) := by
          intro s hs
          rw [List.take_succ_eq_append_getElem hk1, List.mem_append] at hs
          rcases hs with h | h
          · exact .inr h
          · exact .inl (by simpa using h)
        obtain ⟨fl, hfl⟩ : ∃ fl, fl = (L.take j).flatMap encW := ⟨_, rfl⟩
        have hfll : fl.length ≤ 3500000 := by
          have := flatW_len (L.take j)
          rw [List.length_take, ← hfl] at this
          omega
        rw [← hfl] at hown HT
        clear hfl
        generalize L[j] = sw at *
        obtain ⟨width, n, Ax, x, cx, Al, l, cl⟩ := sw
        obtain ⟨iw, im, rx, lx, mx, rl, ll, ml, wl⟩ := hP
        simp only at c0 c1 c2 c3 iw im rx lx mx rl ll ml wl
        subst e0
        by_cases hbad : 1000 < x.length ∨ 200 < l.length ∨ width < 2 ∨ 7 < width
        · by_cases a1 : 1000 < x.length
          focus skip
          rotate_left
          by_cases a2 : 200 < l.length
          focus skip
          rotate_left
          by_cases a3 : width < 2
          focus skip
          rotate_left
          focus
            have a4 : 7 < width := by omega
          all_goals
            clear hbad
            go_wp2_with fail
            go_ret
            exact ⟨rfl, bb.thenB' (below_new wr _)⟩
        · have lx1 : x.length ≤ 1000 := by omega
          have ll1 : l.length ≤ 200 := by omega
          have wlo : 2 ≤ width := by omega
          have whi : width ≤ 7 := by omega
          clear hbad
          go_wp2_with fail
          have hS := Blk.new wr 47 #[.int .i64 width, .int .i64 n, .slice Ax x.length cx, .slice Al l.length cl]
          have bn := below_new wr (.cells #[.int .i64 width, .int .i64 n, .slice Ax x.length cx, .slice Al l.length cl] 47)
          have bb := bb.thenB' bn
          have hown := OwnB.below hown bn
          clear c0 c1 c2 c3
          generalize wr.alloc (.cells #[.int .i64 width, .int .i64 n, .slice Ax x.length cx, .slice Al l.length cl] 47) = wq at *
          clear bn
          have c3 := hS.cell 3
          simp at c3
          go_loopw [7] (fun kk wr' => ∃ q : Nat, q ≤ l.length ∧ kk = .int .i64 (q : Int) ∧ (∀ z ∈ l.take q, 0 ≤ z ∧ z ≤ 65535) ∧ wq = wr') (fun kk _ => l.length - (intOf kk).toNat)
          case atStart => exact ⟨0, Nat.zero_le _, rfl, by simp, rfl⟩
          case round =>
            obtain ⟨q, hq, rfl, hz, rfl⟩ := hrel
            by_cases hq1 : q < l.length
            · obtain ⟨al, e1, _, hcell⟩ := RdI.at_ (Rd.belowB rl bb (fun _ h => h)) hq1
              subst e1
              have HQ : Hid (∀ z ∈ l.take (q + 1), z = l[q] ∨ z ∈ l.take q) := by
                intro z hz
                rw [List.take_succ_eq_append_getElem hq1, List.mem_append] at hz
                rcases hz with h | h
                · exact .inr h
                · exact .inl (by simpa using h)
              generalize l[q] = z at *
              by_cases z1 : z < 0
              · go_wp2_with fail
                go_ret
                exact ⟨rfl, bb⟩
              · by_cases z2 : 65535 < z
                · go_wp2_with fail
                  go_ret
                  exact ⟨rfl, bb⟩
                · have hrel : ∀ y ∈ l.take (q + 1), 0 ≤ y ∧ y ≤ 65535 := fun y hy => by
                    rcases HQ.out y hy with h | h
                    · subst h; omega
                    · exact hz y h
                  go_wp2_with fail
                  go_roundw
                  case rel => exact ⟨q + 1, by omega, by go_num, hrel, trivial⟩
                  case measure => simp [intOf]; omega
            · obtain rfl : q = l.length := by omega
              rw [List.take_of_length_le (Nat.le_refl _)] at hz
              have X1 := numE_length width (mk16 n)
              have X2 := blobE_len x
              go_wp2_with fail
              refine r_start (R := RB) (by rfl) (n := 16) (L := #[false, false, false, false, false, false, false, false, false, false, false, false, false, false, false, false]) rfl rfl ?_
              have bd : Below wq.heap.size wq wq.drew := (Below.refl _ _).drew
              have hS := hS.below bd
              have rx := (Rd.belowB rx bb (fun _ h => h)).below bd
              have rl := (Rd.belowB rl bb (fun _ h => h)).below bd
              have hown := OwnB.below hown bd
              have bb := bb.thenB' bd
              obtain ⟨Af, cf, rfl, _, _⟩ := hown.form
              have rf := hown.rd
              generalize wq.drew = wd at *
              clear bd
              refine r_flt RB_refl 0 68 #[true, false, false, false, false, false, false, false, false, false, false, false, false, false, false, false] (by simp only [List.getElem?_toArray, List.getElem?_cons_zero]; rfl) (by rfl) (by kernel_rfl) (by kernel_rfl) (by kernel_rfl) (fun _ _ _ _ h => h) rfl (by rfl) ?_
              apply Exists.intro
              apply And.intro
              · intro W hW
                first | (go_simp; with_reducible rfl) | go_simp
              (try simp only [Act.put, List.setIfInBounds_toArray]); (try simp only [List.set_cons_succ]); (try simp only [List.set_cons_zero])
              refine r_flt RB_refl 1 69 #[true, true, false, false, false, false, false, false, false, false, false, false, false, false, false, false] (by simp only [List.getElem?_toArray, List.getElem?_cons_succ, List.getElem?_cons_zero]; rfl) (by rfl) (by kernel_rfl) (by kernel_rfl) (by kernel_rfl) (fun _ _ _ _ h => h) rfl (by rfl) ?_
              apply Exists.intro
              apply And.intro
              · intro W hW
                first | (go_simp; with_reducible rfl) | go_simp
              (try simp only [Act.put, List.setIfInBounds_toArray]); (try simp only [List.set_cons_succ]); (try simp only [List.set_cons_zero])
              refine r_flt RB_refl 2 70 #[true, true, true, false, false, false, false, false, false, false, false, false, false, false, false, false] (by simp only [List.getElem?_toArray, List.getElem?_cons_succ, List.getElem?_cons_zero]; rfl) (by rfl) (by kernel_rfl) (by kernel_rfl) (by kernel_rfl) (fun _ _ _ _ h => h) rfl (by rfl) ?_
              apply Exists.intro
              apply And.intro
              · intro W hW
                have c := (hS.below hW).cell 0
                simp at c
                go_simp; rfl
              (try simp only [Act.put, List.setIfInBounds_toArray]); (try simp only [List.set_cons_succ]); (try simp only [List.set_cons_zero])
              refine r_flt RB_refl 3 71 #[true, true, true, true, false, false, false, false, false, false, false, false, false, false, false, false] (by simp only [List.getElem?_toArray, List.getElem?_cons_succ, List.getElem?_cons_zero]; rfl) (by rfl) (by kernel_rfl) (by kernel_rfl) (by kernel_rfl) (fun _ _ _ _ h => h) rfl (by rfl) ?_
              apply Exists.intro
              apply And.intro
              · intro W hW
                first | (go_simp; with_reducible rfl) | go_simp
              (try simp only [Act.put, List.setIfInBounds_toArray]); (try simp only [List.set_cons_succ]); (try simp only [List.set_cons_zero])
              refine r_flt RB_refl 4 72 #[true, true, true, true, true, false, false, false, false, false, false, false, false, false, false, false] (by simp only [List.getElem?_toArray, List.getElem?_cons_succ, List.getElem?_cons_zero]; rfl) (by rfl) (by kernel_rfl) (by kernel_rfl) (by kernel_rfl) (fun _ _ _ _ h => h) rfl (by rfl) ?_
              apply Exists.intro
              apply And.intro
              · intro W hW
                have c := (hS.below hW).cell 1
                simp at c
                go_simp; rfl
              (try simp only [Act.put, List.setIfInBounds_toArray]); (try simp only [List.set_cons_succ]); (try simp only [List.set_cons_zero])
              refine r_flt RB_refl 5 73 #[true, true, true, true, true, true, false, false, false, false, false, false, false, false, false, false] (by simp only [List.getElem?_toArray, List.getElem?_cons_succ, List.getElem?_cons_zero]; rfl) (by rfl) (by kernel_rfl) (by kernel_rfl) (by kernel_rfl) (fun _ _ _ _ h => h) rfl (by rfl) ?_
              apply Exists.intro
              apply And.intro
              · intro W hW
                have hmk : bits .and .i64 n 65535 = mk16 n := rfl
                go_simp; rfl
              (try simp only [Act.put, List.setIfInBounds_toArray]); (try simp only [List.set_cons_succ]); (try simp only [List.set_cons_zero])
              refine r_flt RB_refl 7 75 #[true, true, true, true, true, true, false, true, false, false, false, false, false, false, false, false] (by simp only [List.getElem?_toArray, List.getElem?_cons_succ, List.getElem?_cons_zero]; rfl) (by rfl) (by kernel_rfl) (by kernel_rfl) (by kernel_rfl) (fun _ _ _ _ h => h) rfl (by rfl) ?_
              apply Exists.intro
              apply And.intro
              · intro W hW
                first | (go_simp; with_reducible rfl) | go_simp
              (try simp only [Act.put, List.setIfInBounds_toArray]); (try simp only [List.set_cons_succ]); (try simp only [List.set_cons_zero])
              refine r_flt RB_refl 8 76 #[true, true, true, true, true, true, false, true, true, false, false, false, false, false, false, false] (by simp only [List.getElem?_toArray, List.getElem?_cons_succ, List.getElem?_cons_zero]; rfl) (by rfl) (by kernel_rfl) (by kernel_rfl) (by kernel_rfl) (fun _ _ _ _ h => h) rfl (by rfl) ?_
              apply Exists.intro
              apply And.intro
              · intro W hW
                have c := (hS.below hW).cell 2
                simp at c
                go_simp; rfl
              (try simp only [Act.put, List.setIfInBounds_toArray]); (try simp only [List.set_cons_succ]); (try simp only [List.set_cons_zero])
              refine r_flt RB_refl 10 78 #[true, true, true, true, true, true, false, true, true, false, true, false, false, false, false, false] (by simp only [List.getElem?_toArray, List.getElem?_cons_succ, List.getElem?_cons_zero]; rfl) (by rfl) (by kernel_rfl) (by kernel_rfl) (by kernel_rfl) (fun _ _ _ _ h => h) rfl (by rfl) ?_
              apply Exists.intro
              apply And.intro
              · intro W hW
                first | (go_simp; with_reducible rfl) | go_simp
              (try simp only [Act.put, List.setIfInBounds_toArray]); (try simp only [List.set_cons_succ]); (try simp only [List.set_cons_zero])
              refine r_flt RB_refl 11 79 #[true, true, true, true, true, true, false, true, true, false, true, true, false, false, false, false] (by simp only [List.getElem?_toArray, List.getElem?_cons_succ, List.getElem?_cons_zero]; rfl) (by rfl) (by kernel_rfl) (by kernel_rfl) (by kernel_rfl) (fun _ _ _ _ h => h) rfl (by rfl) ?_
              apply Exists.intro
              apply And.intro
              · intro W hW
                have c := (hS.below hW).cell 0
                simp at c
                go_simp; rfl
              (try simp only [Act.put, List.setIfInBounds_toArray]); (try simp only [List.set_cons_succ]); (try simp only [List.set_cons_zero])
              refine r_flt RB_refl 12 80 #[true, true, true, true, true, true, false, true, true, false, true, true, true, false, false, false] (by simp only [List.getElem?_toArray, List.getElem?_cons_succ, List.getElem?_cons_zero]; rfl) (by rfl) (by kernel_rfl) (by kernel_rfl) (by kernel_rfl) (fun _ _ _ _ h => h) rfl (by rfl) ?_
              apply Exists.intro
              apply And.intro
              · intro W hW
                first | (go_simp; with_reducible rfl) | go_simp
              (try simp only [Act.put, List.setIfInBounds_toArray]); (try simp only [List.set_cons_succ]); (try simp only [List.set_cons_zero])
              refine r_flt RB_refl 13 81 #[true, true, true, true, true, true, false, true, true, false, true, true, true, true, false, false] (by simp only [List.getElem?_toArray, List.getElem?_cons_succ, List.getElem?_cons_zero]; rfl) (by rfl) (by kernel_rfl) (by kernel_rfl) (by kernel_rfl) (fun _ _ _ _ h => h) rfl (by rfl) ?_
              apply Exists.intro
              apply And.intro
              · intro W hW
                have c := (hS.below hW).cell 3
                simp at c
                go_simp; rfl
              (try simp only [Act.put, List.setIfInBounds_toArray]); (try simp only [List.set_cons_succ]); (try simp only [List.set_cons_zero])
              refine r_one RB_trans 6 (by kernel_rfl) ?_
              refine alt_call 74 #[true, true, true, true, true, true, true, true, true, false, true, true, true, true, false, false] (by simp only [List.getElem?_toArray, List.getElem?_cons_succ, List.getElem?_cons_zero]; rfl) (by rfl) rfl (by rfl) (by go_simp; first | exact ⟨rfl, rfl⟩ | rfl) ?_
              with_reducible refine (Num_any _ Af cf fl width (mk16 n) _ rf (by omega) iw (mk16_i64 n)).mono ?_
              rintro e w5 ⟨v5, rfl, o5, b5⟩
              obtain ⟨A5, n5, c5, rfl, e5, _, _⟩ := o5.form'
              refine ⟨_, rfl, b5, ?_⟩
              have hS := hS.below b5
              have rx := rx.below b5
              have rl := rl.below b5
              have bb := bb.thenB' b5
              (try simp only [Act.put, List.setIfInBounds_toArray]); (try simp only [List.set_cons_succ]); (try simp only [List.set_cons_zero])
              refine r_one RB_trans 9 (by kernel_rfl) ?_
              refine alt_call 77 #[true, true, true, true, true, true, true, true, true, true, true, true, true, true, false, false] (by simp only [List.getElem?_toArray, List.getElem?_cons_succ, List.getElem?_cons_zero]; rfl) (by rfl) rfl (by rfl) (by go_simp; first | exact ⟨rfl, rfl⟩ | rfl) ?_
              have hcall := Blob_any _ _ A5 Ax c5 cx (fl ++ numE width (mk16 n)) x _ o5.rd' rx (by rw [List.length_append]; omega) lx mx
              rw [← e5.out] at hcall
              with_reducible refine hcall.mono ?_
              clear hcall
              rintro e w6 ⟨v6, rfl, o6, b6⟩
              obtain ⟨A6, n6, c6, rfl, e6, _, _⟩ := o6.form'
              refine ⟨_, rfl, b6, ?_⟩
              have hS := hS.below b6
              have rx := rx.below b6
              have rl := rl.below b6
              have bb := bb.thenB' b6
              (try simp only [Act.put, List.setIfInBounds_toArray]); (try simp only [List.set_cons_succ]); (try simp only [List.set_cons_zero])
              refine r_one RB_trans 14 (by kernel_rfl) ?_
              refine alt_call 82 #[true, true, true, true, true, true, true, true, true, true, true, true, true, true, true, false] (by simp only [List.getElem?_toArray, List.getElem?_cons_succ, List.getElem?_cons_zero]; rfl) (by rfl) rfl (by rfl) (by go_simp; first | exact ⟨rfl, rfl⟩ | rfl) ?_
              have hcall := Nums_any _ _ A6 Al c6 cl (fl ++ numE width (mk16 n) ++ blobE x) width l _ o6.rd' rl (by rw [List.length_append, List.length_append]; omega) ll ml iw wl
              rw [← e6.out] at hcall
              with_reducible refine hcall.mono ?_
              clear hcall
              rintro e w7 ⟨v7, rfl, o7, b7⟩
              refine ⟨_, rfl, b7, ?_⟩
              have bb7 := bb.thenB' b7
              (try simp only [Act.put, List.setIfInBounds_toArray]); (try simp only [List.set_cons_succ]); (try simp only [List.set_cons_zero])
              refine r_flt RB_refl 15 4 #[true, true, true, true, true, true, true, true, true, true, true, true, true, true, true, true] (by simp only [List.getElem?_toArray, List.getElem?_cons_succ, List.getElem?_cons_zero]; rfl) (by rfl) (by kernel_rfl) (by kernel_rfl) (by kernel_rfl) (fun _ _ _ _ h => h) rfl (by rfl) ?_
              apply Exists.intro
              apply And.intro
              · intro W hW
                first | (go_simp; with_reducible rfl) | go_simp
              (try simp only [Act.put, List.setIfInBounds_toArray]); (try simp only [List.set_cons_succ]); (try simp only [List.set_cons_zero])
              refine r_done (by kernel_rfl) ?_
              go_wp2_with fail
              have hrel : OwnB w7 w.heap.size v7 ((L.take (j + 1)).flatMap encW) := by
                rw [HT.out]
                have o7 := o7.low (Nat.le_trans bb.size (Nat.le_refl _))
                unfold encW
                rw [← List.append_assoc, ← List.append_assoc]
                exact o7
              go_roundw
              case rel => exact ⟨j + 1, by omega, by go_num, hrel, fun s hs => by
                rcases HG.out s hs with h | h
                · subst h; exact ⟨lx1, ll1, wlo, whi, hz⟩
                · exact hgood s h, bb7⟩
              case measure => simp [intOf]; omega
      · obtain rfl : j = L.length := by omega
        rw [List.take_of_length_le (Nat.le_refl _)] at hown hgood
        obtain ⟨bs, hbs⟩ : ∃ bs, bs = L.flatMap encW := ⟨_, rfl⟩
        have hbl : bs.length ≤ 3500000 := by
          have := flatW_len L
          rw [← hbs] at this
          omega
        rw [← hbs] at hown
        have HB := Lib.hid hbs
        clear hbs
        obtain ⟨Ab, cb, rfl, _, _⟩ := hown.form
        have rb := hown.rd
        go_wp2_with fail
        refine (Read_any _ Ab cb bs wr rb (by unfold big; omega)).mono ?_
        rintro e wb ⟨g, rfl, r, hg, b2⟩
        have r : Rdr wb g (fun b => wr.heap.size ≤ b ∧ b ≠ g) ((L.drop 0).flatMap encW, 0) := by rw [List.drop_zero, ← HB.out]; exact r
        have hgw : w.heap.size ≤ g := Nat.le_trans bb.size hg
        have n2 : ∀ i, i < w.heap.size → ¬ i = g := fun i hi h => by omega
        have bb := bb.thenB' b2
        clear hown rb b2 hg
        go_wp2_with fail
        generalize (fun b => wr.heap.size ≤ b ∧ b ≠ g) = D at *
        go_loopw [9, 10] (fun i p wr' => ∃ j : Nat, j ≤ L.length ∧ i = .int .i64 (j : Int) ∧ Rdr wr' g D ((L.drop j).flatMap encW, 0) ∧ Below w.heap.size w wr') (fun i _ _ => L.length - (intOf i).toNat)
        case atStart => exact ⟨0, Nat.zero_le _, rfl, r, bb⟩
        case round =>
          clear r bb
          obtain ⟨j, hj, rfl, r, bb⟩ := hrel
          obtain ⟨wz, hwz⟩ := r.world
          subst hwz
          by_cases hk1 : j < L.length
          · obtain ⟨ad, e0, c0, c1, c2, c3⟩ := (rL.belowB bb (fun _ h => h)).word hk1
            have hP := wL _ (List.getElem_mem hk1)
            have hG := hgood _ (List.getElem_mem hk1)
            obtain ⟨rest, hrest⟩ : ∃ rest, rest = (L.drop (j + 1)).flatMap encW := ⟨_, rfl⟩
            obtain ⟨s1, s2, E1, E2, E3⟩ := readW L[j] hG rest
            rw [flatW_drop L j hk1, ← hrest] at r
            generalize L[j] = sw at *
            obtain ⟨bs, hbs⟩ : ∃ bs, bs = encW sw ++ rest := ⟨_, rfl⟩
            rw [← hbs] at r E1
            have HR := Lib.hid hrest
            clear hrest hbs
            obtain ⟨width, n, Ax, x, cx, Al, l, cl⟩ := sw
            obtain ⟨iw, im, rx, lx, mx, rl, ll, ml, wl⟩ := hP
            obtain ⟨_, ll1, _, _, _⟩ := hG
            simp only at c0 c1 c2 c3 iw im rx lx mx rl ll ml wl ll1
            have E1 := Lib.hid E1
            have E2 := Lib.hid E2
            have E3 := Lib.hid E3
            subst e0
            go_wp2_with fail
            have hS := Blk.new wz 47 #[.int .i64 width, .int .i64 n, .slice Ax x.length cx, .slice Al l.length cl]
            have bn := below_new wz (.cells #[.int .i64 width, .int .i64 n, .slice Ax x.length cx, .slice Al l.length cl] 47)
            have n8 : ¬ wz.heap.size = g := by have := r.lt; omega
            have r := r.below bn
            have bb := bb.thenB' bn
            clear c0 c1 c2 c3
            generalize wz.alloc (.cells #[.int .i64 width, .int .i64 n, .slice Ax x.length cx, .slice Al l.length cl] 47) = wq at *
            clear bn
            refine r_start (R := (RG g)) (by rfl) (n := 27) (L := #[false, false, false, false, false, false, false, false, false, false, false, false, false, false, false, false, false, false, false, false, false, false, false, false, false, false, false]) rfl rfl ?_
            have bd : Below wq.heap.size wq wq.drew := (Below.refl _ _).drew
            have hS := hS.below bd
            have r := r.below bd
            have bb := bb.thenB' bd
            generalize wq.drew = wd at *
            clear bd
            refine r_flt (RG_refl g) 0 95 #[true, false, false, false, false, false, false, false, false, false, false, false, false, false, false, false, false, false, false, false, false, false, false, false, false, false, false] (by simp only [List.getElem?_toArray, List.getElem?_cons_zero]; rfl) (by rfl) (by kernel_rfl) (by kernel_rfl) (by kernel_rfl) (fun _ _ _ _ h => h) rfl (by rfl) ?_
            apply Exists.intro
            apply And.intro
            · intro W hW
              first | (go_simp; with_reducible rfl) | go_simp
            (try simp only [Act.put, List.setIfInBounds_toArray]); (try simp only [List.set_cons_succ]); (try simp only [List.set_cons_zero])
            refine r_flt (RG_refl g) 1 96 #[true, true, false, false, false, false, false, false, false, false, false, false, false, false, false, false, false, false, false, false, false, false, false, false, false, false, false] (by simp only [List.getElem?_toArray, List.getElem?_cons_succ, List.getElem?_cons_zero]; rfl) (by rfl) (by kernel_rfl) (by kernel_rfl) (by kernel_rfl) (fun _ _ _ _ h => h) rfl (by rfl) ?_
            apply Exists.intro
            apply And.intro
            · intro W hW
              first | (go_simp; with_reducible rfl) | go_simp
            (try simp only [Act.put, List.setIfInBounds_toArray]); (try simp only [List.set_cons_succ]); (try simp only [List.set_cons_zero])
            refine r_flt (RG_refl g) 2 97 #[true, true, true, false, false, false, false, false, false, false, false, false, false, false, false, false, false, false, false, false, false, false, false, false, false, false, false] (by simp only [List.getElem?_toArray, List.getElem?_cons_succ, List.getElem?_cons_zero]; rfl) (by rfl) (by kernel_rfl) (by kernel_rfl) (by kernel_rfl) (fun _ _ _ _ h => h) rfl (by rfl) ?_
            apply Exists.intro
            apply And.intro
            · intro W hW
              have c := (hS.mod hW n8).cell 0
              simp at c
              go_simp; rfl
            (try simp only [Act.put, List.setIfInBounds_toArray]); (try simp only [List.set_cons_succ]); (try simp only [List.set_cons_zero])
            refine r_flt (RG_refl g) 4 99 #[true, true, true, false, true, false, false, false, false, false, false, false, false, false, false, false, false, false, false, false, false, false, false, false, false, false, false] (by simp only [List.getElem?_toArray, List.getElem?_cons_succ, List.getElem?_cons_zero]; rfl) (by rfl) (by kernel_rfl) (by kernel_rfl) (by kernel_rfl) (fun _ _ _ _ h => h) rfl (by rfl) ?_
            apply Exists.intro
            apply And.intro
            · intro W hW
              first | (go_simp; with_reducible rfl) | go_simp
            (try simp only [Act.put, List.setIfInBounds_toArray]); (try simp only [List.set_cons_succ]); (try simp only [List.set_cons_zero])
            refine r_flt (RG_refl g) 5 100 #[true, true, true, false, true, true, false, false, false, false, false, false, false, false, false, false, false, false, false, false, false, false, false, false, false, false, false] (by simp only [List.getElem?_toArray, List.getElem?_cons_succ, List.getElem?_cons_zero]; rfl) (by rfl) (by kernel_rfl) (by kernel_rfl) (by kernel_rfl) (fun _ _ _ _ h => h) rfl (by rfl) ?_
            apply Exists.intro
            apply And.intro
            · intro W hW
              have c := (hS.mod hW n8).cell 1
              simp at c
              go_simp; rfl
            (try simp only [Act.put, List.setIfInBounds_toArray]); (try simp only [List.set_cons_succ]); (try simp only [List.set_cons_zero])
            refine r_flt (RG_refl g) 6 101 #[true, true, true, false, true, true, true, false, false, false, false, false, false, false, false, false, false, false, false, false, false, false, false, false, false, false, false] (by simp only [List.getElem?_toArray, List.getElem?_cons_succ, List.getElem?_cons_zero]; rfl) (by rfl) (by kernel_rfl) (by kernel_rfl) (by kernel_rfl) (fun _ _ _ _ h => h) rfl (by rfl) ?_
            apply Exists.intro
            apply And.intro
            · intro W hW
              have hmk : bits .and .i64 n 65535 = mk16 n := rfl
              go_simp; rfl
            (try simp only [Act.put, List.setIfInBounds_toArray]); (try simp only [List.set_cons_succ]); (try simp only [List.set_cons_zero])
            refine r_one (RG_trans g) 3 (by kernel_rfl) ?_
            refine alt_call 98 #[true, true, true, true, true, true, true, false, false, false, false, false, false, false, false, false, false, false, false, false, false, false, false, false, false, false, false] (by simp only [List.getElem?_toArray, List.getElem?_cons_succ, List.getElem?_cons_zero]; rfl) (by rfl) rfl (by rfl) (by go_simp; first | exact ⟨rfl, rfl⟩ | rfl) ?_
            have hcall := Num_any' g D (bs, 0) width _ r
            rw [E1.out] at hcall
            dsimp only at hcall
            with_reducible refine hcall.mono ?_
            clear hcall
            rintro e w5 ⟨rfl, r, m⟩
            refine ⟨_, rfl, m, ?_⟩
            have hS := hS.mod m n8
            have bb := bb.thenM m bb.size n2
            (try simp only [Act.put, List.setIfInBounds_toArray]); (try simp only [List.set_cons_succ]); (try simp only [List.set_cons_zero])
            refine r_flt (RG_refl g) 7 102 #[true, true, true, true, true, true, true, true, false, false, false, false, false, false, false, false, false, false, false, false, false, false, false, false, false, false, false] (by simp only [List.getElem?_toArray, List.getElem?_cons_succ, List.getElem?_cons_zero]; rfl) (by rfl) (by kernel_rfl) (by kernel_rfl) (by kernel_rfl) (fun _ _ _ _ h => h) rfl (by rfl) ?_
            apply Exists.intro
            apply And.intro
            · intro W hW
              go_simp; rfl
            (try simp only [Act.put, List.setIfInBounds_toArray]); (try simp only [List.set_cons_succ]); (try simp only [List.set_cons_zero])
            refine r_flt (RG_refl g) 8 103 #[true, true, true, true, true, true, true, true, true, false, false, false, false, false, false, false, false, false, false, false, false, false, false, false, false, false, false] (by simp only [List.getElem?_toArray, List.getElem?_cons_succ, List.getElem?_cons_zero]; rfl) (by rfl) (by kernel_rfl) (by kernel_rfl) (by kernel_rfl) (fun _ _ _ _ h => h) rfl (by rfl) ?_
            apply Exists.intro
            apply And.intro
            · intro W hW
              first | (go_simp; with_reducible rfl) | go_simp
            (try simp only [Act.put, List.setIfInBounds_toArray]); (try simp only [List.set_cons_succ]); (try simp only [List.set_cons_zero])
            refine r_flt (RG_refl g) 9 104 #[true, true, true, true, true, true, true, true, true, true, false, false, false, false, false, false, false, false, false, false, false, false, false, false, false, false, false] (by simp only [List.getElem?_toArray, List.getElem?_cons_succ, List.getElem?_cons_zero]; rfl) (by rfl) (by kernel_rfl) (by kernel_rfl) (by kernel_rfl) (fun _ _ _ _ h => h) rfl (by rfl) ?_
            apply Exists.intro
            apply And.intro
            · intro W hW
              first | (go_simp; with_reducible rfl) | go_simp
            (try simp only [Act.put, List.setIfInBounds_toArray]); (try simp only [List.set_cons_succ]); (try simp only [List.set_cons_zero])
            refine r_flt (RG_refl g) 12 107 #[true, true, true, true, true, true, true, true, true, true, false, false, true, false, false, false, false, false, false, false, false, false, false, false, false, false, false] (by simp only [List.getElem?_toArray, List.getElem?_cons_succ, List.getElem?_cons_zero]; rfl) (by rfl) (by kernel_rfl) (by kernel_rfl) (by kernel_rfl) (fun _ _ _ _ h => h) rfl (by rfl) ?_
            apply Exists.intro
            apply And.intro
            · intro W hW
              first | (go_simp; with_reducible rfl) | go_simp
            (try simp only [Act.put, List.setIfInBounds_toArray]); (try simp only [List.set_cons_succ]); (try simp only [List.set_cons_zero])
            refine r_flt (RG_refl g) 13 108 #[true, true, true, true, true, true, true, true, true, true, false, false, true, true, false, false, false, false, false, false, false, false, false, false, false, false, false] (by simp only [List.getElem?_toArray, List.getElem?_cons_succ, List.getElem?_cons_zero]; rfl) (by rfl) (by kernel_rfl) (by kernel_rfl) (by kernel_rfl) (fun _ _ _ _ h => h) rfl (by rfl) ?_
            apply Exists.intro
            apply And.intro
            · intro W hW
              have c := (hS.mod hW n8).cell 2
              simp at c
              go_simp; rfl
            (try simp only [Act.put, List.setIfInBounds_toArray]); (try simp only [List.set_cons_succ]); (try simp only [List.set_cons_zero])
            refine r_flt (RG_refl g) 14 109 #[true, true, true, true, true, true, true, true, true, true, false, false, true, true, true, false, false, false, false, false, false, false, false, false, false, false, false] (by simp only [List.getElem?_toArray, List.getElem?_cons_succ, List.getElem?_cons_zero]; rfl) (by rfl) (by kernel_rfl) (by kernel_rfl) (by kernel_rfl) (fun _ _ _ _ h => h) rfl (by rfl) ?_
            apply Exists.intro
            apply And.intro
            · intro W hW
              have t := str_rd (c := cx) (Rd.mod (Rd.belowB rx bb (fun _ h => h)) hW n2) rfl
              go_simp; rfl
            (try simp only [Act.put, List.setIfInBounds_toArray]); (try simp only [List.set_cons_succ]); (try simp only [List.set_cons_zero])
            refine r_one (RG_trans g) 10 (by kernel_rfl) ?_
            refine alt_call 105 #[true, true, true, true, true, true, true, true, true, true, true, false, true, true, true, false, false, false, false, false, false, false, false, false, false, false, false] (by simp only [List.getElem?_toArray, List.getElem?_cons_succ, List.getElem?_cons_zero]; rfl) (by rfl) rfl (by rfl) (by go_simp; first | exact ⟨rfl, rfl⟩ | rfl) ?_
            have hz := r.lt
            have hcall := Blob_any' g D s1 1000 _ r
            rw [E2.out] at hcall
            dsimp only at hcall
            with_reducible refine hcall.mono ?_
            clear hcall
            rintro e w6 ⟨v6, rfl, o6, r, m⟩
            obtain ⟨A6, n6, c6, rfl, e6, _, _⟩ := o6.form'
            refine ⟨_, rfl, m, ?_⟩
            have hS := hS.mod m n8
            have bb := bb.thenM m bb.size n2
            (try simp only [Act.put, List.setIfInBounds_toArray]); (try simp only [List.set_cons_succ]); (try simp only [List.set_cons_zero])
            refine r_flt (RG_refl g) 11 106 #[true, true, true, true, true, true, true, true, true, true, true, true, true, true, true, false, false, false, false, false, false, false, false, false, false, false, false] (by simp only [List.getElem?_toArray, List.getElem?_cons_succ, List.getElem?_cons_zero]; rfl) (by rfl) (by kernel_rfl) (by kernel_rfl) (by kernel_rfl) (fun _ _ _ _ h => h) rfl (by rfl) ?_
            apply Exists.intro
            apply And.intro
            · intro W hW
              have t := str_in o6 e6.out hW (fun k hk hx => by have hx : k = g := hx; omega)
              go_simp; rfl
            (try simp only [Act.put, List.setIfInBounds_toArray]); (try simp only [List.set_cons_succ]); (try simp only [List.set_cons_zero])
            refine r_flt (RG_refl g) 15 110 #[true, true, true, true, true, true, true, true, true, true, true, true, true, true, true, true, false, false, false, false, false, false, false, false, false, false, false] (by simp only [List.getElem?_toArray, List.getElem?_cons_succ, List.getElem?_cons_zero]; rfl) (by rfl) (by kernel_rfl) (by kernel_rfl) (by kernel_rfl) (fun _ _ _ _ h => h) rfl (by rfl) ?_
            apply Exists.intro
            apply And.intro
            · intro W hW
              go_simp; rfl
            (try simp only [Act.put, List.setIfInBounds_toArray]); (try simp only [List.set_cons_succ]); (try simp only [List.set_cons_zero])
            refine r_flt (RG_refl g) 16 111 #[true, true, true, true, true, true, true, true, true, true, true, true, true, true, true, true, true, false, false, false, false, false, false, false, false, false, false] (by simp only [List.getElem?_toArray, List.getElem?_cons_succ, List.getElem?_cons_zero]; rfl) (by rfl) (by kernel_rfl) (by kernel_rfl) (by kernel_rfl) (fun _ _ _ _ h => h) rfl (by rfl) ?_
            apply Exists.intro
            apply And.intro
            · intro W hW
              first | (go_simp; with_reducible rfl) | go_simp
            (try simp only [Act.put, List.setIfInBounds_toArray]); (try simp only [List.set_cons_succ]); (try simp only [List.set_cons_zero])
            refine r_flt (RG_refl g) 17 112 #[true, true, true, true, true, true, true, true, true, true, true, true, true, true, true, true, true, true, false, false, false, false, false, false, false, false, false] (by simp only [List.getElem?_toArray, List.getElem?_cons_succ, List.getElem?_cons_zero]; rfl) (by rfl) (by kernel_rfl) (by kernel_rfl) (by kernel_rfl) (fun _ _ _ _ h => h) rfl (by rfl) ?_
            apply Exists.intro
            apply And.intro
            · intro W hW
              first | (go_simp; with_reducible rfl) | go_simp
            (try simp only [Act.put, List.setIfInBounds_toArray]); (try simp only [List.set_cons_succ]); (try simp only [List.set_cons_zero])
            refine r_flt (RG_refl g) 18 113 #[true, true, true, true, true, true, true, true, true, true, true, true, true, true, true, true, true, true, true, false, false, false, false, false, false, false, false] (by simp only [List.getElem?_toArray, List.getElem?_cons_succ, List.getElem?_cons_zero]; rfl) (by rfl) (by kernel_rfl) (by kernel_rfl) (by kernel_rfl) (fun _ _ _ _ h => h) rfl (by rfl) ?_
            apply Exists.intro
            apply And.intro
            · intro W hW
              first | (go_simp; with_reducible rfl) | go_simp
            (try simp only [Act.put, List.setIfInBounds_toArray]); (try simp only [List.set_cons_succ]); (try simp only [List.set_cons_zero])
            refine r_flt (RG_refl g) 19 114 #[true, true, true, true, true, true, true, true, true, true, true, true, true, true, true, true, true, true, true, true, false, false, false, false, false, false, false] (by simp only [List.getElem?_toArray, List.getElem?_cons_succ, List.getElem?_cons_zero]; rfl) (by rfl) (by kernel_rfl) (by kernel_rfl) (by kernel_rfl) (fun _ _ _ _ h => h) rfl (by rfl) ?_
            apply Exists.intro
            apply And.intro
            · intro W hW
              first | (go_simp; with_reducible rfl) | go_simp
            (try simp only [Act.put, List.setIfInBounds_toArray]); (try simp only [List.set_cons_succ]); (try simp only [List.set_cons_zero])
            refine r_flt (RG_refl g) 20 115 #[true, true, true, true, true, true, true, true, true, true, true, true, true, true, true, true, true, true, true, true, true, false, false, false, false, false, false] (by simp only [List.getElem?_toArray, List.getElem?_cons_succ, List.getElem?_cons_zero]; rfl) (by rfl) (by kernel_rfl) (by kernel_rfl) (by kernel_rfl) (fun _ _ _ _ h => h) rfl (by rfl) ?_
            apply Exists.intro
            apply And.intro
            · intro W hW
              have c := (hS.mod hW n8).cell 0
              simp at c
              go_simp; rfl
            (try simp only [Act.put, List.setIfInBounds_toArray]); (try simp only [List.set_cons_succ]); (try simp only [List.set_cons_zero])
            refine r_flt (RG_refl g) 22 117 #[true, true, true, true, true, true, true, true, true, true, true, true, true, true, true, true, true, true, true, true, true, false, true, false, false, false, false] (by simp only [List.getElem?_toArray, List.getElem?_cons_succ, List.getElem?_cons_zero]; rfl) (by rfl) (by kernel_rfl) (by kernel_rfl) (by kernel_rfl) (fun _ _ _ _ h => h) rfl (by rfl) ?_
            apply Exists.intro
            apply And.intro
            · intro W hW
              first | (go_simp; with_reducible rfl) | go_simp
            (try simp only [Act.put, List.setIfInBounds_toArray]); (try simp only [List.set_cons_succ]); (try simp only [List.set_cons_zero])
            refine r_flt (RG_refl g) 23 118 #[true, true, true, true, true, true, true, true, true, true, true, true, true, true, true, true, true, true, true, true, true, false, true, true, false, false, false] (by simp only [List.getElem?_toArray, List.getElem?_cons_succ, List.getElem?_cons_zero]; rfl) (by rfl) (by kernel_rfl) (by kernel_rfl) (by kernel_rfl) (fun _ _ _ _ h => h) rfl (by rfl) ?_
            apply Exists.intro
            apply And.intro
            · intro W hW
              have c := (hS.mod hW n8).cell 3
              simp at c
              go_simp; rfl
            (try simp only [Act.put, List.setIfInBounds_toArray]); (try simp only [List.set_cons_succ]); (try simp only [List.set_cons_zero])
            refine r_one (RG_trans g) 21 (by kernel_rfl) ?_
            refine alt_call 116 #[true, true, true, true, true, true, true, true, true, true, true, true, true, true, true, true, true, true, true, true, true, true, true, true, false, false, false] (by simp only [List.getElem?_toArray, List.getElem?_cons_succ, List.getElem?_cons_zero]; rfl) (by rfl) rfl (by rfl) (by go_simp; first | exact ⟨rfl, rfl⟩ | rfl) ?_
            have hcall := Nums_any' g D s2 width 200 _ r
            rw [E3.out] at hcall
            dsimp only at hcall
            with_reducible refine hcall.mono ?_
            clear hcall
            rintro e w7 ⟨v7, rfl, o7, r, m⟩
            obtain ⟨A7, c7, rfl, _, _⟩ := o7.form
            refine ⟨_, rfl, m, ?_⟩
            have hS := hS.mod m n8
            have bb := bb.thenM m bb.size n2
            (try simp only [Act.put, List.setIfInBounds_toArray]); (try simp only [List.set_cons_succ]); (try simp only [List.set_cons_zero])
            refine r_one (RG_trans g) 24 (by kernel_rfl) ?_
            refine alt_call 119 #[true, true, true, true, true, true, true, true, true, true, true, true, true, true, true, true, true, true, true, true, true, true, true, true, true, false, false] (by simp only [List.getElem?_toArray, List.getElem?_cons_succ, List.getElem?_cons_zero]; rfl) (by rfl) rfl (by rfl) (by go_simp; first | exact ⟨rfl, rfl⟩ | rfl) ?_
            with_reducible refine (Ints_yes _ _ A7 Al _ c7 cl l rfl o7.rd (RdI.belowB rl bb (old_lt w)) (by unfold big; omega)).mono ?_
            rintro e w8 ⟨rfl, b8⟩
            refine ⟨_, rfl, Mod.of_below b8 _, ?_⟩
            have r := r.below b8
            have bb := bb.thenB' b8
            (try simp only [Act.put, List.setIfInBounds_toArray]); (try simp only [List.set_cons_succ]); (try simp only [List.set_cons_zero])
            refine r_flt (RG_refl g) 25 120 #[true, true, true, true, true, true, true, true, true, true, true, true, true, true, true, true, true, true, true, true, true, true, true, true, true, true, false] (by simp only [List.getElem?_toArray, List.getElem?_cons_succ, List.getElem?_cons_zero]; rfl) (by rfl) (by kernel_rfl) (by kernel_rfl) (by kernel_rfl) (fun _ _ _ _ h => h) rfl (by rfl) ?_
            apply Exists.intro
            apply And.intro
            · intro W hW
              go_simp; rfl
            (try simp only [Act.put, List.setIfInBounds_toArray]); (try simp only [List.set_cons_succ]); (try simp only [List.set_cons_zero])
            refine r_flt (RG_refl g) 26 121 #[true, true, true, true, true, true, true, true, true, true, true, true, true, true, true, true, true, true, true, true, true, true, true, true, true, true, true] (by simp only [List.getElem?_toArray, List.getElem?_cons_succ, List.getElem?_cons_zero]; rfl) (by rfl) (by kernel_rfl) (by kernel_rfl) (by kernel_rfl) (fun _ _ _ _ h => h) rfl (by rfl) ?_
            apply Exists.intro
            apply And.intro
            · intro W hW
              first | (go_simp; with_reducible rfl) | go_simp
            (try simp only [Act.put, List.setIfInBounds_toArray]); (try simp only [List.set_cons_succ]); (try simp only [List.set_cons_zero])
            refine r_done (by kernel_rfl) ?_
            go_wp2_with fail
            go_roundw
            case rel => exact ⟨j + 1, by omega, by go_num, by rw [← HR.out]; exact r, bb⟩
            case measure => simp [intOf]; omega
          · obtain rfl : j = L.length := by omega
            rw [List.drop_length, List.flatMap_nil] at r
            go_wp2_with fail
            with_reducible refine (Left_any g _ _ _ r).mono ?_
            rintro e w5 ⟨rfl, rfl⟩
            go_wp2_with fail
            with_reducible refine (End_any g _ _ _ r).mono ?_
            rintro e w6 ⟨rfl, r, m⟩
            rw [show rEnd (([] : List UInt8), (0 : Int)) = ([], 0) from rfl]
            have bb := bb.thenM m bb.size n2
            go_wp2_with fail
            go_ret
            exact ⟨rfl, bb⟩
end Go.Proofs.Ytjgafklomndhlaa
