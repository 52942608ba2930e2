import Derived.Test.YtmifmnpbkdjbaaaObj9
namespace Go.Proofs.Ytmifmnpbkdjbaaa
open Go.RowKit
set_option linter.unusedVariables false

set_option maxHeartbeats 1000000 in
set_option maxRecDepth 100000 in
theorem Changed_any (D D' D2 : Nat → Prop) (A B : Option Addr) (c d : Nat) (m : List Int) (L : List RV) (w : World) (h : RdI w D A m) (hL : RdL w D' 1 rowC B L) (hs : ∀ s ∈ L, RdI w D2 s.A s.l) (hl : L.length ≤ 9223372036854775807) :
    Calls Try.prog 18 #[.slice A m.length c, .slice B L.length d] w fun e w' => ∃ v, e = .returned v ∧ OwnI w' w.heap.size v (changedO m (L.map (·.l))) ∧ Below w.heap.size w w' := by
  have h' : RdI w (fun b => D b ∧ b < w.heap.size) A m := Rd.imp h (fun b h1 h2 => ⟨h2, h1⟩) (by decide)
  have hL' : RdL w (fun b => D' b ∧ b < w.heap.size) 1 rowC B L := hL.imp (fun _ => Nat.zero_lt_one) (fun b h1 h2 => ⟨h2, h1⟩)
  have hs' : ∀ s ∈ L, RdI w (fun b => D2 b ∧ b < w.heap.size) s.A s.l := fun s hm => Rd.imp (hs s hm) (fun b h1 h2 => ⟨h2, h1⟩) (by decide)
  obtain ⟨p, hp⟩ : ∃ p, p = diffO m (L.map (·.l)) := ⟨_, rfl⟩
  have HC : Hid (changedO m (L.map (·.l)) = chg p 512) := by rw [hp]; rfl
  have HP : Hid (∀ k, p k = L.any fun s => dd (gN s.l k) (gN m k)) := fun k => by rw [hp, diffO_eq]
  clear hp
  go_enter Try.func18, Try.ntmps18
  go_wp2_with fail
  go_loopw [5, 6, 7, 9, 10, 11] (fun b b6 b7 b9 b10 i wr => ∃ k : Nat, k ≤ 512 ∧ i = .int .i64 (k : Int) ∧ OwnI wr w.heap.size b (chg p k) ∧ Below w.heap.size w wr) (fun _ _ _ _ _ i _ => 512 - (intOf i).toNat)
  case atStart => exact ⟨0, Nat.zero_le _, rfl, OwnI.nil, Below.refl _ _⟩
  case round =>
    obtain ⟨k, hk, rfl, hown, bb⟩ := hrel
    by_cases hlt : k < 512
    · have hcall := Get_any _ A c m k wr (Rd.belowB h' bb (fun _ h => h.2))
      rw [gO_nat] at hcall
      have HY : Hid (∀ b, p k = b → (L.any fun s => dd (gN s.l k) (gN m k)) = b) := fun b hb => by rw [← HP.out, hb]
      generalize gN m k = y at *
      have HN := Lib.hid (chg_no p k)
      have HS := Lib.hid (chg_yes p k)
      have hql := chg_len p k
      obtain ⟨xs, hxs⟩ : ∃ xs, xs = chg p k := ⟨_, rfl⟩
      rw [← hxs] at hown HN HS hql
      clear hxs
      have LR := hL'.belowB bb (fun _ h => h.2)
      have LS : ∀ s ∈ L, RdI wr (fun b => D2 b ∧ b < w.heap.size) s.A s.l := fun s hm => Rd.belowB (hs' s hm) bb (fun _ h => h.2)
      by_cases hy : y = 0
      ·
        have hyb : (y != 0) = false := by simp [hy]
        have hdz : Hid (∀ z, z ≠ 1 → dd z y = (z != 0)) := fun z hz => by
          unfold dd
          by_cases h : z = 0 <;> simp [hy, hz, h]
        clear hy
        go_wp2_with fail
        with_reducible refine hcall.mono ?_
        clear hcall
        rintro e w1 ⟨rfl, rfl⟩
        go_wp2_with fail
        go_loopw [5, 9, 10, 20] (fun b5 b9 b10 i wr' => ∃ j : Nat, j ≤ L.length ∧ i = .int .i64 (j : Int) ∧ b5 = u5 ∧ ((L.take j).any fun s => dd (gN s.l k) y) = false ∧ wr = wr') (fun _ _ _ i _ => L.length - (intOf i).toNat)
        case atStart => exact ⟨0, Nat.zero_le _, rfl, rfl, rfl, rfl⟩
        case round =>
          obtain ⟨j, hj, rfl, rfl, hf, rfl⟩ := hrel
          have HF := Lib.hid hf
          clear hf
          by_cases hj2 : j < L.length
          · obtain ⟨ad, e0, hcell⟩ := LR.row hj2
            have hcall := Get_any _ _ L[j].c _ k wr (LS _ (List.getElem_mem hj2))
            rw [gO_nat] at hcall
            have HT : Hid (dd (gN L[j].l k) y = false → ((L.take (j + 1)).any fun s => dd (gN s.l k) y) = false) := fun hb => by
              rw [any_take _ _ _ hj2, HF.out, hb]; rfl
            have HA : Hid (dd (gN L[j].l k) y = true → p k = true) := fun hb => by
              have hb2 : (L.any fun s => dd (gN s.l k) y) = true := List.any_eq_true.2 ⟨_, List.getElem_mem hj2, hb⟩
              have := HY.out _ rfl
              rw [← this]; exact hb2
            subst e0
            generalize gN L[j].l k = z at *
            generalize L[j] = s at *
            obtain ⟨sA, sl, sc⟩ := s
            simp only at hcell hcall
            by_cases z1 : z = 1
            · have hd : dd z y = true := by unfold dd; simp [z1]
              have hpk := HA.out hd
              have h1 := HS.out hpk
              have HE := Lib.hid h1
              subst z1
              clear hd hpk h1 HT HA
              go_wp2_with fail
              with_reducible refine hcall.mono ?_
              rintro e w3 ⟨rfl, rfl⟩
              go_wp2_with (at_builtin; refine wpList_appI rfl (.tmp 35) (.tmp 37) rfl w.heap.size _ xs rfl (OwnI.below hown (below_new _ _)) _ (some ⟨wr.heap.size, 0, none⟩) 1 1 [(k : Int)] rfl rfl (rd_newI wr k) (by unfold big; simp only [List.length_cons, List.length_nil]; omega) (Nat.le_trans bb.size (below_new wr _).size) ?_; intro v' w' h1 h2)
              have b2 := (bb.thenB' (below_new wr _)).trans (h2.below (OwnI.below hown (below_new wr _)) (Nat.le_refl _) (Nat.le_trans bb.size (below_new wr _).size))
              go_roundw
              case rel => exact ⟨k + 1, by omega, by go_num, by rw [HE.out]; exact h1, b2⟩
              case measure => simp [intOf] <;> omega
            · have hd := hdz.out z z1
              have z1b : (z == 1) = false := by simp [z1]
              by_cases z0 : z = 0
              ·
                have z0b : (z != 0) = false := by simp [z0]
                have z0c : (z == 0) = true := by simp [z0]
                have hd2 : dd z y = false := by rw [hd]; exact z0b
                have HN2 := Lib.hid (HT.out hd2)
                clear hd hd2 HT HA z0 z1 z0c
                go_wp2_with fail
                with_reducible refine hcall.mono ?_
                rintro e w3 ⟨rfl, rfl⟩
                go_wp2_with fail
                go_roundw
                case rel => exact ⟨j + 1, by omega, by go_num, rfl, HN2.out, trivial⟩
                case measure => simp [intOf] <;> omega
              ·
                have z0b : (z != 0) = true := by simp [z0]
                have z0c : (z == 0) = false := by simp [z0]
                have hd2 : dd z y = true := by rw [hd]; exact z0b
                have h1 := HS.out (HA.out hd2)
                have HE := Lib.hid h1
                clear hd hd2 h1 HT HA z0 z1 z0c
                go_wp2_with fail
                with_reducible refine hcall.mono ?_
                rintro e w3 ⟨rfl, rfl⟩
                go_wp2_with (at_builtin; refine wpList_appI rfl (.tmp 35) (.tmp 37) rfl w.heap.size _ xs rfl (OwnI.below hown (below_new _ _)) _ (some ⟨wr.heap.size, 0, none⟩) 1 1 [(k : Int)] rfl rfl (rd_newI wr k) (by unfold big; simp only [List.length_cons, List.length_nil]; omega) (Nat.le_trans bb.size (below_new wr _).size) ?_; intro v' w' h1 h2)
                have b2 := (bb.thenB' (below_new wr _)).trans (h2.below (OwnI.below hown (below_new wr _)) (Nat.le_refl _) (Nat.le_trans bb.size (below_new wr _).size))
                go_roundw
                case rel => exact ⟨k + 1, by omega, by go_num, by rw [HE.out]; exact h1, b2⟩
                case measure => simp [intOf] <;> omega
          · obtain rfl : j = L.length := by omega
            have hf := HF.out
            rw [List.take_of_length_le (Nat.le_refl _)] at hf
            have hpk : p k = false := by
              have := HY.out _ rfl
              rw [← this]; exact hf
            have h1 := HN.out hpk
            have HE := Lib.hid h1
            clear hf hpk h1
            go_wp2_with fail
            go_roundw
            case rel => exact ⟨k + 1, by omega, by go_num, by rw [HE.out]; exact hown, bb⟩
            case measure => simp [intOf] <;> omega
      ·
        have hyb : (y != 0) = true := by simp [hy]
        have hdz : Hid (∀ z, z ≠ 1 → dd z y = (z == 0)) := fun z hz => by
          unfold dd
          by_cases h : z = 0 <;> simp [hy, hz, h]
        clear hy
        go_wp2_with fail
        with_reducible refine hcall.mono ?_
        clear hcall
        rintro e w1 ⟨rfl, rfl⟩
        go_wp2_with fail
        go_loopw [5, 9, 10, 20] (fun b5 b9 b10 i wr' => ∃ j : Nat, j ≤ L.length ∧ i = .int .i64 (j : Int) ∧ b5 = u5 ∧ ((L.take j).any fun s => dd (gN s.l k) y) = false ∧ wr = wr') (fun _ _ _ i _ => L.length - (intOf i).toNat)
        case atStart => exact ⟨0, Nat.zero_le _, rfl, rfl, rfl, rfl⟩
        case round =>
          obtain ⟨j, hj, rfl, rfl, hf, rfl⟩ := hrel
          have HF := Lib.hid hf
          clear hf
          by_cases hj2 : j < L.length
          · obtain ⟨ad, e0, hcell⟩ := LR.row hj2
            have hcall := Get_any _ _ L[j].c _ k wr (LS _ (List.getElem_mem hj2))
            rw [gO_nat] at hcall
            have HT : Hid (dd (gN L[j].l k) y = false → ((L.take (j + 1)).any fun s => dd (gN s.l k) y) = false) := fun hb => by
              rw [any_take _ _ _ hj2, HF.out, hb]; rfl
            have HA : Hid (dd (gN L[j].l k) y = true → p k = true) := fun hb => by
              have hb2 : (L.any fun s => dd (gN s.l k) y) = true := List.any_eq_true.2 ⟨_, List.getElem_mem hj2, hb⟩
              have := HY.out _ rfl
              rw [← this]; exact hb2
            subst e0
            generalize gN L[j].l k = z at *
            generalize L[j] = s at *
            obtain ⟨sA, sl, sc⟩ := s
            simp only at hcell hcall
            by_cases z1 : z = 1
            · have hd : dd z y = true := by unfold dd; simp [z1]
              have hpk := HA.out hd
              have h1 := HS.out hpk
              have HE := Lib.hid h1
              subst z1
              clear hd hpk h1 HT HA
              go_wp2_with fail
              with_reducible refine hcall.mono ?_
              rintro e w3 ⟨rfl, rfl⟩
              go_wp2_with (at_builtin; refine wpList_appI rfl (.tmp 35) (.tmp 37) rfl w.heap.size _ xs rfl (OwnI.below hown (below_new _ _)) _ (some ⟨wr.heap.size, 0, none⟩) 1 1 [(k : Int)] rfl rfl (rd_newI wr k) (by unfold big; simp only [List.length_cons, List.length_nil]; omega) (Nat.le_trans bb.size (below_new wr _).size) ?_; intro v' w' h1 h2)
              have b2 := (bb.thenB' (below_new wr _)).trans (h2.below (OwnI.below hown (below_new wr _)) (Nat.le_refl _) (Nat.le_trans bb.size (below_new wr _).size))
              go_roundw
              case rel => exact ⟨k + 1, by omega, by go_num, by rw [HE.out]; exact h1, b2⟩
              case measure => simp [intOf] <;> omega
            · have hd := hdz.out z z1
              have z1b : (z == 1) = false := by simp [z1]
              by_cases z0 : z = 0
              ·
                have z0b : (z != 0) = false := by simp [z0]
                have z0c : (z == 0) = true := by simp [z0]
                have hd2 : dd z y = true := by rw [hd]; exact z0c
                have h1 := HS.out (HA.out hd2)
                have HE := Lib.hid h1
                clear hd hd2 h1 HT HA z0 z1 z0c
                go_wp2_with fail
                with_reducible refine hcall.mono ?_
                rintro e w3 ⟨rfl, rfl⟩
                go_wp2_with (at_builtin; refine wpList_appI rfl (.tmp 35) (.tmp 37) rfl w.heap.size _ xs rfl (OwnI.below hown (below_new _ _)) _ (some ⟨wr.heap.size, 0, none⟩) 1 1 [(k : Int)] rfl rfl (rd_newI wr k) (by unfold big; simp only [List.length_cons, List.length_nil]; omega) (Nat.le_trans bb.size (below_new wr _).size) ?_; intro v' w' h1 h2)
                have b2 := (bb.thenB' (below_new wr _)).trans (h2.below (OwnI.below hown (below_new wr _)) (Nat.le_refl _) (Nat.le_trans bb.size (below_new wr _).size))
                go_roundw
                case rel => exact ⟨k + 1, by omega, by go_num, by rw [HE.out]; exact h1, b2⟩
                case measure => simp [intOf] <;> omega
              ·
                have z0b : (z != 0) = true := by simp [z0]
                have z0c : (z == 0) = false := by simp [z0]
                have hd2 : dd z y = false := by rw [hd]; exact z0c
                have HN2 := Lib.hid (HT.out hd2)
                clear hd hd2 HT HA z0 z1 z0c
                go_wp2_with fail
                with_reducible refine hcall.mono ?_
                rintro e w3 ⟨rfl, rfl⟩
                go_wp2_with fail
                go_roundw
                case rel => exact ⟨j + 1, by omega, by go_num, rfl, HN2.out, trivial⟩
                case measure => simp [intOf] <;> omega
          · obtain rfl : j = L.length := by omega
            have hf := HF.out
            rw [List.take_of_length_le (Nat.le_refl _)] at hf
            have hpk : p k = false := by
              have := HY.out _ rfl
              rw [← this]; exact hf
            have h1 := HN.out hpk
            have HE := Lib.hid h1
            clear hf hpk h1
            go_wp2_with fail
            go_roundw
            case rel => exact ⟨k + 1, by omega, by go_num, by rw [HE.out]; exact hown, bb⟩
            case measure => simp [intOf] <;> omega
    · obtain rfl : k = 512 := by omega
      rw [← HC.out] at hown
      go_wp2_with fail
      go_ret
      exact ⟨_, rfl, hown, bb⟩
end Go.Proofs.Ytmifmnpbkdjbaaa
