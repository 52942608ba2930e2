import Derived.Test.YthpmmnpjdpgamaaDoorWire4
namespace Go.Proofs.YthpmmnpjdpgamaaDoor
open Go.RowKit
set_option linter.unusedVariables false

section
variable {w : World} {base g c : Nat} {bs : List UInt8} {zs : List Int}
theorem OwnB.at_ (h : OwnB w base (.slice (some ⟨g, 0, none⟩) bs.length c) bs) {i : Nat} (hi : i < bs.length) : w.cell? ⟨g, i, none⟩ = some (.int .u8 ((bs[i]).toNat : Int)) := by
  rw [World.ownsRow.cellAt h i (by omega)]
  simp [hi, cB]
theorem OwnB.free (h : OwnB w base (.slice (some ⟨g, 0, none⟩) bs.length c) bs) (i : Nat) : w.frozen? ⟨g, i, none⟩ = false := World.ownsRow.frozenAt h i
theorem OwnB.store (h : OwnB w base (.slice (some ⟨g, 0, none⟩) bs.length c) bs) (i : Nat) (b : UInt8) : OwnB (w.setCell ⟨g, i, none⟩ (.int .u8 (b.toNat : Int))) base (.slice (some ⟨g, 0, none⟩) bs.length c) (bs.set i b) := by
  have := (World.ownsRow.stored h i (cB b)).1
  unfold OwnB
  rw [List.length_set, List.map_set]
  exact this
theorem OwnI.at_ (h : OwnI w base (.slice (some ⟨g, 0, none⟩) zs.length c) zs) {i : Nat} (hi : i < zs.length) : w.cell? ⟨g, i, none⟩ = some (.int .i64 (zs[i])) := by
  rw [World.ownsRow.cellAt h i (by omega)]
  simp [hi, cI]
theorem OwnI.free (h : OwnI w base (.slice (some ⟨g, 0, none⟩) zs.length c) zs) (i : Nat) : w.frozen? ⟨g, i, none⟩ = false := World.ownsRow.frozenAt h i
theorem OwnI.store (h : OwnI w base (.slice (some ⟨g, 0, none⟩) zs.length c) zs) (i : Nat) (b : Int) : OwnI (w.setCell ⟨g, i, none⟩ (.int .i64 b)) base (.slice (some ⟨g, 0, none⟩) zs.length c) (zs.set i b) := by
  have := (World.ownsRow.stored h i (cI b)).1
  unfold OwnI
  rw [List.length_set, List.map_set]
  exact this
end

theorem rwide_any (n : Int) (w : World) :
    Calls Tryd.prog 50 #[.int .i64 n] w fun e w' => e = .returned (.int .i64 (wideI n)) ∧ w = w' := by
  go_enter Tryd.func50, Tryd.ntmps50
  go_wp2
  go_ret
  exact ⟨rfl, rfl⟩

theorem rmost_any (k : Nat) (w : World) (h2 : k ≤ 7) :
    Calls Tryd.prog 54 #[.int .i64 (k : Int)] w fun e w' => e = .returned (.int .i64 ((256 ^ k - 1 : Nat) : Int)) ∧ w = w' := by
  have hp := pow_wide h2
  go_enter Tryd.func54, Tryd.ntmps54
  go_wp2
  go_loop [3, 4] (fun n i => ∃ j : Nat, j ≤ k ∧ i = .int .i64 (j : Int) ∧ n = .int .i64 ((256 ^ j : Nat) : Int)) (fun _ i => k - (intOf i).toNat)
  case atStart => exact ⟨0, Nat.zero_le _, rfl, rfl⟩
  case round =>
    obtain ⟨j, hj, rfl, rfl⟩ := hrel
    by_cases hlt : j < k
    · have hq : 256 ^ j * 256 ≤ 72057594037927936 := by
        rw [← Nat.pow_succ]
        exact Nat.le_trans (Nat.pow_le_pow_right (by omega) hlt) hp
      have H4 : Hid (256 ^ (j + 1) = 256 ^ j * 256) := Nat.pow_succ ..
      generalize 256 ^ j = q at *
      clear hp
      go_wp2
      go_round
      case rel => exact ⟨j + 1, by omega, by go_num, by rw [H4.out]; go_num⟩
      case measure => first | (simp [intOf]; omega) | simp [intOf]
    · obtain rfl : j = k := by omega
      have hq : 0 < 256 ^ j := Nat.pow_pos (by omega)
      generalize hQ : 256 ^ j = q at *
      have HQ := Lib.hid hQ
      clear hQ
      go_wp2
      go_ret
      exact ⟨ret_int (by rw [HQ.out]; omega), rfl⟩

theorem clamp_eq (n : Int) (k : Nat) : min (max n 0) (((256 ^ k - 1 : Nat) : Int)) = (clampN k n : Int) := by unfold clampN; omega
theorem div_pow_succ (m j : Nat) : m / 256 ^ j / 256 = m / 256 ^ (j + 1) := by rw [Nat.div_div_eq_div_mul, Nat.pow_succ]
theorem encN_getElem (k m i : Nat) (h : i < k) : (encN k m)[i]'(by rw [encN_length]; exact h) = encAt k m i := by simp [encN, encAt]
theorem byte_cell (q : Nat) : (q : Int) % 256 = ((UInt8.ofNat (q % 256)).toNat : Int) := by
  rw [UInt8.toNat_ofNat']
  have : q % 256 % 2 ^ 8 = q % 256 := Nat.mod_mod _ _
  rw [this]; rfl

theorem rNumE_any (width n : Int) (w : World) (hn : I64 n) :
    Calls Tryd.prog 36 #[.int .i64 width, .int .i64 n] w fun e w' => ∃ v, e = .returned v ∧ OwnB w' w.heap.size v (numE width n) ∧ Below w.heap.size w w' := by
  unfold I64 at hn
  have hwd := wideI_bd width
  obtain ⟨k, hk⟩ : ∃ k : Nat, wideI width = (k : Int) := ⟨(wideI width).toNat, by omega⟩
  have hnum : Hid (numE width n = encN k (clampN k n)) := by unfold Hid numE; rw [hk]; rfl
  have hk1 : 1 ≤ k := by omega
  have hk2 : k ≤ 7 := by omega
  have hm := clampN_lt k n
  have hp := pow_wide hk2
  have hm' : clampN k n < 72057594037927936 := Nat.lt_of_lt_of_le hm hp
  clear hm hp
  go_enter Tryd.func36, Tryd.ntmps36
  go_wp2_with fail
  with_reducible refine (rwide_any _ _).mono ?_
  rintro e w1 ⟨rfl, rfl⟩
  rw [hk]
  clear hk hwd
  go_wp2_with fail
  with_reducible refine (rmost_any k _ hk2).mono ?_
  rintro e w1 ⟨rfl, rfl⟩
  have hcl := clamp_eq n k
  generalize 256 ^ k - 1 = top at *
  generalize clampN k n = m at *
  go_wp2_with (at_make; refine wpList_makeB rfl (.tmp 15) (.tmp 15) rfl w.heap.size k rfl rfl (by unfold big; omega) (Nat.le_refl _) ?_; intro w1 o1 b1)
  go_loopw [1, 7] (fun x i wr => ∃ (j q : Nat) (bs : List UInt8), j ≤ k ∧ i = .int .i64 ((k : Int) - 1 - j) ∧ x = .int .i64 (q : Int) ∧ q < 72057594037927936 ∧ bs.length = k ∧ OwnB wr w.heap.size (.slice (some ⟨w.heap.size, 0, none⟩) k k) bs ∧ Below w.heap.size w wr ∧ Hid (q = m / 256 ^ j ∧ ∀ i, k - j ≤ i → i < k → bs[i]? = some (encAt k m i))) (fun _ i _ => (intOf i + 1).toNat)
  case atStart => exact ⟨0, m, _, Nat.zero_le _, by simp, rfl, hm', by simp, o1, b1, ⟨by simp, fun i h1 h2 => by omega⟩⟩
  case round =>
    obtain ⟨j, q, bs, hj, rfl, rfl, hq, hbl, hown, hb, HH⟩ := hrel
    have HL := Lib.hid hbl
    by_cases hlt : j < k
    · have hi : k - 1 - j < bs.length := by omega
      obtain ⟨p, hp⟩ : ∃ p : Nat, (k : Int) - 1 - j = (p : Int) := ⟨k - 1 - j, by omega⟩
      have hpk : p = k - 1 - j := by omega
      rw [hp]
      have HP := Lib.hid hpk
      have hp1 : p < k := by omega
      rw [← hpk] at hi
      clear hpk hp
      rw [← HL.out] at hown
      have c0 := hown.at_ hi
      have f0 := hown.free p
      clear hbl
      go_wp2
      go_roundw
      case rel =>
        refine ⟨j + 1, q / 256, bs.set p (UInt8.ofNat (q % 256)), by omega, congrArg _ (by have := HP.out; omega), by go_num, by omega, by rw [List.length_set]; exact HL.out, ?_, hb.setCell (Nat.le_refl _) _, ?_, ?_⟩
        · have := hown.store p (UInt8.ofNat (q % 256))
          rw [← byte_cell] at this
          rw [HL.out] at this
          exact this
        · rw [HH.out.1, div_pow_succ]
        · intro i h1 h2
          have hpk := HP.out
          by_cases he : i = p
          · subst he
            rw [List.getElem?_set_self (by have := HL.out; omega)]
            congr 1
            unfold encAt
            rw [HH.out.1]
            have : k - 1 - i = j := by omega
            rw [this]
          · rw [List.getElem?_set_ne (by omega)]
            exact HH.out.2 i (by omega) h2
      case measure => first | (simp [intOf]; omega) | simp [intOf]
    · obtain rfl : j = k := by omega
      clear hbl
      have hz : ((j : Int) - 1 - j) = -1 := by omega
      rw [hz]
      clear hz
      go_wp2
      go_ret
      refine ⟨_, rfl, ?_, hb⟩
      rw [hnum.out]
      have hbs : bs = encN j m := by
        apply List.ext_getElem?
        intro i
        by_cases hi : i < j
        · rw [HH.out.2 i (by omega) hi, List.getElem?_eq_getElem (by rw [encN_length]; exact hi), encN_getElem _ _ _ hi]
        · rw [List.getElem?_eq_none (by have := HL.out; omega), List.getElem?_eq_none (by rw [encN_length]; omega)]
      rw [← hbs]
      exact hown

theorem i64_small {z : Int} (h1 : 0 ≤ z) (h2 : z ≤ 72057594037927936) : I64 z := ⟨by omega, by omega⟩

set_option maxRecDepth 100000 in
theorem rBlobE_any (D : Nat → Prop) (A : Option Addr) (c : Nat) (x : List UInt8) (w : World) (h : RdB w D A x) (hc : x.length ≤ c) (hm : c ≤ 9223372036854775807) :
    Calls Tryd.prog 37 #[.slice A x.length c] w fun e w' => ∃ v, e = .returned v ∧ OwnB w' w.heap.size v (blobE x) ∧ Below w.heap.size w w' := by
  obtain ⟨k, hk⟩ : ∃ k : Nat, min x.length 65535 = k := ⟨_, rfl⟩
  have hx : Hid (blobE x = numE 2 k ++ x.take k) := by unfold Hid blobE; rw [hk]
  have hr := RdB.take h (k := k) (by omega)
  have hln := numE_length 2 k
  by_cases hl : 65535 < x.length
  · obtain rfl : k = 65535 := by omega
    have hkl : Hid ((65535 : Nat) = (x.take 65535).length) := by unfold Hid; rw [List.length_take]; omega
    have hll : (numE 2 (65535 : Nat)).length + (x.take 65535).length ≤ big := Nat.le_trans (Nat.add_le_add hln (List.length_take_le _ _)) (by decide)
    clear hk h
    generalize x.take 65535 = y at *
    go_enter Tryd.func37, Tryd.ntmps37
    go_wp2_with fail
    with_reducible refine (rNumE_any 2 65535 w (i64_small (by omega) (by omega))).mono ?_
    rintro e w1 ⟨v1, rfl, o1, b1⟩
    have hr1 := hr.below b1
    have hs1 := b1.size
    go_wp2_with (at_builtin; refine wpList_appB rfl (.tmp 12) (.tmp 13) rfl w.heap.size v1 (numE 2 (65535 : Nat)) rfl o1 D A _ _ y rfl hkl.out hr1 hll hs1 ?_; intro v' w' h3 h4)
    go_ret
    exact ⟨_, rfl, by rw [hx.out]; exact h3, b1.trans (h4.below o1 (Nat.le_refl _) hs1)⟩
  · obtain rfl : k = x.length := by omega
    have hll : (numE 2 x.length).length + x.length ≤ big := by unfold big; omega
    have hx2 : Hid (blobE x = numE 2 x.length ++ x) := by unfold Hid; rw [hx.out, List.take_of_length_le (Nat.le_refl _)]
    clear hk hr hx
    go_enter Tryd.func37, Tryd.ntmps37
    go_wp2_with fail
    with_reducible refine (rNumE_any 2 x.length w (i64_small (by omega) (by omega))).mono ?_
    rintro e w1 ⟨v1, rfl, o1, b1⟩
    have hr1 := h.below b1
    have hs1 := b1.size
    go_wp2_with (at_builtin; refine wpList_appB rfl (.tmp 12) (.tmp 13) rfl w.heap.size v1 (numE 2 x.length) rfl o1 D A _ _ x rfl rfl hr1 hll hs1 ?_; intro v' w' h3 h4)
    go_ret
    exact ⟨_, rfl, by rw [hx2.out]; exact h3, b1.trans (h4.below o1 (Nat.le_refl _) hs1)⟩

end Go.Proofs.YthpmmnpjdpgamaaDoor
