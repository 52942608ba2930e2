import Derived.Test.YthpmmnpjdpgamaaDoorRef1
namespace Go.Proofs.YthpmmnpjdpgamaaDoor
open Go.RowKit
set_option linter.unusedVariables false

section
variable {w w' : World} {X : Nat → Prop} {base : Nat} {v : Value}
theorem own_mod {e : TypeId} {size n : Nat} {xs : List Value} (h : w.ownsRow base e size v n xs) (hb : Mod X w w') (hx : ∀ k, base ≤ k → ¬ X k) : w'.ownsRow base e size v n xs := by
  refine ⟨h.1, ?_⟩
  rcases h.2 with h0 | ⟨g, cap, cur, hv, hg, hh, r⟩
  · exact .inl h0
  · exact .inr ⟨g, cap, cur, hv, hg, by rw [hb.block g (Array.getElem?_eq_some_iff.1 hh).1 (hx g hg)]; exact hh, r⟩
theorem OwnB.mod {bs : List UInt8} (h : OwnB w base v bs) (hb : Mod X w w') (hx : ∀ k, base ≤ k → ¬ X k) : OwnB w' base v bs := own_mod h hb hx
theorem OwnI.mod {zs : List Int} (h : OwnI w base v zs) (hb : Mod X w w') (hx : ∀ k, base ≤ k → ¬ X k) : OwnI w' base v zs := own_mod h hb hx
end

/-! ### the reference's reader -/
def RdR (w : World) (g : Nat) (D : Nat → Prop) (s : St) : Prop :=
  ∃ A c, Blk w g 52 #[.slice A s.1.length c, .int .i64 s.2] ∧ RdB w D A s.1 ∧ s.1.length ≤ c ∧ c ≤ 9223372036854775807 ∧ ¬ D g
theorem RdR.mod {w w' : World} {g : Nat} {D X : Nat → Prop} {s : St} (h : RdR w g D s) (hb : Mod X w w') (hg : ¬ X g) (hd : ∀ b, D b → ¬ X b) : RdR w' g D s := by
  obtain ⟨A, c, h1, h2, h3⟩ := h
  exact ⟨A, c, h1.mod hb hg, Rd.mod h2 hb hd, h3⟩
theorem RdR.below {w w' : World} {g : Nat} {D : Nat → Prop} {s : St} (h : RdR w g D s) (hb : Below w.heap.size w w') : RdR w' g D s :=
  h.mod (Mod.of_below hb (fun _ => False)) id (fun _ _ => id)
theorem RdR.lt {w : World} {g : Nat} {D : Nat → Prop} {s : St} (h : RdR w g D s) : g < w.heap.size := by
  obtain ⟨A, c, h1, _⟩ := h
  exact h1.lt

theorem rFail_any (g : Nat) (D : Nat → Prop) (s : St) (x : Int) (w : World) (h : RdR w g D s) :
    Calls Tryd.prog 51 #[.pointer (some ⟨g, 0, none⟩), .int .i64 x] w fun e w' => e = .returned (.tuple #[]) ∧ RdR w' g D (rFail x s) ∧ Mod (· = g) w w' := by
  obtain ⟨A, c, h1, h2, h3, h4, h5⟩ := h
  have c0 := h1.cell 0
  have c1 := h1.cell 1
  have f0 := h1.frozen 0
  have f1 := h1.frozen 1
  simp at c0 c1
  by_cases hs : s.2 = 0
  · by_cases hx : x = 0
    · have e : Hid (rFail x s = s) := by unfold Hid rFail; rw [if_neg]; simp [hx]
      have hb1 : (s.2 == 0) = true := by simp [hs]
      have hb2 : (x != 0) = false := by simp [hx]
      clear hs hx
      go_enter Tryd.func51, Tryd.ntmps51
      go_wp2
      go_end0
      exact ⟨rfl, by rw [e.out]; exact ⟨A, c, h1, h2, h3, h4, h5⟩, Mod.refl _ _⟩
    · have e : Hid (rFail x s = ([], x)) := by unfold Hid rFail; rw [if_pos ⟨hs, hx⟩]
      have hb1 : (s.2 == 0) = true := by simp [hs]
      have hb2 : (x != 0) = true := by simp [hx]
      clear hs hx
      go_enter Tryd.func51, Tryd.ntmps51
      go_wp2
      go_end0
      exact ⟨rfl, by rw [e.out]; exact ⟨none, 0, (h1.set_ 1 _).set_ 0 _, RdB.nil, by simp, by omega, h5⟩, ((Mod.refl _ _).setG _ _).setG _ _⟩
  · have e : Hid (rFail x s = s) := by unfold Hid rFail; rw [if_neg]; simp [hs]
    have hb1 : (s.2 == 0) = false := by simp [hs]
    clear hs
    go_enter Tryd.func51, Tryd.ntmps51
    go_wp2
    go_end0
    exact ⟨rfl, by rw [e.out]; exact ⟨A, c, h1, h2, h3, h4, h5⟩, Mod.refl _ _⟩

theorem rEnd_any (g : Nat) (D : Nat → Prop) (s : St) (w : World) (h : RdR w g D s) :
    Calls Tryd.prog 32 #[.pointer (some ⟨g, 0, none⟩)] w fun e w' => e = .returned (.int .i64 (rEnd s).2) ∧ RdR w' g D (rEnd s) ∧ Mod (· = g) w w' := by
  obtain ⟨A, c, h1, h2, h3, h4, h5⟩ := id h
  have c0 := h1.cell 0
  have c1 := h1.cell 1
  simp at c0 c1
  by_cases hs : s.1.length = 0
  · have e : Hid (rEnd s = s) := by unfold Hid rEnd; rw [if_pos hs]
    have hs' : ¬ 0 < s.1.length := by omega
    clear hs
    go_enter Tryd.func32, Tryd.ntmps32
    go_wp2_with fail
    go_ret
    exact ⟨by rw [e.out]; rfl, by rw [e.out]; exact h, Mod.refl _ _⟩
  · have e : Hid (rEnd s = rFail 11 s) := by unfold Hid rEnd; rw [if_neg hs]
    have hs' : 0 < s.1.length := by omega
    clear hs
    go_enter Tryd.func32, Tryd.ntmps32
    go_wp2_with fail
    with_reducible refine (rFail_any g D s 11 w h).mono ?_
    rintro e w1 ⟨rfl, r1, m1⟩
    obtain ⟨A', c', h1', _⟩ := id r1
    have c1' := h1'.cell 1
    simp at c1'
    go_wp2_with fail
    go_ret
    exact ⟨by rw [e.out]; rfl, by rw [e.out]; exact r1, m1⟩

theorem rtake_any (g : Nat) (D : Nat → Prop) (s : St) (n : Nat) (w : World) (h : RdR w g D s) (hn : n ≤ big) :
    Calls Tryd.prog 49 #[.pointer (some ⟨g, 0, none⟩), .int .i64 (n : Int)] w
      fun e w' => ∃ A c, e = .returned (.slice A (rTake n s).1.length c) ∧ RdB w' D A (rTake n s).1 ∧ (rTake n s).1.length ≤ c ∧ c ≤ 9223372036854775807 ∧ RdR w' g D (rTake n s).2 ∧ Mod (· = g) w w' := by
  obtain ⟨A, c, h1, h2, h3, h4, h5⟩ := id h
  have c0 := h1.cell 0
  have c1 := h1.cell 1
  have f0 := h1.frozen 0
  simp at c0 c1
  have hn' : n ≤ 9223372036854775807 := by unfold big at hn; omega
  by_cases hs : s.2 = 0
  · have hb1 : (s.2 != 0) = false := by simp [hs]
    have HS := Lib.hid hs
    by_cases hl : s.1.length < n
    · have e : Hid (rTake n s = ([], ([], 10))) := by unfold Hid rTake; rw [if_pos hs, if_pos hl]
      have e2 : Hid (rFail 10 s = ([], 10)) := by unfold Hid rFail; rw [if_pos ⟨hs, by omega⟩]
      clear hs
      go_enter Tryd.func49, Tryd.ntmps49
      go_wp2_with fail
      with_reducible refine (rFail_any g D s 10 w h).mono ?_
      rintro e w1 ⟨rfl, h1', m1⟩
      go_wp2_with fail
      go_ret
      rw [e2.out] at h1'
      rw [e.out]
      exact ⟨none, 0, rfl, RdB.nil, by simp, by omega, h1', m1⟩
    · have e : Hid (rTake n s = (s.1.take n, (s.1.drop n, 0))) := by unfold Hid rTake; rw [if_pos hs, if_neg hl]
      clear hs
      have hnl : n ≤ s.1.length := by omega
      have hcn : n ≤ c := by omega
      have hd := h2.drop hnl h3
      have ht := h2.take hnl
      have hsl := sub_str_len hnl
      have HSL := Lib.hid hsl
      clear hsl hl
      go_enter Tryd.func49, Tryd.ntmps49
      go_wp2_with fail
      go_ret
      have hX : ∀ b, D b → ¬ (b = g) := fun b hb hx => h5 (hx ▸ hb)
      have m2 : Mod (· = g) w (w.setCell ⟨g, 0, none⟩ (.slice (cutA A n c 1) (s.1.length - n) (c - n))) := (Mod.refl _ _).setG _ _
      have hl : (s.1.take n).length = n := by simp; omega
      rw [e.out]
      refine ⟨A, c, by rw [hl]; rfl, Rd.mod ht m2 hX, by simp only [hl]; omega, h4, ?_, m2⟩
      refine ⟨cutA A n c 1, c - n, ?_, Rd.mod hd m2 hX, by rw [← HSL.out]; omega, by omega, h5⟩
      rw [← HSL.out, ← HS.out]; exact h1.set_ 0 _
  · have e : Hid (rTake n s = ([], s)) := by unfold Hid rTake; rw [if_neg hs]
    have hb1 : (s.2 != 0) = true := by simp [hs]
    clear hs
    go_enter Tryd.func49, Tryd.ntmps49
    go_wp2_with fail
    go_ret
    rw [e.out]
    exact ⟨none, 0, rfl, RdB.nil, by simp, by omega, h, Mod.refl _ _⟩

theorem rNum_any (g : Nat) (D : Nat → Prop) (s : St) (width : Int) (w : World) (h : RdR w g D s) :
    Calls Tryd.prog 30 #[.pointer (some ⟨g, 0, none⟩), .int .i64 width] w
      fun e w' => e = .returned (.int .i64 (rNum width s).1) ∧ RdR w' g D (rNum width s).2 ∧ Mod (· = g) w w' := by
  have hwd := wideI_bd width
  obtain ⟨k, hk⟩ : ∃ k : Nat, wideI width = (k : Int) := ⟨(wideI width).toNat, by omega⟩
  have hk2 : k ≤ 7 := by omega
  have e : Hid (rNum width s = (bigN (rTake k s).1, (rTake k s).2)) := by unfold Hid rNum; rw [hk]; rfl
  have hlen : (rTake k s).1.length ≤ k := by unfold rTake; split <;> (try split) <;> simp <;> omega
  go_enter Tryd.func30, Tryd.ntmps30
  go_wp2_with fail
  with_reducible refine (rwide_any _ _).mono ?_
  rintro e w1 ⟨rfl, rfl⟩
  rw [hk]
  clear hk hwd
  go_wp2_with fail
  with_reducible refine (rtake_any g D s k w h (by unfold big; omega)).mono ?_
  rintro e w1 ⟨A1, c1, rfl, hr, hc1, hc2, r1, m1⟩
  generalize (rTake k s).1 = t at *
  generalize (rTake k s).2 = s' at *
  have hk63 : (256 : Nat) ^ t.length ≤ 72057594037927936 := pow_wide (by omega)
  go_wp2_with fail
  go_loopw [6, 7] (fun n i wr => ∃ j : Nat, j ≤ t.length ∧ i = .int .i64 j ∧ n = .int .i64 (bigNat (t.take j)) ∧ w1 = wr) (fun _ i _ => t.length - (intOf i).toNat)
  case atStart => exact ⟨0, Nat.zero_le _, rfl, rfl, rfl⟩
  case round =>
    obtain ⟨j, hj, rfl, rfl, rfl⟩ := hrel
    by_cases hlt : j < t.length
    · obtain ⟨ad, rfl, _, hcell⟩ := hr.at_ hlt
      have hb := bigNat_lt (t.take j)
      have hp : 256 ^ (t.take j).length * 256 ≤ 72057594037927936 := by
        have : 256 ^ ((t.take j).length + 1) ≤ 256 ^ t.length := Nat.pow_le_pow_right (by omega) (by simp; omega)
        rw [Nat.pow_succ] at this
        omega
      have hb' : bigNat (t.take j) * 256 ≤ 72057594037927936 := Nat.le_of_lt (Nat.lt_of_lt_of_le (Nat.mul_lt_mul_of_pos_right hb (by decide)) hp)
      have hu := t[j].toNat_lt
      clear hb hp
      go_wp2
      go_roundw
      case rel => exact ⟨j + 1, by omega, by go_num, congrArg (Value.int .i64) (congrArg Int.ofNat (bigNat_take t j hlt).symm), trivial⟩
      case measure => simp [intOf]; omega
    · go_wp2
      go_ret
      obtain rfl : j = t.length := by omega
      refine ⟨by rw [e.out]; simp [bigN], by rw [e.out]; exact r1, m1⟩

theorem rNum2_bd (s : St) : 0 ≤ (rNum 2 s).1 ∧ (rNum 2 s).1 ≤ 65535 := by
  have h1 := bigNat_lt (rTake (wideI 2).toNat s).1
  have h2 : (rTake (wideI 2).toNat s).1.length ≤ 2 := by unfold rTake; split <;> (try split) <;> simp [wideI] <;> omega
  have h3 : 256 ^ (rTake (wideI 2).toNat s).1.length ≤ 256 ^ 2 := Nat.pow_le_pow_right (by omega) h2
  unfold rNum bigN
  simp only
  omega
theorem rNum1_bd (s : St) : 0 ≤ (rNum 1 s).1 ∧ (rNum 1 s).1 ≤ 255 := by
  have h1 := bigNat_lt (rTake (wideI 1).toNat s).1
  have h2 : (rTake (wideI 1).toNat s).1.length ≤ 1 := by unfold rTake; split <;> (try split) <;> simp [wideI] <;> omega
  have h3 : 256 ^ (rTake (wideI 1).toNat s).1.length ≤ 256 ^ 1 := Nat.pow_le_pow_right (by omega) h2
  unfold rNum bigN
  simp only
  omega

theorem rBlob_any (g : Nat) (D : Nat → Prop) (s : St) (most : Int) (w : World) (h : RdR w g D s) :
    Calls Tryd.prog 31 #[.pointer (some ⟨g, 0, none⟩), .int .i64 most] w
      fun e w' => ∃ A c, e = .returned (.slice A (rBlob most s).1.length c) ∧ RdB w' D A (rBlob most s).1 ∧ (rBlob most s).1.length ≤ c ∧ c ≤ 9223372036854775807 ∧ RdR w' g D (rBlob most s).2 ∧ Mod (· = g) w w' := by
  have hbd := rNum2_bd s
  obtain ⟨n, hn⟩ : ∃ n : Nat, (rNum 2 s).1 = (n : Int) := ⟨_, (Int.toNat_of_nonneg hbd.1).symm⟩
  have hn63 : n ≤ 65535 := by omega
  clear hbd
  by_cases hm : (rNum 2 s).1 > max most 0
  · have e : Hid (rBlob most s = ([], rFail 11 (rNum 2 s).2)) := by unfold Hid rBlob; simp only; rw [if_pos hm]
    rw [hn] at hm
    go_enter Tryd.func31, Tryd.ntmps31
    go_wp2_with fail
    with_reducible refine (rNum_any g D s 2 w h).mono ?_
    rintro e w1 ⟨rfl, r1, m1⟩
    rw [hn]
    clear hn
    go_wp2_with fail
    with_reducible refine (rFail_any g D _ 11 w1 r1).mono ?_
    rintro e w2 ⟨rfl, r2, m2⟩
    go_wp2_with fail
    go_ret
    rw [e.out]
    exact ⟨none, 0, rfl, RdB.nil, by simp, by omega, r2, m1.trans m2⟩
  · have e : Hid (rBlob most s = rTake n (rNum 2 s).2) := by unfold Hid rBlob; simp only; rw [if_neg hm, hn]; rfl
    rw [hn] at hm
    go_enter Tryd.func31, Tryd.ntmps31
    go_wp2_with fail
    with_reducible refine (rNum_any g D s 2 w h).mono ?_
    rintro e w1 ⟨rfl, r1, m1⟩
    rw [hn]
    clear hn
    go_wp2_with fail
    with_reducible refine (rtake_any g D _ n w1 r1 (by unfold big; omega)).mono ?_
    rintro e w3 ⟨A3, c3, rfl, hr, h1, h2, r3, m3⟩
    go_wp2_with fail
    go_ret
    rw [e.out]
    exact ⟨_, _, rfl, hr, h1, h2, r3, m1.trans m3⟩

theorem quiet_left {P : Program} {f : FuncId} {args : Array Value} {w : World} {n : Nat} {v : Value}
    (h : Calls P f args (w.drewN n) fun e w' => e = .returned v ∧ w.drewN n = w') : Calls P f args (w.drewN n) fun e w'' => e = .returned v ∧ ∃ m, w'' = w.drewN m :=
  h.mono fun _ _ ⟨he, hm⟩ => ⟨he, n, hm.symm⟩

theorem rNum_step (w : Nat) (h1 : 1 ≤ w) (h2 : w ≤ 7) (width : Int) (hw : wideI width = w) (bs : List UInt8) (p : Nat) (hl : p + w ≤ bs.length) : rNum width (bs.drop p, 0) = (bigN ((bs.drop p).take w), (bs.drop (p + w), 0)) := by
  unfold rNum rTake
  rw [hw]
  simp only [if_true, Int.toNat_natCast]
  rw [if_neg (by simp; omega)]
  simp [List.drop_drop]

theorem RdR.imp {w : World} {g : Nat} {D D' : Nat → Prop} {s : St} (h : RdR w g D s) (hd : ∀ b, b < w.heap.size → D b → D' b) (hg : ¬ D' g) : RdR w g D' s := by
  obtain ⟨A, c, h1, h2, h3, h4, h5⟩ := h
  exact ⟨A, c, h1, Rd.imp h2 hd (by omega), h3, h4, hg⟩
theorem RdR.old {w : World} {g : Nat} {D : Nat → Prop} {s : St} (h : RdR w g D s) : RdR w g (fun b => D b ∧ b < w.heap.size) s := by
  obtain ⟨A, c, h1, h2, h3, h4, h5⟩ := h
  exact ⟨A, c, h1, Rd.imp h2 (fun b hb hd => ⟨hd, hb⟩) (by omega), h3, h4, fun hx => h5 hx.1⟩
theorem RdR.not {w : World} {g : Nat} {D : Nat → Prop} {s : St} (h : RdR w g D s) : ¬ D g := h.choose_spec.choose_spec.2.2.2.2
theorem decN_take (k n : Nat) (l : List UInt8) (h : n * k ≤ l.length) : decN k n (l.take (n * k)) = decN k n l := by
  unfold decN
  apply List.map_congr_left
  intro i hi
  have hi' : i < n := by simpa using hi
  have hik : (i + 1) * k ≤ n * k := Nat.mul_le_mul_right k hi'
  rw [Nat.succ_mul] at hik
  congr 1
  rw [List.drop_take, List.take_take, Nat.min_eq_left (by omega)]

end Go.Proofs.YthpmmnpjdpgamaaDoor
