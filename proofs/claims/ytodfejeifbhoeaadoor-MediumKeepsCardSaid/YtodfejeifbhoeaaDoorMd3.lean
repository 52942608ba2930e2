/- A medium: Boot. -/
import Derived.Test.YtodfejeifbhoeaaDoorMd2
namespace Go.Proofs.YtodfejeifbhoeaaDoor
open Go.RowKit
set_option linter.unusedVariables false

theorem OwnB.take {w : World} {base n c : Nat} {A : Option Addr} {bs : List UInt8} (h : OwnB w base (.slice A n c) bs) {k : Nat} (hk : k ≤ bs.length) : OwnB w base (.slice A k c) (bs.take k) ∧ ((.slice A k c : Value)).ownBlock = (.slice A n c : Value).ownBlock := by
  have hl : (bs.take k).length = k := by rw [List.length_take]; omega
  refine ⟨?_, by cases A <;> rfl⟩
  obtain ⟨h1, h2⟩ := h
  refine ⟨by rw [List.length_map, Nat.mul_one], ?_⟩
  rcases h2 with ⟨e, h0⟩ | ⟨g, cap, cur, e, hg, hh, hcap, hmax, hsz, ht⟩
  · injection e with e1 e2 e3
    subst e1 e2 e3
    have : k = 0 := by omega
    subst this
    exact .inl ⟨rfl, by simp⟩
  · injection e with e1 e2 e3
    subst e1 e2 e3
    refine .inr ⟨g, c, cur, by rw [hl], hg, hh, by rw [hl]; omega, hmax, hsz, ?_⟩
    rw [hl]
    have := congrArg (List.take (k * 1)) ht
    rw [List.take_take, Nat.min_eq_left (by omega), ← List.map_take, Nat.mul_one] at this
    rw [Nat.mul_one]
    exact this
theorem wholeN_bd : ∀ f b a, a ≤ b.length → ∀ z ∈ wholeN f b a, 0 ≤ z ∧ z ≤ (b.length : Int)
  | 0, _, _, _, z, h => by simp [wholeN] at h
  | f + 1, b, a, ha, z, h => by
    unfold wholeN at h
    split at h
    · rename_i he
      have h2 := (next_ok _ he).2.1
      rw [List.length_drop] at h2
      rcases List.mem_cons.1 h with rfl | h
      · omega
      · exact wholeN_bd f b _ (by omega) z h
    · simp at h
theorem last_bd (b : List UInt8) : lastO (wholeO b) ≤ b.length := by
  unfold lastO
  rcases List.eq_nil_or_concat (wholeO b) with h | ⟨l, z, h⟩
  · rw [h]; simp
  · have := wholeN_bd (b.length + 1) b 0 (Nat.zero_le _) z (by show z ∈ wholeO b; rw [h]; simp)
    rw [h]
    simp
    omega
theorem last_at (l : List Int) (h : 0 < l.length) (hz : ∀ z ∈ l, 0 ≤ z) : l[l.length - 1] = (lastO l : Int) := by
  unfold lastO
  have := hz _ (List.getElem_mem (show l.length - 1 < l.length by omega))
  rw [List.getLastD_eq_getLast?, List.getLast?_eq_getElem?, List.getElem?_eq_getElem (show l.length - 1 < l.length by omega)]
  show _ = ((l[l.length - 1]).toNat : Int)
  omega

set_option maxHeartbeats 2000000 in
set_option maxRecDepth 100000 in
theorem whole_any (base g : Nat) (v : Value) (s : MS) (w : World) (h : Med w base g v s) (hsl : s.b.length ≤ 1000000) (ht : Tab w) :
    Calls Tryd.prog 29 #[.pointer (some ⟨g, 0, none⟩)] w fun e w' => ∃ v', e = .returned v' ∧ OwnB w' base v' (s.b.take (lastO (wholeO s.b))) ∧ (∀ k, v'.ownBlock = some k → v.ownBlock = some k) ∧ Below w.heap.size w w' := by
  obtain ⟨sv, h1, h2, h3, h4, h5⟩ := id h
  obtain ⟨A, n, c, rfl, en, hnc, hcm⟩ := OwnB.form' h2
  have c0 := h1.cell 0
  simp at c0
  have hwh := Whole_any _ A c s.b w h2.rd' hsl (by rw [← en.out]; exact hnc) hcm ht
  rw [← en.out] at hwh
  have hbd := last_bd s.b
  have HLA := Lib.hid (fun h => last_at (wholeO s.b) h (fun z hz => (wholeN_bd (s.b.length + 1) s.b 0 (Nat.zero_le _) z hz).1))
  have hnl : n ≤ 1000000 := by rw [en.out]; exact hsl
  have hbn : lastO (wholeO s.b) ≤ n := by rw [en.out]; exact hbd
  have HWL : Hid ((wholeO s.b).length ≤ 1000001) := by
    have := wholeN_len (s.b.length + 1) s.b 0
    unfold Hid wholeO
    omega
  go_enter Tryd.func29, Tryd.ntmps29
  go_wp2_with fail
  refine hwh.mono ?_
  clear hwh c0
  rintro e w2 ⟨v2, rfl, o2, b2⟩
  obtain ⟨A2, c2, rfl, _, _⟩ := own_form o2
  have h1 := h1.below b2
  have h2 := OwnB.below h2 b2
  have c0 := h1.cell 0
  simp at c0
  by_cases h0 : (wholeO s.b).length = 0
  · have hb0 : (((wholeO s.b).length : Int) == 0) = true := by simp [h0]
    have E : Hid (lastO (wholeO s.b) = 0) := by unfold Hid lastO; rw [List.eq_nil_of_length_eq_zero h0]; rfl
    clear h0
    go_wp2_with fail
    go_ret
    rw [E.out]
    exact ⟨_, rfl, OwnB.nil, fun k hk => by simp [Value.ownBlock] at hk, b2⟩
  · have hb0 : (((wholeO s.b).length : Int) == 0) = false := by simp; exact fun e => h0 (by simp [e])
    obtain ⟨q, hq⟩ : ∃ q, (wholeO s.b).length = q + 1 := ⟨(wholeO s.b).length - 1, by omega⟩
    obtain ⟨ad, rfl, _, hcell⟩ := (OwnI.rd o2).at_ (show q < (wholeO s.b).length by omega)
    have hla := HLA.out (by omega)
    have hx : (wholeO s.b)[q]'(by omega) = (lastO (wholeO s.b) : Int) := by rw [← hla]; congr 1; omega
    rw [hx] at hcell
    have hsub : ((wholeO s.b).length : Int) - 1 = (q : Int) := by omega
    have hq6 : (q : Int) < ((wholeO s.b).length : Int) := by omega
    have hqn : q < (wholeO s.b).length := by omega
    have htk := h2.take (k := lastO (wholeO s.b)) hbd
    have hw1 := HWL.out
    clear hx hla hq h0 HLA
    obtain ⟨t, htt⟩ : ∃ t, t = lastO (wholeO s.b) := ⟨_, rfl⟩
    rw [← htt] at hcell htk hbn hbd
    have HTT := Lib.hid htt
    clear htt
    have htc : t ≤ c := by omega
    have htci : (t : Int) ≤ (c : Int) := by omega
    go_wp2_with fail
    go_quiet (fail)
    go_wp2_with fail
    go_ret
    rw [← HTT.out]
    exact ⟨_, rfl, OwnB.below htk.1 (below_drewN (Below.refl _ _) _), fun k hk => by rw [← htk.2]; exact hk, below_drewN b2 _⟩

set_option maxHeartbeats 2000000 in
set_option maxRecDepth 100000 in
theorem Boot_any (base g : Nat) (v : Value) (s : MS) (w : World) (h : Med w base g v s) (hsl : s.b.length ≤ 1000000) (ht : Tab w) :
    Calls Tryd.prog 14 #[.pointer (some ⟨g, 0, none⟩)] w fun e w' => ∃ v', e = .returned (.tuple #[]) ∧ Med w' base g v' s.boot ∧ Mod (Own2 g v) w w' ∧ Same2 w v v' := by
  go_enter Tryd.func14, Tryd.ntmps14
  go_wp2_with fail
  refine (whole_any base g v s w h hsl ht).mono ?_
  rintro e w2 ⟨v2, rfl, o2, hown, b2⟩
  have h2 := h.below b2
  obtain ⟨sv, h1, _, h3, h4, _⟩ := h2
  have c0 := h1.cell 0
  have c2 := h1.cell 2
  have c3 := h1.cell 3
  have f0 := h1.frozen 0
  have f2 := h1.frozen 2
  have f3 := h1.frozen 3
  simp at c0 c2 c3
  obtain ⟨A2, n2, c2', rfl, e2, _, _⟩ := OwnB.form' o2
  have hne : (Value.slice A2 n2 c2').ownBlock ≠ some g := fun e => h4 (hown _ e)
  have h6 := ((h1.set_ 0 (.slice A2 n2 c2')).set_ 2 (.bool true)).set_ 3 Value.nilFunc
  have m6 := (((Mod.refl (· = g) w2).setG 0 (.slice A2 n2 c2')).setG 2 (.bool true)).setG 3 Value.nilFunc
  have o6 : OwnB _ base _ (s.b.take (lastO (wholeO s.b))) := own_keep o2 m6 (fun k hk e => hne (by rw [hk, e]))
  go_wp2_with fail
  go_end0
  refine ⟨.slice A2 n2 c2', rfl, ⟨Value.nilFunc, h6, o6, h3, hne, .inl ⟨rfl, rfl⟩⟩, (Mod.of_below b2 _).trans (m6.mono fun k _ hk => .inl hk), ?_⟩
  cases A2 with
  | none => exact .inr fun k hk => by simp [Value.ownBlock] at hk
  | some a =>
    have : (Value.slice (some a) n2 c2').ownBlock = some a.block := rfl
    exact .inl (this.trans (hown _ this).symm)
end Go.Proofs.YtodfejeifbhoeaaDoor
