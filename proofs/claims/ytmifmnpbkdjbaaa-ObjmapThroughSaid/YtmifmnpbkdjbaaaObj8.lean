import Derived.Test.YtmifmnpbkdjbaaaObj7
namespace Go.Proofs.Ytmifmnpbkdjbaaa
open Go.RowKit
set_option linter.unusedVariables false

set_option maxRecDepth 100000 in
theorem Index_any (k : FuncId) (caps : Array Value) (p : Int → Bool) (D : Nat → Prop) (A : Option Addr) (c : Nat) (l : List Int) (w : World) (h : RdI w D A l) (hc : l.length ≤ 9223372036854775807) (hent : ∀ (args : Array Value) (w : World), (callFunc k args).run Try.prog w = .ok (.enter k args) w)
    (hf : ∀ z, Calls Try.prog k (#[.int .i64 z] ++ caps) w fun e W' => e = .returned (.bool (p z)) ∧ w = W') :
    Calls Try.prog 39 #[.slice A l.length c, .func (.func k) #[] caps] w fun e w' => ∃ r : Int, e = .returned (.int .i64 r) ∧ (decide (0 ≤ r) = l.any p) ∧ w = w' := by
  go_enter Try.func39, Try.ntmps39
  go_wp2_with fail
  go_loopw [5, 8] (fun b i wr => ∃ j : Nat, j ≤ l.length ∧ i = .int .i64 (j : Int) ∧ (l.take j).any p = false ∧ w = wr) (fun _ i _ => l.length - (intOf i).toNat)
  case atStart => exact ⟨0, Nat.zero_le _, rfl, rfl, rfl⟩
  case round =>
    obtain ⟨j, hj, rfl, hp, rfl⟩ := hrel
    have HP := Lib.hid hp
    clear hp
    by_cases hlt : j < l.length
    · obtain ⟨ad, rfl, _, hcell⟩ := h.at_ hlt
      have HT : Hid (∀ b, p l[j] = b → (l.take (j + 1)).any p = b) := fun b hb => by
        rw [List.take_succ_eq_append_getElem hlt, List.any_append, HP.out, List.any_cons, List.any_nil, hb]; simp
      have HA : Hid (p l[j] = true → l.any p = true) := fun hb => List.any_eq_true.2 ⟨_, List.getElem_mem hlt, hb⟩
      have hcall := hf l[j]
      generalize l[j] = z at *
      clear hf
      cases hb : p z
      · have HN := Lib.hid (HT.out false hb)
        rw [hb] at hcall
        clear hb HT HA
        go_wp2_with fail
        refine hcall.mono ?_
        rintro e w2 ⟨rfl, rfl⟩
        go_wp2_with fail
        go_roundw
        case rel => exact ⟨j + 1, by omega, by go_num, HN.out, trivial⟩
        case measure => simp [intOf] <;> omega
      · have HN := Lib.hid (HA.out hb)
        rw [hb] at hcall
        clear hb HT HA
        go_wp2_with fail
        refine hcall.mono ?_
        rintro e w2 ⟨rfl, rfl⟩
        go_wp2_with fail
        go_ret
        exact ⟨_, rfl, by rw [HN.out]; simp, rfl⟩
    · obtain rfl : j = l.length := by omega
      have hp := HP.out
      rw [List.take_of_length_le (Nat.le_refl _)] at hp
      have HN := Lib.hid hp
      clear hp hf
      go_wp2_with fail
      go_ret
      exact ⟨_, rfl, by rw [HN.out]; simp, rfl⟩
theorem Contains_any (k : FuncId) (caps : Array Value) (p : Int → Bool) (D : Nat → Prop) (A : Option Addr) (c : Nat) (l : List Int) (w : World) (h : RdI w D A l) (hc : l.length ≤ 9223372036854775807) (hent : ∀ (args : Array Value) (w : World), (callFunc k args).run Try.prog w = .ok (.enter k args) w)
    (hf : ∀ z, Calls Try.prog k (#[.int .i64 z] ++ caps) w fun e W' => e = .returned (.bool (p z)) ∧ w = W') :
    Calls Try.prog 29 #[.slice A l.length c, .func (.func k) #[] caps] w fun e w' => e = .returned (.bool (l.any p)) ∧ w = w' := by
  go_enter Try.func29, Try.ntmps29
  go_wp2_with fail
  refine (Index_any k caps p D A c l w h hc hent hf).mono ?_
  rintro e w2 ⟨r, rfl, hr, rfl⟩
  have HR := Lib.hid hr
  clear hr hf
  go_wp2_with fail
  go_ret
  exact ⟨by rw [← HR.out] <;> rfl, rfl⟩
theorem checkclo_any (z : Int) (w : World) : Calls Try.prog 30 #[.int .i64 z] w fun e w' => e = .returned (.bool (!okO z)) ∧ w = w' := by
  cases hb : okO z
  all_goals
    have hcall := right_any z w
    rw [hb] at hcall
    clear hb
    go_enter Try.func30, Try.ntmps30
    go_wp2_with fail
    with_reducible refine hcall.mono ?_
    rintro e w1 ⟨rfl, rfl⟩
    go_wp2_with fail
    go_ret
    exact ⟨rfl, rfl⟩
theorem any_not (m : List Int) : m.any (fun z => !okO z) = !m.all okO := by
  induction m with
  | nil => rfl
  | cons a l ih => rw [List.any_cons, List.all_cons, ih, Bool.not_and]

set_option maxRecDepth 100000 in
theorem Check_any (D : Nat → Prop) (A : Option Addr) (c : Nat) (m : List Int) (w : World) (h : RdI w D A m) (hc : m.length ≤ 9223372036854775807) :
    Calls Try.prog 11 #[.slice A m.length c] w fun e w' => e = .returned (.bool (mayO m)) ∧ w = w' := by
  by_cases h1 : m.length ≤ 512
  · have hcall := Contains_any 30 #[] (fun z => !okO z) D A c m w h hc (Go.Proofs.enters_of Try.func30 (by kernel_rfl) rfl) (fun z => checkclo_any z w)
    rw [any_not] at hcall
    cases hb : m.all okO
    · have e : Hid (mayO m = false) := by unfold Hid mayO; rw [hb]; simp
      rw [hb] at hcall
      clear hb
      go_enter Try.func11, Try.ntmps11
      go_wp2_with fail
      refine hcall.mono ?_
      rintro e' w1 ⟨rfl, rfl⟩
      go_wp2_with fail
      go_ret
      exact ⟨by rw [e.out] <;> rfl, rfl⟩
    · rw [hb] at hcall
      by_cases h0 : m.length = 0
      · have e : Hid (mayO m = true) := by unfold Hid mayO; rw [hb]; simp [h0]
        clear hb
        rw [h0] at hcall ⊢
        go_enter Try.func11, Try.ntmps11
        go_wp2_with fail
        refine hcall.mono ?_
        rintro e' w1 ⟨rfl, rfl⟩
        go_wp2_with fail
        go_ret
        exact ⟨by rw [e.out] <;> rfl, rfl⟩
      · obtain ⟨k, hk⟩ : ∃ k, m.length = k + 1 := ⟨m.length - 1, by omega⟩
        have hlt : k < m.length := by omega
        obtain ⟨ad, rfl, _, hcell⟩ := h.at_ hlt
        have hg := getD_at m k hlt
        have e : Hid (mayO m = (m[k] != 0)) := by
          unfold Hid mayO
          rw [hb, show m.length - 1 = k by omega, hg]
          rw [show decide (m.length ≤ 512) = true by simp [h1], show decide (m.length = 0) = false by simp [h0]]
          by_cases hz : m[k] = 0 <;> simp [hz]
        clear hb hg
        generalize m[k] = z at *
        have hsub : ((k : Int) + 1 - 1) = (k : Int) := by omega
        rw [hk] at hcall ⊢ h1
        clear h0 hk hlt hc
        by_cases hz : z = 0
        focus
          have hzb : (z != 0) = false := by simp [hz]
        rotate_left
        focus
          have hzb : (z != 0) = true := by simp [hz]
        all_goals
          clear hz
          rw [hzb] at e
          go_enter Try.func11, Try.ntmps11
          go_wp2_with fail
          refine hcall.mono ?_
          rintro e' w1 ⟨rfl, rfl⟩
          go_wp2_with fail
          go_ret
          exact ⟨by rw [e.out] <;> rfl, rfl⟩
  · have e : Hid (mayO m = false) := by unfold Hid mayO; simp [h1]
    go_enter Try.func11, Try.ntmps11
    go_wp2_with fail
    go_ret
    exact ⟨by rw [e.out] <;> rfl, rfl⟩
end Go.Proofs.Ytmifmnpbkdjbaaa
