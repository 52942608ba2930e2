import Derived.Test.YtmifmnpbkdjbaaaObj8
import Derived.Test.YtmifmnpbkdjbaaaElems
namespace Go.Proofs.Ytmifmnpbkdjbaaa
open Go.RowKit
set_option linter.unusedVariables false

/-- A row of rows. -/
structure RV where
  A : Option Addr
  l : List Int
  c : Nat
def rowC (s : RV) : List Value := [.slice s.A s.l.length s.c]
theorem RdL.row {w : World} {D : Nat → Prop} {A : Option Addr} {L : List RV} (h : RdL w D 1 rowC A L) {i : Nat} (hi : i < L.length) :
    ∃ ad, A = some ad ∧ w.cell? (ad.add i) = some (.slice L[i].A L[i].l.length L[i].c) := by
  obtain ⟨ad, e, _, hc⟩ := h (by omega)
  have := hc i _ (List.getElem?_eq_getElem hi) 0 _ rfl
  rw [Nat.mul_one] at this
  exact ⟨ad, e, this⟩
theorem RdL.imp {α : Type} {w : World} {D D' : Nat → Prop} {k : Nat} {cells : α → List Value} {A : Option Addr} {L : List α} (h : RdL w D k cells A L) (hk : ∀ s, 0 < (cells s).length) (hd : ∀ b, b < w.heap.size → D b → D' b) : RdL w D' k cells A L := fun hn => by
  obtain ⟨ad, e, hb, hc⟩ := h hn
  have h1 := hc 0 L[0] (List.getElem?_eq_getElem hn) 0 _ (List.getElem?_eq_getElem (hk _))
  have := World.block_lt_of_cell? w _ h1
  rw [block_of_add] at this
  exact ⟨ad, e, hd _ this hb, hc⟩
def dd (z y : Int) : Bool := decide (z = 1) || (decide (z ≠ 0) != decide (y ≠ 0))
theorem diffO_eq (first : List Int) (L : List RV) (i : Nat) : diffO first (L.map (·.l)) i = L.any fun s => dd (gN s.l i) (gN first i) := by
  unfold diffO
  rw [List.any_map]
  rfl
def chg (p : Nat → Bool) (k : Nat) : List Int := ((List.range k).filter p).map fun i : Nat => (i : Int)
theorem chg_yes (p : Nat → Bool) (k : Nat) (h : p k = true) : chg p (k + 1) = chg p k ++ [(k : Int)] := by
  unfold chg; rw [List.range_succ, List.filter_append, List.map_append, List.filter_cons_of_pos h]; rfl
theorem chg_no (p : Nat → Bool) (k : Nat) (h : p k = false) : chg p (k + 1) = chg p k := by
  unfold chg; rw [List.range_succ, List.filter_append, List.map_append, List.filter_cons_of_neg (by rw [h]; decide)]; simp
theorem chg_len (p : Nat → Bool) (k : Nat) : (chg p k).length ≤ k := by
  unfold chg; rw [List.length_map]; exact Nat.le_trans (List.length_filter_le _ _) (by simp)
theorem any_take {α : Type} (p : α → Bool) (L : List α) (j : Nat) (h : j < L.length) : (L.take (j + 1)).any p = ((L.take j).any p || p L[j]) := by
  rw [List.take_succ_eq_append_getElem h, List.any_append]; simp

set_option maxRecDepth 100000 in
theorem may_ref (D : Nat → Prop) (A : Option Addr) (c : Nat) (m : List Int) (w : World) (h : RdI w D A m) (hc : m.length ≤ 9223372036854775807) :
    Calls Try.prog 12 #[.slice A m.length c] w fun e w' => e = .returned (.bool (mayO m)) ∧ w = w' := by
  go_enter Try.func12, Try.ntmps12
  go_wp2_with fail
  go_loopw [3] (fun i wr => ∃ j : Nat, j ≤ m.length ∧ i = .int .i64 (j : Int) ∧ (m.take j).all okO = true ∧ w = wr) (fun i _ => m.length - (intOf i).toNat)
  case atStart => exact ⟨0, Nat.zero_le _, rfl, rfl, rfl⟩
  case round =>
    obtain ⟨j, hj, rfl, hp, rfl⟩ := hrel
    have HP := Lib.hid hp
    clear hp
    by_cases hlt : j < m.length
    · obtain ⟨ad, rfl, _, hcell⟩ := h.at_ hlt
      have HT : Hid (okO m[j] = true → (m.take (j + 1)).all okO = true) := fun hb => by
        rw [List.take_succ_eq_append_getElem hlt, List.all_append, HP.out, List.all_cons, List.all_nil, hb]; rfl
      have HA : Hid (okO m[j] = false → mayO m = false) := fun hb => by
        have : m.all okO = false := by
          rw [← Bool.not_eq_true]
          intro h
          have := List.all_eq_true.1 h _ (List.getElem_mem hlt)
          rw [hb] at this; cases this
        unfold mayO; rw [this]; simp
      generalize m[j] = z at *
      by_cases z1 : z < 0
      · have HN := Lib.hid (HA.out (by unfold okO; rw [decide_eq_false_iff_not]; omega))
        clear HT HA
        go_wp2_with fail
        go_ret
        exact ⟨by rw [HN.out] <;> rfl, rfl⟩
      · by_cases z2 : 2 < z
        · have HN := Lib.hid (HA.out (by unfold okO; rw [decide_eq_false_iff_not]; omega))
          clear HT HA
          go_wp2_with fail
          go_ret
          exact ⟨by rw [HN.out] <;> rfl, rfl⟩
        · have HN := Lib.hid (HT.out (by unfold okO; rw [decide_eq_true_iff]; omega))
          clear HT HA
          go_wp2_with fail
          go_roundw
          case rel => exact ⟨j + 1, by omega, by go_num, HN.out, trivial⟩
          case measure => simp [intOf] <;> omega
    · obtain rfl : j = m.length := by omega
      have hp := HP.out
      rw [List.take_of_length_le (Nat.le_refl _)] at hp
      clear HP
      by_cases h1 : m.length ≤ 512
      · by_cases h0 : m.length = 0
        · have e : Hid (mayO m = true) := by unfold Hid mayO; rw [hp]; simp [h0]
          clear hp
          have hb0 : ((m.length : Int) == 0) = true := by simp [h0]
          have HL := Lib.hid h0
          clear h0
          go_wp2_with fail
          go_ret
          exact ⟨by rw [e.out] <;> rfl, rfl⟩
        · obtain ⟨k, hk⟩ : ∃ k, m.length = k + 1 := ⟨m.length - 1, by omega⟩
          have hlt : k < m.length := by omega
          obtain ⟨ad, rfl, _, hcell⟩ := h.at_ hlt
          have hg := getD_at m k hlt
          have e : Hid (mayO m = (m[k] != 0)) := by
            unfold Hid mayO
            rw [hp, show m.length - 1 = k by omega, hg]
            rw [show decide (m.length ≤ 512) = true by simp [h1], show decide (m.length = 0) = false by simp [h0]]
            by_cases hz : m[k] = 0 <;> simp [hz]
          clear hp hg
          generalize m[k] = z at *
          have hsub : ((m.length : Int) - 1) = (k : Int) := by omega
          have hb0 : ((m.length : Int) == 0) = false := by rw [beq_eq_false_iff_ne]; omega
          clear h0 hk
          by_cases hz : z = 0
          focus
            have hzb : (z != 0) = false := by simp [hz]
          rotate_left
          focus
            have hzb : (z != 0) = true := by simp [hz]
          all_goals
            clear hz
            rw [hzb] at e
            go_wp2_with fail
            go_ret
            exact ⟨by rw [e.out] <;> rfl, rfl⟩
      · have e : Hid (mayO m = false) := by unfold Hid mayO; simp [h1]
        clear hp
        go_wp2_with fail
        go_ret
        exact ⟨by rw [e.out] <;> rfl, rfl⟩

set_option maxRecDepth 100000 in
theorem in_any (D : Nat → Prop) (A : Option Addr) (c : Nat) (l : List Int) (n : Int) (w : World) (h : RdI w D A l) (hc : l.length ≤ 9223372036854775807) :
    Calls Try.prog 28 #[.slice A l.length c, .int .i64 n] w fun e w' => e = .returned (.bool (l.any (· == n))) ∧ w = w' := by
  go_enter Try.func28, Try.ntmps28
  go_wp2_with fail
  go_loopw [5] (fun i wr => ∃ j : Nat, j ≤ l.length ∧ i = .int .i64 (j : Int) ∧ (l.take j).any (· == n) = false ∧ w = wr) (fun i _ => l.length - (intOf i).toNat)
  case atStart => exact ⟨0, Nat.zero_le _, rfl, rfl, rfl⟩
  case round =>
    obtain ⟨j, hj, rfl, hp, rfl⟩ := hrel
    have HP := Lib.hid hp
    clear hp
    by_cases hlt : j < l.length
    · obtain ⟨ad, rfl, _, hcell⟩ := h.at_ hlt
      have HT : Hid ((l[j] == n) = false → (l.take (j + 1)).any (· == n) = false) := fun hb => by
        rw [any_take _ _ _ hlt, HP.out, hb]; rfl
      have HA : Hid ((l[j] == n) = true → l.any (· == n) = true) := fun hb => List.any_eq_true.2 ⟨_, List.getElem_mem hlt, hb⟩
      generalize l[j] = z at *
      cases hb : (z == n)
      · have HN := Lib.hid (HT.out hb)
        clear HT HA
        go_wp2_with fail
        go_roundw
        case rel => exact ⟨j + 1, by omega, by go_num, HN.out, trivial⟩
        case measure => simp [intOf] <;> omega
      · have HN := Lib.hid (HA.out hb)
        clear HT HA
        go_wp2_with fail
        go_ret
        exact ⟨by rw [HN.out] <;> rfl, rfl⟩
    · obtain rfl : j = l.length := by omega
      have hp := HP.out
      rw [List.take_of_length_le (Nat.le_refl _)] at hp
      have HN := Lib.hid hp
      clear hp
      go_wp2_with fail
      go_ret
      exact ⟨by rw [HN.out] <;> rfl, rfl⟩
end Go.Proofs.Ytmifmnpbkdjbaaa
