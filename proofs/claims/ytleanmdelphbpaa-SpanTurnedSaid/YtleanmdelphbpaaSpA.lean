/- The document's Clean and Many; the code's ends of a row. -/
import Derived.Test.YtleanmdelphbpaaSp9
namespace Go.Proofs.Ytleanmdelphbpaa
open Go.RowKit
set_option linter.unusedVariables false

theorem RdSp.none (w : World) : RdSp w (fun _ => False) none [] := fun hn => absurd hn (by simp)

set_option maxRecDepth 100000 in
theorem rClean_any (D : Nat → Prop) (A : Option Addr) (c : Nat) (l : List Sp) (w : World) (h : RdSp w D A l) (hl : l.length ≤ 100) :
    Calls Try.prog 13 #[.slice A l.length c] w fun e w' => ∃ v L, e = .returned v ∧ OwnSp w' w.heap.size v L ∧ IsR (hasS l) L ∧ Below w.heap.size w w' := by
  have hc := rOf_any D _ A none c 0 l [] 1 w h (RdSp.none w) hl (by decide)
  have HF : Hid (∀ n, docW (docB 1) l [] n = hasS l n) := fun n => by unfold docW docB; rw [has_nil, if_neg (by decide), if_neg (by decide), Bool.or_false]
  go_enter Try.func13, Try.ntmps13
  go_wp2_with fail
  refine hc.mono ?_
  clear hc
  rintro e w1 ⟨v, L, rfl, h1, h2, h3⟩
  have HR : Hid (IsR (hasS l) L) := ⟨h2.clean, fun n => by rw [h2.is, HF.out]⟩
  clear h2
  go_wp2_with fail
  go_ret
  exact ⟨v, L, rfl, h1, HR.out, h3⟩

theorem sum_take' (L : List Sp) (j : Nat) (h : j < L.length) : sumS (L.take (j + 1)) = sumS (L.take j) + (L[j].2 - L[j].1) := by
  rw [List.take_succ_eq_append_getElem h]
  unfold sumS
  rw [List.foldl_append]
  rfl
theorem sum_bd : ∀ {L : List Sp}, CleanR L → ∀ j, 0 ≤ sumS (L.take j) ∧ sumS (L.take j) ≤ 1099511627776 := by
  intro L h j
  have h1 : CleanR (L.take j) := by
    rw [← List.take_append_drop j L] at h
    generalize L.take j = a at *
    generalize L.drop j = b at *
    induction a with
    | nil => trivial
    | cons s a ih => exact ⟨h.1, fun t ht => h.2.1 t (List.mem_append_left _ ht), ih h.2.2⟩
  rw [sum_is h1]
  have key : ∀ (f : Int → Bool) (N : Nat), 0 ≤ cntN f N ∧ cntN f N ≤ N := fun f N => by
    induction N with
    | zero => exact ⟨Int.le_refl _, Int.le_refl _⟩
    | succ N ih => unfold cntN; split <;> omega
  have := key (hasS (L.take j)) farS.toNat
  have e : ((farS.toNat : Nat) : Int) = 1099511627776 := by unfold farS; rfl
  omega

set_option maxHeartbeats 1000000 in
set_option maxRecDepth 100000 in
theorem rMany_any (D : Nat → Prop) (A : Option Addr) (c : Nat) (l : List Sp) (w : World) (h : RdSp w D A l) (hl : l.length ≤ 100) :
    Calls Try.prog 15 #[.slice A l.length c] w fun e w' => ∃ L, IsR (hasS l) L ∧ e = .returned (.int .i64 (sumS L)) ∧ Below w.heap.size w w' := by
  have hc := rClean_any D A c l w h hl
  go_enter Try.func15, Try.ntmps15
  go_wp2_with fail
  refine hc.mono ?_
  clear hc
  rintro e w1 ⟨v, L, rfl, h1, h2, h3⟩
  obtain ⟨A9, c9, rfl, l9, m9⟩ := OwnC.form h1
  have hrd := OwnSp.rd h1
  have HB := Lib.hid (sum_bd h2.clean)
  have HR := Lib.hid h2
  clear h1 h2
  unfold maxLen at m9
  go_wp2_with fail
  go_loopw [3, 5] (fun n i wr => ∃ j : Nat, j ≤ L.length ∧ i = .int .i64 (j : Int) ∧ n = .int .i64 (sumS (L.take j)) ∧ Below w1.heap.size w1 wr) (fun _ i _ => L.length - (intOf i).toNat)
  case atStart => exact ⟨0, Nat.zero_le _, rfl, rfl, Below.refl _ _⟩
  case round =>
    obtain ⟨j, hj, rfl, rfl, bb⟩ := hrel
    by_cases hlt : j < L.length
    · have hb1 := HB.out j
      have hb2 := HB.out (j + 1)
      rw [sum_take' L j hlt] at hb2
      have HS := Lib.hid (sum_take' L j hlt)
      obtain ⟨ad, rfl, d0, d1⟩ := (hrd.below bb).at_ hlt
      have hc := (HR.out.clean |> fun hc => clean_mem hc _ (List.getElem_mem hlt))
      generalize sumS (L.take j) = S at *
      generalize hx : L[j] = x at *
      clear hx
      have hc : 0 ≤ x.1 ∧ x.1 < x.2 ∧ x.2 ≤ 1099511627776 := hc
      obtain ⟨c1, c2, c3⟩ := hc
      have jD : IntKind.i64.wrap (x.2 - x.1) = x.2 - x.1 := by rw [IntKind.wrap_i64]; omega
      have jW : IntKind.i64.wrap (S + (x.2 - x.1)) = S + (x.2 - x.1) := by rw [IntKind.wrap_i64]; omega
      go_wp2_with fail
      go_quiet (fail)
      clear jD jW
      go_wp2_with fail
      go_roundw
      case rel => exact ⟨j + 1, by omega, by go_num, by rw [HS.out], bb.thenB' (below_drewN (Below.refl _ _) _)⟩
      case measure => simp [intOf] <;> omega
    · obtain rfl : j = L.length := by omega
      have HT : Hid (sumS (L.take L.length) = sumS L) := by unfold Hid; rw [List.take_of_length_le (Nat.le_refl _)]
      go_wp2_with fail
      go_ret
      exact ⟨L, HR.out, by rw [HT.out] <;> rfl, h3.thenB' bb⟩
end Go.Proofs.Ytleanmdelphbpaa
