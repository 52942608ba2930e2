/- The document's Clean and Many; the code's ends of a row. -/
import Derived.Test.YtcdodchjgadcoaaSp9
namespace Go.Proofs.Ytcdodchjgadcoaa
open Go.RowKit
set_option linter.unusedVariables false

theorem RdSp.none (w : World) : RdSp w (fun _ => False) none [] := fun hn => absurd hn (by simp)

theorem sum_take' (L : List Sp) (j : Nat) (h : j < L.length) : sumS (L.take (j + 1)) = sumS (L.take j) + (L[j].2 - L[j].1) := by
  rw [List.take_succ_eq_append_getElem h]
  unfold sumS
  rw [List.foldl_append]
  rfl
theorem sum_bd : ∀ {L : List Sp}, CleanR L → ∀ j, 0 ≤ sumS (L.take j) ∧ sumS (L.take j) ≤ 1099511627776 := by
  intro L h j
  have h1 : CleanR (L.take j) := by
    rw [← List.take_append_drop j L] at h
    generalize L.take j = a at *
    generalize L.drop j = b at *
    induction a with
    | nil => trivial
    | cons s a ih => exact ⟨h.1, fun t ht => h.2.1 t (List.mem_append_left _ ht), ih h.2.2⟩
  rw [sum_is h1]
  have key : ∀ (f : Int → Bool) (N : Nat), 0 ≤ cntN f N ∧ cntN f N ≤ N := fun f N => by
    induction N with
    | zero => exact ⟨Int.le_refl _, Int.le_refl _⟩
    | succ N ih => unfold cntN; split <;> omega
  have := key (hasS (L.take j)) farS.toNat
  have e : ((farS.toNat : Nat) : Int) = 1099511627776 := by unfold farS; rfl
  omega

end Go.Proofs.Ytcdodchjgadcoaa
