/- Whole: where frames end. -/
import Derived.Test.YthpmmnpjdpgamaaDoorRef2
import Derived.Test.YthpmmnpjdpgamaaDoorFr10
import Derived.Shelf.Abstract
namespace Go.Proofs.YthpmmnpjdpgamaaDoor
open Go.RowKit
set_option linter.unusedVariables false

section
variable {w w' : World} {X : Nat → Prop} {base : Nat} {v : Value}
end

theorem next_ok (x : List UInt8) (h : (nextO x).e = 0) : 12 ≤ (nextO x).fin ∧ (nextO x).fin ≤ x.length ∧ (nextO x).fin = 12 + (nextO x).body.length ∧ (nextO x).rest = x.drop (nextO x).fin := by
  unfold nextO at h ⊢
  split at h
  · cases h
  · split at h
    · cases h
    · split at h
      · cases h
      · split at h
        · cases h
        · split at h
          · cases h
          · split at h
            · cases h
            · rename_i h1 h2 h3 h4 h5 h6
              rw [if_neg h1, if_neg h2, if_neg h3, if_neg h4, if_neg h5, if_neg h6]
              refine ⟨by show 12 ≤ 12 + _; omega, by show 12 + _ ≤ _; omega, ?_, rfl⟩
              show 12 + _ = 12 + _
              rw [bodyF_len _ _ (by omega)]
theorem next_bad (x : List UInt8) (h : (nextO x).e ≠ 0) : ∃ e, nextO x = .bad e := by
  unfold nextO at h ⊢
  repeat' split
  all_goals first | exact ⟨_, rfl⟩ | skip
  rename_i h1 h2 h3 h4 h5 h6
  rw [if_neg h1, if_neg h2, if_neg h3, if_neg h4, if_neg h5, if_neg h6] at h
  exact absurd rfl h
theorem next_body (x : List UInt8) : (nextO x).body.length ≤ x.length := by
  by_cases h : (nextO x).e = 0
  · have := next_ok x h; omega
  · obtain ⟨e, h⟩ := next_bad x h
    rw [h]; exact Nat.zero_le _
/-- The ends of frames, from a place on. -/
def wholeN : Nat → List UInt8 → Nat → List Int
  | 0, _, _ => []
  | f + 1, b, at_ => if (nextO (b.drop at_)).e = 0 then ((at_ + (nextO (b.drop at_)).fin : Nat) : Int) :: wholeN f b (at_ + (nextO (b.drop at_)).fin) else []
def wholeO (b : List UInt8) : List Int := wholeN (b.length + 1) b 0
theorem wholeN_len : ∀ f b a, (wholeN f b a).length ≤ f
  | 0, _, _ => Nat.le_refl _
  | f + 1, b, a => by
    unfold wholeN
    split
    · exact Nat.succ_le_succ (wholeN_len f b _)
    · exact Nat.zero_le _
theorem wholeN_more (f : Nat) (b : List UInt8) (a : Nat) (h : (nextO (b.drop a)).e = 0) (pre : List Int) : pre ++ wholeN (f + 1) b a = (pre ++ [((a + (nextO (b.drop a)).fin : Nat) : Int)]) ++ wholeN f b (a + (nextO (b.drop a)).fin) := by
  rw [wholeN, if_pos h, List.append_assoc]; rfl
theorem wholeN_done (f : Nat) (b : List UInt8) (a : Nat) (h : (nextO (b.drop a)).e ≠ 0) (pre : List Int) : pre ++ wholeN (f + 1) b a = pre := by
  rw [wholeN, if_neg h, List.append_nil]

def lenV : Value → Nat
  | .slice _ n _ => n
  | _ => 0
end Go.Proofs.YthpmmnpjdpgamaaDoor
