/- A row of bytes in a block of one's own. -/
import Derived.Test.YtpfbiamgnmbhnaaBlks
namespace Go.Proofs.Ytpfbiamgnmbhnaa
open Go.RowKit
set_option linter.unusedVariables false

/-- The bytes zs at A, at the head of a block that is base or later; more may stand behind them. -/
def RowB (w : World) (base : Nat) (A : Option Addr) (zs : List UInt8) : Prop :=
  zs = [] ∨ ∃ g t cs, A = some ⟨g, 0, none⟩ ∧ base ≤ g ∧ Blk w g t cs ∧ ∀ (j : Nat) z, zs[j]? = some z → cs[j]? = some (cB z)
section
variable {w w' : World} {base : Nat} {A : Option Addr} {zs : List UInt8}
theorem RowB.nil : RowB w base A [] := .inl rfl
theorem RowB.rd (h : RowB w base A zs) : RdB w (fun b => base ≤ b) A zs := by
  refine ⟨by simp, fun hn => ?_⟩
  rcases h with rfl | ⟨g, t, cs, rfl, hb, hB, hc⟩
  · simp at hn
  · refine ⟨_, rfl, hb, fun j u hu => ?_⟩
    rw [List.getElem?_map] at hu
    obtain ⟨z, hz, rfl⟩ := Option.map_eq_some_iff.1 hu
    rw [add_head, hB.cell]
    exact hc j z hz
theorem RowB.below (h : RowB w base A zs) (hb : Below w.heap.size w w') : RowB w' base A zs := by
  rcases h with h | ⟨g, t, cs, e, hb', hB, hc⟩
  · exact .inl h
  · exact .inr ⟨g, t, cs, e, hb', hB.below hb, hc⟩
theorem RowB.belowB (h : RowB w base A zs) (hb : Below w.heap.size w w') {b2 : Nat} (h2 : b2 ≤ base) : RowB w' b2 A zs := by
  rcases h with h | ⟨g, t, cs, e, hb', hB, hc⟩
  · exact .inl h
  · exact .inr ⟨g, t, cs, e, by omega, hB.below hb, hc⟩
theorem RowB.low (h : RowB w base A zs) {b2 : Nat} (h2 : b2 ≤ base) : RowB w b2 A zs := h.belowB (Below.refl _ _) h2
theorem RowB.take (h : RowB w base A zs) (k : Nat) : RowB w base A (zs.take k) := by
  rcases h with h | ⟨g, t, cs, e, hb', hB, hc⟩
  · exact .inl (by rw [h]; simp)
  · refine .inr ⟨g, t, cs, e, hb', hB, fun j z hz => hc j z ?_⟩
    rw [List.getElem?_take] at hz
    split at hz
    · exact hz
    · cases hz
theorem RowB.of_own {n c : Nat} (h : OwnB w base (.slice A n c) zs) : RowB w base A zs := by
  rcases h.2 with ⟨_, hn⟩ | ⟨g, cap, cur, hv, hbg, hg, hnc, hcm, hcs, htake⟩
  · exact .inl (List.eq_nil_of_length_eq_zero hn)
  · injection hv with hA _ _
    refine .inr ⟨g, _, cur, hA, hbg, hg, fun j z hz => ?_⟩
    have hlt := (List.getElem?_eq_some_iff.1 hz).1
    have : (zs.map cB)[j]? = some (cB z) := by rw [List.getElem?_map, hz]; rfl
    rw [← htake, List.getElem?_take, if_pos (by omega)] at this
    rw [← this]
    simp
/-- What a store into the row wants and leaves. -/
theorem RowB.store (h : RowB w base A zs) {k : Nat} (hk : k < zs.length) : ∃ g, A = some ⟨g, 0, none⟩ ∧ base ≤ g ∧ g < w.heap.size ∧ w.cell? ⟨g, k, none⟩ = some (.int .u8 (zs[k].toNat : Int)) ∧ w.frozen? ⟨g, k, none⟩ = false ∧
    ∀ z, RowB (w.setCell ⟨g, k, none⟩ (.int .u8 (z.toNat : Int))) base A (zs.set k z) := by
  rcases h with h | ⟨g, t, cs, e, hb', hB, hc⟩
  · subst h; simp at hk
  · have h1 := hc k _ (List.getElem?_eq_getElem hk)
    have hlt : k < cs.size := (Array.getElem?_eq_some_iff.1 h1).1
    refine ⟨g, e, hb', hB.lt, by rw [hB.cell]; exact h1, hB.frozen k, fun z => .inr ⟨g, t, _, e, hb', hB.set_ k _, fun j y hy => ?_⟩⟩
    rw [Array.getElem?_setIfInBounds]
    rw [List.getElem?_set] at hy
    split at hy
    · rename_i hkj
      subst hkj
      injection hy with hy
      subst hy
      rw [if_pos rfl, if_pos hlt]
      rfl
    · rename_i hkj
      rw [if_neg hkj]
      exact hc j y hy
end
end Go.Proofs.Ytpfbiamgnmbhnaa
