import Derived.Test.YtjgafklomndhlaaElems
import Derived.Test.YtjgafklomndhlaaLaw4
namespace Go.Proofs.Ytjgafklomndhlaa
open Go.ChangeShapes Go.WideShapes Go.ChangeAt Go.RowKit
set_option linter.unusedVariables false

def stepC (s : Int × Int × Int) : List Value := [cI s.1, cI s.2.1, cI s.2.2]
theorem openSteps {H : Type} {enc : TypeId × Value → H} {W : World} {base : Nat} {v : Value} {d : DataW H} {p : List MemPlace}
    (hv : Value.okWide Try.prog W .any base 23 v) (h : DataW.Trod enc Try.prog W 0 (fun _ => true) true 23 v d p) :
    ∃ A L c, v = .slice A L.length c ∧ RdL W (Old W) 3 stepC A L ∧ L.length ≤ c ∧ c ≤ 9223372036854775807 ∧ (A = none → c = 0) ∧ ∀ s ∈ L, I64 s.1 ∧ I64 s.2.1 ∧ I64 s.2.2 := by
  obtain ⟨a, l, c, rfl⟩ := okWide_slice Try.underlying23 hv
  obtain ⟨fuel, hf⟩ := h
  obtain ⟨A, L, c', hcs, r⟩ := readL Try.underlying23 Try.underlying32 (by kernel_rfl) (by kernel_rfl) stepC (fun s => I64 s.1 ∧ I64 s.2.1 ∧ I64 s.2.2) (by
    intro b o hj
    obtain ⟨v0, n0, y0, c0, h0⟩ := hj 0 _ rfl
    obtain ⟨v1, n1, y1, c1, h1⟩ := hj 1 _ rfl
    obtain ⟨v2, n2, y2, c2, h2⟩ := hj 2 _ rfl
    obtain ⟨a0, e0, i0⟩ := readN h0
    obtain ⟨a1, e1, i1⟩ := readN h1
    obtain ⟨a2, e2, i2⟩ := readN h2
    simp only [List.cons.injEq, and_true] at e0 e1 e2
    subst e0 e1 e2
    refine ⟨(a0, a1, a2), ⟨i0, i1, i2⟩, fun j v hv => ?_⟩
    match j, hv with
    | 0, hv => injection hv with hv; subst hv; exact c0
    | 1, hv => injection hv with hv; subst hv; exact c1
    | 2, hv => injection hv with hv; subst hv; exact c2
    | j + 3, hv => simp [stepC] at hv) hf (by decide) (fun _ => rfl)
  simp [Value.cells] at hcs
  obtain ⟨rfl, rfl, rfl⟩ := hcs
  exact ⟨_, _, _, rfl, r⟩

theorem add_at (a : Addr) (n j : Nat) : a.add (n + (j + 1)) = ⟨(a.add n).block, (a.add n).off + (j + 1), none⟩ := by
  rw [← add_of_add]
  generalize a.add n = b
  unfold Addr.add
  rw [if_neg (by omega)]
theorem RdL.step {w : World} {D : Nat → Prop} {A : Option Addr} {L : List (Int × Int × Int)} (h : RdL w D 3 stepC A L) {i : Nat} (hi : i < L.length) :
    ∃ ad, A = some ad ∧ w.cell? (ad.add (i * 3)) = some (cI L[i].1) ∧ w.cell? ⟨(ad.add (i * 3)).block, (ad.add (i * 3)).off + 1, none⟩ = some (cI L[i].2.1) ∧ w.cell? ⟨(ad.add (i * 3)).block, (ad.add (i * 3)).off + 2, none⟩ = some (cI L[i].2.2) := by
  obtain ⟨ad, e, _, hc⟩ := h (by omega)
  have hL := List.getElem?_eq_getElem hi
  exact ⟨ad, e, hc i _ hL 0 _ rfl, by rw [← add_at _ _ 0]; exact hc i _ hL 1 _ rfl, by rw [← add_at _ _ 1]; exact hc i _ hL 2 _ rfl⟩
end Go.Proofs.Ytjgafklomndhlaa
