/- A script of acts, as an argument. -/
import Derived.Test.YtpfbiamgnmbhnaaNtE
namespace Go.Proofs.Ytpfbiamgnmbhnaa
open Go.ChangeShapes Go.WideShapes Go.ChangeAt Go.RowKit
set_option linter.unusedVariables false

structure AV where
  kind : Int
  fr : Int
  tt : Int
  i : Int
  A : Option Addr
  b : List UInt8
  c : Nat
def actC (s : AV) : List Value := [cI s.kind, cI s.fr, cI s.tt, cI s.i, .slice s.A s.b.length s.c]
def ActI (W : World) (s : AV) : Prop := I64 s.kind ∧ I64 s.fr ∧ I64 s.tt ∧ I64 s.i ∧ RdB W (Old W) s.A s.b ∧ s.b.length ≤ s.c ∧ s.c ≤ 9223372036854775807
theorem openActs {H : Type} {enc : TypeId × Value → H} {W : World} {base : Nat} {v : Value} {d : DataW H} {p : List MemPlace}
    (hv : Value.okWide Try.prog W .any base 22 v) (h : DataW.Trod enc Try.prog W 0 (fun _ => true) true 22 v d p) :
    ∃ A L c, v = .slice A L.length c ∧ RdL W (Old W) 5 actC A L ∧ L.length ≤ c ∧ c ≤ 9223372036854775807 ∧ (A = none → c = 0) ∧ ∀ s ∈ L, ActI W s := by
  obtain ⟨a, l, c, rfl⟩ := okWide_slice Try.underlying22 hv
  obtain ⟨fuel, hf⟩ := h
  obtain ⟨A, L, c', hcs, r⟩ := readL Try.underlying22 Try.underlying29 (by kernel_rfl) (by kernel_rfl) actC (ActI W) (by
    intro b o hj
    obtain ⟨v0, n0, y0, c0, h0⟩ := hj 0 _ rfl
    obtain ⟨v1, n1, y1, c1, h1⟩ := hj 1 _ rfl
    obtain ⟨v2, n2, y2, c2, h2⟩ := hj 2 _ rfl
    obtain ⟨v3, n3, y3, c3, h3⟩ := hj 3 _ rfl
    obtain ⟨v4, n4, y4, c4, h4⟩ := hj 4 _ rfl
    obtain ⟨a0, e0, i0⟩ := readN h0
    obtain ⟨a1, e1, i1⟩ := readN h1
    obtain ⟨a2, e2, i2⟩ := readN h2
    obtain ⟨a3, e3, i3⟩ := readN h3
    obtain ⟨Ab, bs, cb, e4, rb, lb, mb, _⟩ := readB h4
    simp only [List.cons.injEq, and_true] at e0 e1 e2 e3 e4
    subst e0 e1 e2 e3 e4
    refine ⟨⟨a0, a1, a2, a3, Ab, bs, cb⟩, ⟨i0, i1, i2, i3, rb, lb, mb⟩, fun j v hv => ?_⟩
    match j, hv with
    | 0, hv => injection hv with hv; subst hv; exact c0
    | 1, hv => injection hv with hv; subst hv; exact c1
    | 2, hv => injection hv with hv; subst hv; exact c2
    | 3, hv => injection hv with hv; subst hv; exact c3
    | 4, hv => injection hv with hv; subst hv; exact c4
    | j + 5, hv => simp [actC] at hv) hf (by decide) (fun _ => rfl)
  simp [Value.cells] at hcs
  obtain ⟨rfl, rfl, rfl⟩ := hcs
  exact ⟨_, _, _, rfl, r⟩
theorem RdL.act {w : World} {D : Nat → Prop} {A : Option Addr} {L : List AV} (h : RdL w D 5 actC A L) {i : Nat} (hi : i < L.length) :
    ∃ ad, A = some ad ∧ w.cell? (ad.add (i * 5)) = some (.int .i64 L[i].kind) ∧ w.cell? ⟨(ad.add (i * 5)).block, (ad.add (i * 5)).off + 1, none⟩ = some (.int .i64 L[i].fr) ∧ w.cell? ⟨(ad.add (i * 5)).block, (ad.add (i * 5)).off + 2, none⟩ = some (.int .i64 L[i].tt) ∧
      w.cell? ⟨(ad.add (i * 5)).block, (ad.add (i * 5)).off + 3, none⟩ = some (.int .i64 L[i].i) ∧ w.cell? ⟨(ad.add (i * 5)).block, (ad.add (i * 5)).off + 4, none⟩ = some (.slice L[i].A L[i].b.length L[i].c) := by
  obtain ⟨ad, e, _, hc⟩ := h (by omega)
  have hL := List.getElem?_eq_getElem hi
  exact ⟨ad, e, hc i _ hL 0 _ rfl, by rw [← add_at _ _ 0]; exact hc i _ hL 1 _ rfl, by rw [← add_at _ _ 1]; exact hc i _ hL 2 _ rfl, by rw [← add_at _ _ 2]; exact hc i _ hL 3 _ rfl, by rw [← add_at _ _ 3]; exact hc i _ hL 4 _ rfl⟩
end Go.Proofs.Ytpfbiamgnmbhnaa
