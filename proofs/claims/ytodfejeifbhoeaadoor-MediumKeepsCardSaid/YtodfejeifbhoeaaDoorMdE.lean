/- A script of acts, as an argument. -/
import Derived.Test.YtodfejeifbhoeaaDoorMdD
namespace Go.Proofs.YtodfejeifbhoeaaDoor
open Go.ChangeShapes Go.WideShapes Go.ChangeAt Go.RowKit
set_option linter.unusedVariables false

structure AV where
  kind : Int
  n : Int
  A : Option Addr
  body : List UInt8
  c : Nat
  bit : UInt8
def actC (s : AV) : List Value := [cI s.kind, cI s.n, .slice s.A s.body.length s.c, cB s.bit]
theorem openActs {H : Type} {enc : TypeId × Value → H} {W : World} {base : Nat} {v : Value} {d : DataW H} {p : List MemPlace}
    (hv : Value.okWide Tryd.prog W .any base 22 v) (h : DataW.Trod enc Tryd.prog W 0 (fun _ => true) true 22 v d p) :
    ∃ A L c, v = .slice A L.length c ∧ RdL W (Old W) 4 actC A L ∧ L.length ≤ c ∧ c ≤ 9223372036854775807 ∧ (A = none → c = 0) ∧ ∀ s ∈ L, I64 s.kind ∧ I64 s.n ∧ RdB W (Old W) s.A s.body ∧ s.body.length ≤ s.c ∧ s.c ≤ 9223372036854775807 := by
  obtain ⟨a, l, c, rfl⟩ := okWide_slice Tryd.underlying22 hv
  obtain ⟨fuel, hf⟩ := h
  obtain ⟨A, L, c', hcs, r⟩ := readL Tryd.underlying22 Tryd.underlying30 (by kernel_rfl) (by kernel_rfl) actC (fun s => I64 s.kind ∧ I64 s.n ∧ RdB W (Old W) s.A s.body ∧ s.body.length ≤ s.c ∧ s.c ≤ 9223372036854775807) (by
    intro b o hj
    obtain ⟨v0, n0, y0, c0, h0⟩ := hj 0 _ rfl
    obtain ⟨v1, n1, y1, c1, h1⟩ := hj 1 _ rfl
    obtain ⟨v2, n2, y2, c2, h2⟩ := hj 2 _ rfl
    obtain ⟨v3, n3, y3, c3, h3⟩ := hj 3 _ rfl
    obtain ⟨a0, e0, i0⟩ := readN h0
    obtain ⟨a1, e1, i1⟩ := readN h1
    obtain ⟨Ab, bs, cb, e2, rb, lb, mb, _⟩ := readB h2
    obtain ⟨k3, e3, _, hw⟩ := DataW.trod_int Tryd.underlying5 h3
    simp only [List.cons.injEq, and_true] at e0 e1 e2 e3
    subst e0 e1 e2 e3
    refine ⟨⟨a0, a1, Ab, bs, cb, byteOf k3⟩, ⟨i0, i1, rb, lb, mb⟩, fun j v hv => ?_⟩
    match j, hv with
    | 0, hv => injection hv with hv; subst hv; exact c0
    | 1, hv => injection hv with hv; subst hv; exact c1
    | 2, hv => injection hv with hv; subst hv; exact c2
    | 3, hv => injection hv with hv; subst hv; rw [byte_of hw] at c3; exact c3
    | j + 4, hv => simp [actC] at hv) hf (by decide) (fun _ => rfl)
  simp [Value.cells] at hcs
  obtain ⟨rfl, rfl, rfl⟩ := hcs
  exact ⟨_, _, _, rfl, r⟩
theorem add_at (a : Addr) (n j : Nat) : a.add (n + (j + 1)) = ⟨(a.add n).block, (a.add n).off + (j + 1), none⟩ := by
  rw [← add_of_add]
  generalize a.add n = b
  unfold Addr.add
  rw [if_neg (by omega)]
theorem RdL.act {w : World} {D : Nat → Prop} {A : Option Addr} {L : List AV} (h : RdL w D 4 actC A L) {i : Nat} (hi : i < L.length) :
    ∃ ad, A = some ad ∧ w.cell? (ad.add (i * 4)) = some (cI L[i].kind) ∧ w.cell? ⟨(ad.add (i * 4)).block, (ad.add (i * 4)).off + 1, none⟩ = some (cI L[i].n) ∧ w.cell? ⟨(ad.add (i * 4)).block, (ad.add (i * 4)).off + 2, none⟩ = some (.slice L[i].A L[i].body.length L[i].c) ∧ w.cell? ⟨(ad.add (i * 4)).block, (ad.add (i * 4)).off + 3, none⟩ = some (cB L[i].bit) := by
  obtain ⟨ad, e, _, hc⟩ := h (by omega)
  have hL := List.getElem?_eq_getElem hi
  exact ⟨ad, e, hc i _ hL 0 _ rfl, by rw [← add_at _ _ 0]; exact hc i _ hL 1 _ rfl, by rw [← add_at _ _ 1]; exact hc i _ hL 2 _ rfl, by rw [← add_at _ _ 2]; exact hc i _ hL 3 _ rfl⟩
end Go.Proofs.YtodfejeifbhoeaaDoor
