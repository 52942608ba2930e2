/- An entry as an argument. -/
import Derived.Test.YthpmmnpjdpgamaaDoorEn1
import Derived.Test.YthpmmnpjdpgamaaDoorOpen
namespace Go.Proofs.YthpmmnpjdpgamaaDoor
open Go.ChangeShapes Go.WideShapes Go.ChangeAt Go.RowKit
set_option linter.unusedVariables false

theorem trod_at {H : Type} {enc : TypeId × Value → H} {P : Program} {w : World} {base : Nat} {spare : Nat → Bool} {held : Bool} {t : TypeId} {fs : Array Field} {fuel : Nat} {cs : List Value} {x : DataW H × List MemPlace} (ht : P.underlying t = some (.struct fs)) (h : DataW.trod enc P w base spare held fuel t cs = some x) :
    ∃ n, cs.length = P.cellsOf t ∧ ∀ (i : Nat) (f : Field), fs[i]? = some f → ∀ (t : TypeId) (k o : Nat), P.cellsOf t = k → f.type = t → f.offset = o → ∃ y, DataW.trod enc P w base spare held n t ((cs.drop o).take k) = some y := by
  obtain ⟨xs, n, _, _, hl, hx, hat⟩ := DataW.trod_struct ht h
  refine ⟨n, hl, fun i f hf t k o hk ht ho => ?_⟩
  subst hk ht ho
  have hi : i < fs.size := (Array.getElem?_eq_some_iff.1 hf).1
  exact ⟨xs[i]'(by omega), (hat i f hf).trans (List.getElem?_eq_getElem (by omega))⟩
theorem seven {α : Type} {l : List α} {x0 x1 x2 x3 x4 x5 x6 : α} (hl : l.length = 7) (h0 : (l.drop 0).take 1 = [x0]) (h1 : (l.drop 1).take 1 = [x1]) (h2 : (l.drop 2).take 1 = [x2])
    (h3 : (l.drop 3).take 1 = [x3]) (h4 : (l.drop 4).take 1 = [x4]) (h5 : (l.drop 5).take 1 = [x5]) (h6 : (l.drop 6).take 1 = [x6]) : l = [x0, x1, x2, x3, x4, x5, x6] := by
  match l, hl with
  | [a0, a1, a2, a3, a4, a5, a6], _ =>
    simp only [List.drop_zero, List.drop_succ_cons, List.take_succ_cons, List.take_zero, List.cons.injEq, and_true] at h0 h1 h2 h3 h4 h5 h6
    subst h0 h1 h2 h3 h4 h5 h6
    rfl
/-- The numbers of an entry are numbers that an int holds. -/
def EnI (e : E7) : Prop := I64 e.seq ∧ I64 e.owner ∧ I64 e.kind ∧ I64 e.off ∧ I64 e.len ∧ I64 e.snap
theorem openE {H : Type} {enc : TypeId × Value → H} {W : World} {base : Nat} {v : Value} {d : DataW H} {p : List MemPlace}
    (hv : Value.okWide Tryd.prog W .any base 24 v) (h : DataW.Trod enc Tryd.prog W 0 (fun _ => true) true 24 v d p) :
    ∃ (e : E7) (A : Option Addr) (c : Nat), v = enV e A c ∧ RdB W (Old W) A e.data ∧ e.data.length ≤ c ∧ c ≤ 9223372036854775807 ∧ (A = none → c = 0) ∧ EnI e := by
  obtain ⟨cs, rfl, hsz⟩ := okWide_struct Tryd.underlying24 hv
  obtain ⟨fuel, hf⟩ := h
  obtain ⟨n, hlen, hat⟩ := trod_at Tryd.underlying24 hf
  have c1 : Tryd.prog.cellsOf 3 = 1 := by kernel_rfl
  have c2 : Tryd.prog.cellsOf 22 = 1 := by kernel_rfl
  have c7 : Tryd.prog.cellsOf 24 = 7 := by kernel_rfl
  obtain ⟨_, h0⟩ := hat 0 _ rfl 3 1 0 c1 rfl rfl
  obtain ⟨_, h1⟩ := hat 1 _ rfl 3 1 1 c1 rfl rfl
  obtain ⟨_, h2⟩ := hat 2 _ rfl 3 1 2 c1 rfl rfl
  obtain ⟨_, h3⟩ := hat 3 _ rfl 3 1 3 c1 rfl rfl
  obtain ⟨_, h4⟩ := hat 4 _ rfl 3 1 4 c1 rfl rfl
  obtain ⟨_, h5⟩ := hat 5 _ rfl 3 1 5 c1 rfl rfl
  obtain ⟨_, h6⟩ := hat 6 _ rfl 22 1 6 c2 rfl rfl
  obtain ⟨z0, e0, i0⟩ := readN h0
  obtain ⟨z1, e1, i1⟩ := readN h1
  obtain ⟨z2, e2, i2⟩ := readN h2
  obtain ⟨z3, e3, i3⟩ := readN h3
  obtain ⟨z4, e4, i4⟩ := readN h4
  obtain ⟨z5, e5, i5⟩ := readN h5
  obtain ⟨A, b, c, e6, rb, lb, mb, nb⟩ := readB h6
  refine ⟨⟨z0, z1, z2, z3, z4, z5, b⟩, A, c, ?_, rb, lb, mb, nb, i0, i1, i2, i3, i4, i5⟩
  rw [c7] at hlen
  have hl := seven hlen e0 e1 e2 e3 e4 e5 e6
  have hcs : cs.toList = _ := hl
  unfold enV enA
  rw [← hcs]
end Go.Proofs.YthpmmnpjdpgamaaDoor
