/- A slice of Words, as a list; what its bytes are; that they are read again. -/
import Derived.Test.YtjgafklomndhlaaSteps
import Derived.Test.YtjgafklomndhlaaLaw5
import Derived.Test.YtjgafklomndhlaaBack2
namespace Go.Proofs.Ytjgafklomndhlaa
open Go.ChangeShapes Go.WideShapes Go.ChangeAt Go.RowKit
set_option linter.unusedVariables false

structure WV where
  width : Int
  n : Int
  A : Option Addr
  x : List UInt8
  c : Nat
  B : Option Addr
  l : List Int
  d : Nat
def wordC (s : WV) : List Value := [cI s.width, cI s.n, .slice s.A s.x.length s.c, .slice s.B s.l.length s.d]
def wordP (W : World) (s : WV) : Prop := I64 s.width ∧ I64 s.n ∧ RdB W (Old W) s.A s.x ∧ s.x.length ≤ s.c ∧ s.c ≤ 9223372036854775807 ∧ RdI W (Old W) s.B s.l ∧ s.l.length ≤ s.d ∧ s.d ≤ 9223372036854775807 ∧ ∀ z ∈ s.l, I64 z

theorem openWordsL {H : Type} {enc : TypeId × Value → H} {W : World} {base : Nat} {v : Value} {d : DataW H} {p : List MemPlace}
    (hv : Value.okWide Try.prog W .any base 53 v) (h : DataW.Trod enc Try.prog W 0 (fun _ => true) true 53 v d p) :
    ∃ A L c, v = .slice A L.length c ∧ RdL W (Old W) 4 wordC A L ∧ L.length ≤ c ∧ c ≤ 9223372036854775807 ∧ (A = none → c = 0) ∧ ∀ s ∈ L, wordP W s := by
  obtain ⟨a, l, c, rfl⟩ := okWide_slice Try.underlying53 hv
  obtain ⟨fuel, hf⟩ := h
  obtain ⟨A, L, c', hcs, r⟩ := readL Try.underlying53 Try.underlying47 (by kernel_rfl) (by kernel_rfl) wordC (wordP W) (by
    intro b o hj
    obtain ⟨v0, n0, y0, c0, h0⟩ := hj 0 _ rfl
    obtain ⟨v1, n1, y1, c1, h1⟩ := hj 1 _ rfl
    obtain ⟨v2, n2, y2, c2, h2⟩ := hj 2 _ rfl
    obtain ⟨v3, n3, y3, c3, h3⟩ := hj 3 _ rfl
    obtain ⟨a0, e0, i0⟩ := readN h0
    obtain ⟨a1, e1, i1⟩ := readN h1
    obtain ⟨Ax, x, cx, e2, rx, lx, mx, _⟩ := readB h2
    obtain ⟨Al, l, cl, e3, rl, ll, ml, _, wl⟩ := readI h3
    simp only [List.cons.injEq, and_true] at e0 e1 e2 e3
    subst e0 e1 e2 e3
    refine ⟨⟨a0, a1, Ax, x, cx, Al, l, cl⟩, ⟨i0, i1, rx, lx, mx, rl, ll, ml, wl⟩, fun j v hv => ?_⟩
    match j, hv with
    | 0, hv => injection hv with hv; subst hv; exact c0
    | 1, hv => injection hv with hv; subst hv; exact c1
    | 2, hv => injection hv with hv; subst hv; exact c2
    | 3, hv => injection hv with hv; subst hv; exact c3
    | j + 4, hv => simp [wordC] at hv) hf (by decide) (fun _ => rfl)
  simp [Value.cells] at hcs
  obtain ⟨rfl, rfl, rfl⟩ := hcs
  exact ⟨_, _, _, rfl, r⟩

theorem RdL.word {w : World} {D : Nat → Prop} {A : Option Addr} {L : List WV} (h : RdL w D 4 wordC A L) {i : Nat} (hi : i < L.length) :
    ∃ ad, A = some ad ∧ w.cell? (ad.add (i * 4)) = some (.int .i64 L[i].width) ∧ w.cell? ⟨(ad.add (i * 4)).block, (ad.add (i * 4)).off + 1, none⟩ = some (.int .i64 L[i].n) ∧
      w.cell? ⟨(ad.add (i * 4)).block, (ad.add (i * 4)).off + 2, none⟩ = some (.slice L[i].A L[i].x.length L[i].c) ∧ w.cell? ⟨(ad.add (i * 4)).block, (ad.add (i * 4)).off + 3, none⟩ = some (.slice L[i].B L[i].l.length L[i].d) := by
  obtain ⟨ad, e, _, hc⟩ := h (by omega)
  have hL := List.getElem?_eq_getElem hi
  exact ⟨ad, e, hc i _ hL 0 _ rfl, by rw [← add_at _ _ 0]; exact hc i _ hL 1 _ rfl, by rw [← add_at _ _ 1]; exact hc i _ hL 2 _ rfl, by rw [← add_at _ _ 2]; exact hc i _ hL 3 _ rfl⟩

def mk16 (n : Int) : Int := bits .and .i64 n 65535
theorem mk16_nat (n : Int) : ∃ j : Nat, mk16 n = (j : Int) ∧ j ≤ 65535 := and_mask n 65535 (by decide)
def encW (s : WV) : List UInt8 := numE s.width (mk16 s.n) ++ blobE s.x ++ numsE s.width s.l
def goodW (s : WV) : Prop := s.x.length ≤ 1000 ∧ s.l.length ≤ 200 ∧ 2 ≤ s.width ∧ s.width ≤ 7 ∧ ∀ z ∈ s.l, 0 ≤ z ∧ z ≤ 65535
theorem encW_len (s : WV) : (encW s).length ≤ 70000 := by
  have h1 := numE_length s.width (mk16 s.n)
  have h2 := blobE_len s.x
  have h3 := numsE_len s.width s.l
  unfold encW
  rw [List.length_append, List.length_append]
  omega
theorem flatW_len (L : List WV) : (L.flatMap encW).length ≤ 70000 * L.length := by
  induction L with
  | nil => simp
  | cons x l ih => have := encW_len x; simp only [List.flatMap_cons, List.length_append, List.length_cons]; omega
theorem flatW_take (L : List WV) (k : Nat) (h : k < L.length) : (L.take (k + 1)).flatMap encW = (L.take k).flatMap encW ++ encW L[k] := by
  rw [List.take_succ_eq_append_getElem h, List.flatMap_append]
  simp
theorem flatW_drop (L : List WV) (k : Nat) (h : k < L.length) : (L.drop k).flatMap encW = encW L[k] ++ (L.drop (k + 1)).flatMap encW := by
  rw [List.drop_eq_getElem_cons h, List.flatMap_cons]
theorem pow2 (width : Int) (h : 2 ≤ width) : 65536 ≤ 256 ^ (wideI width).toNat := by
  have : 256 ^ 2 ≤ 256 ^ (wideI width).toNat := Nat.pow_le_pow_right (by omega) (by unfold wideI; omega)
  omega
/-- The three readings of one of them. -/
theorem readW (s : WV) (h : goodW s) (rest : List UInt8) :
    ∃ s1 s2 : St, rNum s.width (encW s ++ rest, 0) = (mk16 s.n, s1) ∧ rBlob 1000 s1 = (s.x, s2) ∧ rNums s.width 200 s2 = (s.l, (rest, 0)) := by
  obtain ⟨h1, h2, h3, h4, h5⟩ := h
  obtain ⟨j, hj, hj2⟩ := mk16_nat s.n
  have hp := pow2 s.width h3
  refine ⟨(blobE s.x ++ (numsE s.width s.l ++ rest), 0), (numsE s.width s.l ++ rest, 0), ?_, ?_, ?_⟩
  · unfold encW
    rw [hj, List.append_assoc, List.append_assoc, rNum_numE' s.width j _ (by omega)]
  · exact rBlob_yes 1000 s.x _ (by omega) (by omega)
  · exact rNums_yes s.width 200 s.l rest (by omega) (by omega) (fun z hz => by obtain ⟨a, b⟩ := h5 z hz; exact ⟨a, by omega⟩)
end Go.Proofs.Ytjgafklomndhlaa
