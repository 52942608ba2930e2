/- Slices of structs of one-cell fields, as lists: how an argument reads, and how it is carried. -/
import Derived.Test.YtpfbiamgnmbhnaaOpen
import Derived.Deep.Slices
import Derived.Deep.Fields
import Derived.ChangeSame
namespace Go.Proofs.Ytpfbiamgnmbhnaa
open Go.ChangeShapes Go.WideShapes Go.Deep Go.RowKit
set_option linter.unusedVariables false

/-- The slice at A holds the elements of L, of k cells each, in a block of D. -/
def RdL {α : Type} (w : World) (D : Nat → Prop) (k : Nat) (cells : α → List Value) (A : Option Addr) (L : List α) : Prop :=
  0 < L.length → ∃ ad, A = some ad ∧ D ad.block ∧ ∀ i s, L[i]? = some s → ∀ j v, (cells s)[j]? = some v → w.cell? (ad.add (i * k + j)) = some v

section
variable {α : Type} {w w' : World} {D D' : Nat → Prop} {k : Nat} {cells : α → List Value} {A : Option Addr} {L : List α}
theorem RdL.keep (h : RdL w D k cells A L) (hk : ∀ b, b < w.heap.size → D b → w'.heap[b]? = w.heap[b]?) : RdL w' D k cells A L := fun hn => by
  obtain ⟨ad, e, hb, hc⟩ := h hn
  refine ⟨ad, e, hb, fun i s hs j v hv => ?_⟩
  have h1 := hc i s hs j v hv
  have hlt := World.block_lt_of_cell? w _ h1
  rw [World.cell?_of_block (w := w) (hk _ hlt (by rw [block_of_add]; exact hb))]
  exact h1
theorem RdL.below (h : RdL w D k cells A L) (hb : Below w.heap.size w w') : RdL w' D k cells A L := h.keep fun b hlt _ => hb.block b hlt
theorem RdL.belowB {B : Nat} (h : RdL w D k cells A L) (hb : Below B w w') (hd : ∀ b, D b → b < B) : RdL w' D k cells A L := h.keep fun b _ hD => hb.block b (hd b hD)
theorem RdL.mod {X : Nat → Prop} (h : RdL w D k cells A L) (hb : Mod X w w') (hd : ∀ b, D b → ¬ X b) : RdL w' D k cells A L := h.keep fun b hlt hD => hb.block b hlt (hd b hD)
end

theorem listOf {α : Type} {Q : Nat → α → Prop} : ∀ n, (∀ i, i < n → ∃ s, Q i s) → ∃ L : List α, L.length = n ∧ ∀ i s, L[i]? = some s → Q i s
  | 0, _ => ⟨[], rfl, by simp⟩
  | n + 1, h => by
    obtain ⟨L, hl, hL⟩ := listOf n fun i hi => h i (by omega)
    obtain ⟨s, hs⟩ := h n (by omega)
    refine ⟨L ++ [s], by simp [hl], fun i u hu => ?_⟩
    rw [List.getElem?_append] at hu
    split at hu
    · exact hL i u hu
    · have hi : i = n := by
        have := (List.getElem?_eq_some_iff.1 hu).1
        simp at this
        omega
      subst hi
      rw [hl, Nat.sub_self] at hu
      simp at hu
      exact hu ▸ hs

section
variable {H : Type} {enc : TypeId × Value → H} {P : Program} {w : World} {base : Nat} {spare : Nat → Bool} {held : Bool}
theorem readL {α : Type} {t e : TypeId} {fs : Array Field} {fuel : Nat} {cs : List Value} {x : DataW H × List MemPlace} (ht : P.underlying t = some (.slice e)) (he : P.underlying e = some (.struct fs))
    (hone : oneCellFields P fs = true) (hC : P.cellsOf e = fs.size) (cells : α → List Value) (Pr : α → Prop)
    (hel : ∀ (b : Addr) (o : Nat), (∀ (j : Nat) f, fs[j]? = some f → ∃ v n y, w.cell? (b.add (o + j)) = some v ∧ DataW.trod enc P w base spare held n f.type [v] = some y) → ∃ s, Pr s ∧ ∀ j v, (cells s)[j]? = some v → w.cell? (b.add (o + j)) = some v)
    (h : DataW.trod enc P w base spare held fuel t cs = some x) (h0 : 0 < fs.size) (hcl : ∀ s, (cells s).length = fs.size) :
    ∃ A L c, cs = [.slice A L.length c] ∧ RdL w (Old w) fs.size cells A L ∧ L.length ≤ c ∧ c ≤ 9223372036854775807 ∧ (A = none → c = 0) ∧ ∀ s ∈ L, Pr s := by
  rcases open_slice ht h with ⟨hcs, _⟩ | ⟨a, len, cap, m, n, D, Pl, hcs, _, hl, hm, hmm, _, hi⟩
  · exact ⟨none, [], 0, hcs, fun h => absurd h (by simp), by simp, by omega, fun _ => rfl, by simp⟩
  · have each : ∀ i, i < len → ∃ s, Pr s ∧ ∀ j v, (cells s)[j]? = some v → w.cell? (a.add (i * fs.size + j)) = some v := fun i hil => by
      have him : i < m := by rw [hmm]; split <;> omega
      obtain ⟨cs', hc, ht'⟩ := hi i him
      rw [hC] at hc
      obtain ⟨ys, n', _, _, hlen, hyl, hf⟩ := DataW.trod_struct he ht'
      obtain ⟨_, hcl, hat⟩ := World.cells?_some hc
      refine hel a (i * fs.size) fun j f hj => ?_
      obtain ⟨ho, hk⟩ := hone_of hone j f hj
      have hjl : j < fs.size := (Array.getElem?_eq_some_iff.1 hj).1
      have h1 := hf j f hj
      rw [ho, hk] at h1
      have hv : cs'[j]? = some (cs'[j]'(by omega)) := List.getElem?_eq_getElem (by omega)
      rw [List.drop_eq_getElem_cons (by omega)] at h1
      have hcell := hat j hjl
      rw [hv, Go.Deep.add_add] at hcell
      exact ⟨_, n', _, hcell, h1.trans (List.getElem?_eq_getElem (by omega))⟩
    obtain ⟨L, hL, hQ⟩ := listOf len each
    refine ⟨some a, L, cap, by rw [hL]; exact hcs, fun hn => ⟨a, rfl, ?_, fun i s hs => (hQ i s hs).2⟩, by omega, by unfold maxLen at hm; omega, by simp, fun s hs => ?_⟩
    · have h1 := (hQ 0 L[0] (List.getElem?_eq_getElem hn)).2 0 _ (List.getElem?_eq_getElem (by rw [hcl]; exact h0))
      have := World.block_lt_of_cell? w _ h1
      rwa [block_of_add] at this
    · obtain ⟨i, hi, rfl⟩ := List.getElem_of_mem hs
      exact (hQ i _ (List.getElem?_eq_getElem hi)).1
end
end Go.Proofs.Ytpfbiamgnmbhnaa
