/- The sort of ends: a row of one's own behind slices.SortFunc. -/
import Derived.Test.YtcdodchjgadcoaaSpB
import Derived.Shelf.SlSortCmp.WholeK
namespace Go.Proofs.Ytcdodchjgadcoaa
open Go.RowKit
set_option linter.unusedVariables false

section
variable {α : Type} [Inhabited α] {C : α → List Value} {k : Nat} {T : TypeId} {w : World} {base : Nat} {L : List α}
theorem flC_get (hk : ∀ x, (C x).length = k) (L : List α) (t : Nat) (h : t < L.length * k) : (flC C L)[t]? = some ((C (L.toArray[t / k]!))[t % k]!) := by
  have k0 : 0 < k := by rcases Nat.eq_zero_or_pos k with e | e; · subst e; simp at h
                        · exact e
  have h1 : t / k < L.length := by rwa [Nat.div_lt_iff_lt_mul k0]
  have h2 : t % k < (C L[t / k]).length := by rw [hk]; exact Nat.mod_lt _ k0
  have e := flC_at hk L (t / k) L[t / k] (List.getElem?_eq_getElem h1) (t % k) _ (List.getElem?_eq_getElem h2)
  rw [Nat.mul_comm, Nat.div_add_mod] at e
  rw [e]
  have e1 : L.toArray[t / k]! = L[t / k] := by rw [getElem!_pos L.toArray _ (by simpa using h1)]; simp
  rw [e1, getElem!_pos (C L[t / k]) _ h2]
theorem OwnC.holds (hk : ∀ x, (C x).length = k) {g o : Nat} {x : Option Nat} {n c : Nat} (h : OwnC T k C w base (.slice (some ⟨g, o, none⟩) n c) L) : o = 0 ∧ base ≤ g ∧ g < w.heap.size ∧ Go.Sort.HoldsK C k w g 0 L.toArray := by
  have hl := flC_len hk L
  rcases h.2 with ⟨h0, _⟩ | ⟨g', cap, cur, hv, hg, hh, hnc, hcm, hcs, htake⟩
  · cases h0
  · have hB : Blk w g' T cur := hh
    injection hv with hA hn hc
    injection hA with hA
    injection hA with h1 h2
    subst h1 h2
    refine ⟨rfl, hg, hB.lt, fun j hj => ?_⟩
    rw [Go.Sort.size_flatK] at hj
    have hj' : j < L.length * k := by simpa using hj
    have e := flC_get hk L j hj'
    rw [← htake, List.getElem?_take, if_pos hj'] at e
    rw [Nat.zero_add, Go.Sort.get_flatK _ _ _ _ hj]
    exact ⟨by rw [hB.cell]; simpa using e, hB.frozen _⟩
theorem OwnC.sorted (hk : ∀ x, (C x).length = k) {g n c : Nat} (h : OwnC T k C w base (.slice (some ⟨g, 0, none⟩) n c) L) (d' : Array α) (hd : d'.size = L.length) (m : Nat) (os : Array Obj) :
    OwnC T k C (sortWorldK C k w g 0 m d' os) base (.slice (some ⟨g, 0, none⟩) n c) d'.toList ∧ Below base w (sortWorldK C k w g 0 m d' os) := by
  have hl := flC_len hk d'.toList
  rcases h.2 with ⟨h0, _⟩ | ⟨g', cap, cur, hv, hg, hh, hnc, hcm, hcs, htake⟩
  · cases h0
  · have hB : Blk w g' T cur := hh
    injection hv with hA hn hc
    injection hA with hA
    injection hA with h1 h2
    subst h1
    have hsz : g < w.heap.size := hB.lt
    have hw : ∀ i, i < w.heap.size → (sortWorldK C k w g 0 m d' os).heap[i]? = (w.heap.modify g (Go.Sort.onCells (Go.Sort.putCells id 0 (Go.Sort.flatK C k d'))))[i]? := fun i hi => by
      show ((w.heap.modify g _) ++ os)[i]? = _
      rw [Array.getElem?_append, if_pos (by simpa using hi)]
    have hgg : (sortWorldK C k w g 0 m d' os).heap[g]? = some (.cells (Go.Sort.putCells id 0 (Go.Sort.flatK C k d') cur) T (0, 0)) := by
      rw [hw g hsz, Array.getElem?_modify, if_pos rfl, show w.heap[g]? = some (.cells cur T (0, 0)) from hh]
      rfl
    have hdl : d'.toList.length = L.length := by simpa using hd
    refine ⟨⟨hl, .inr ⟨g, c, _, by rw [hn, hdl], hg, hgg, by rw [hdl, hc]; exact hnc, by rw [hc]; exact hcm, ?_, ?_⟩⟩, rfl, rfl, rfl, ?_, fun i hi => ?_⟩
    · unfold Go.Sort.putCells
      rw [Array.size_mapIdx, hc]; exact hcs
    · apply List.ext_getElem?
      intro t
      rw [List.getElem?_take]
      by_cases ht : t < d'.toList.length * k
      · rw [if_pos ht, flC_get hk _ t ht]
        have htc : t < cur.size := by
          have := Nat.mul_le_mul_right k hnc
          rw [hdl] at ht; omega
        have hF : t < (Go.Sort.flatK C k d').size := by rw [Go.Sort.size_flatK]; simpa using ht
        unfold Go.Sort.putCells
        rw [← Array.getElem?_toList.symm, Array.getElem?_mapIdx, Array.getElem?_eq_getElem htc, Option.map_some, if_pos ⟨Nat.zero_le _, by omega⟩]
        rw [Nat.sub_zero, Go.Sort.get_flatK _ _ _ _ (by rw [Go.Sort.size_flatK] at hF; exact hF)]
        rfl
      · rw [if_neg ht]
        exact (List.getElem?_eq_none (by rw [hl]; omega)).symm
    · show _ ≤ ((w.heap.modify g _) ++ os).size
      simp
    · rw [hw i (by omega), Array.getElem?_modify, if_neg (by omega)]
end
end Go.Proofs.Ytcdodchjgadcoaa
