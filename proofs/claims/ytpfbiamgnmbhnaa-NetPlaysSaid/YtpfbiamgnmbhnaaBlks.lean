/- A block known whole; a row in a block of one's own, whatever stands behind it. -/
import Derived.Test.YtpfbiamgnmbhnaaLaws
namespace Go.Proofs.Ytpfbiamgnmbhnaa
open Go.RowKit
set_option linter.unusedVariables false

def Blk (w : World) (g : Nat) (t : TypeId) (cs : Array Value) : Prop := w.heap[g]? = some (.cells cs t (0, 0))
section
variable {w w' : World} {g : Nat} {t : TypeId} {cs : Array Value}
theorem Blk.lt (h : Blk w g t cs) : g < w.heap.size := by
  rcases Nat.lt_or_ge g w.heap.size with hlt | hge
  · exact hlt
  · unfold Blk at h; rw [Array.getElem?_eq_none hge] at h; cases h
theorem Blk.cell (h : Blk w g t cs) (i : Nat) : w.cell? ⟨g, i, none⟩ = cs[i]? := cell_of_row w g i cs t (0, 0) h
theorem Blk.frozen (h : Blk w g t cs) (i : Nat) : w.frozen? ⟨g, i, none⟩ = false := by unfold Blk at h; simp [World.frozen?, h]
theorem Blk.new (w : World) (t : TypeId) (cs : Array Value) : Blk (w.alloc (.cells cs t)) w.heap.size t cs := heap_alloc_new w _
theorem Blk.set_ (h : Blk w g t cs) (i : Nat) (u : Value) : Blk (w.setCell ⟨g, i, none⟩ u) g t (cs.setIfInBounds i u) := heap_setCell_same w g i cs t u h
theorem Blk.mod {X : Nat → Prop} (h : Blk w g t cs) (hb : Mod X w w') (hg : ¬ X g) : Blk w' g t cs := (hb.block g h.lt hg).trans h
theorem Blk.grown {row : Option Nat} (h : Blk w g t cs) (hb : w.grownBy w' row) (hg : some g ≠ row) : Blk w' g t cs := (hb.block g h.lt hg).trans h
theorem Blk.grownS {g' n c : Nat} (h : Blk w g t cs) (hb : w.grownBy w' (Value.slice (some ⟨g', 0, none⟩) n c).ownBlock) (hg : g' ≠ g) : Blk w' g t cs :=
  h.grown (row := some g') hb (fun e => hg (by injection e with e; exact e.symm))
theorem Mod.setG {a b : World} {g : Nat} (h : Mod (· = g) a b) (i : Nat) (u : Value) : Mod (· = g) a (b.setCell ⟨g, i, none⟩ u) := h.setCell (p := ⟨g, i, none⟩) (.inl rfl) u
theorem Blk.below (h : Blk w g t cs) (hb : Below w.heap.size w w') : Blk w' g t cs := (hb.block g h.lt).trans h
end

/-- The numbers zs at A, at the head of a block that is base or later; more may stand behind them. -/
def RowI (w : World) (base : Nat) (A : Option Addr) (zs : List Int) : Prop :=
  zs = [] ∨ ∃ g t cs, A = some ⟨g, 0, none⟩ ∧ base ≤ g ∧ Blk w g t cs ∧ ∀ (j : Nat) z, zs[j]? = some z → cs[j]? = some (cI z)
section
variable {w w' : World} {base : Nat} {A : Option Addr} {zs : List Int}
theorem RowI.nil : RowI w base A [] := .inl rfl
theorem RowI.rd (h : RowI w base A zs) : RdI w (fun b => base ≤ b) A zs := by
  refine ⟨by simp, fun hn => ?_⟩
  rcases h with rfl | ⟨g, t, cs, rfl, hb, hB, hc⟩
  · simp at hn
  · refine ⟨_, rfl, hb, fun j u hu => ?_⟩
    rw [List.getElem?_map] at hu
    obtain ⟨z, hz, rfl⟩ := Option.map_eq_some_iff.1 hu
    rw [add_head, hB.cell]
    exact hc j z hz
theorem RowI.below (h : RowI w base A zs) (hb : Below w.heap.size w w') : RowI w' base A zs := by
  rcases h with h | ⟨g, t, cs, e, hb', hB, hc⟩
  · exact .inl h
  · exact .inr ⟨g, t, cs, e, hb', hB.below hb, hc⟩
theorem RowI.belowB (h : RowI w base A zs) (hb : Below w.heap.size w w') {b2 : Nat} (h2 : b2 ≤ base) : RowI w' b2 A zs := by
  rcases h with h | ⟨g, t, cs, e, hb', hB, hc⟩
  · exact .inl h
  · exact .inr ⟨g, t, cs, e, by omega, hB.below hb, hc⟩
theorem RowI.low (h : RowI w base A zs) {b2 : Nat} (h2 : b2 ≤ base) : RowI w b2 A zs := h.belowB (Below.refl _ _) h2
theorem RowI.take (h : RowI w base A zs) (k : Nat) : RowI w base A (zs.take k) := by
  rcases h with h | ⟨g, t, cs, e, hb', hB, hc⟩
  · exact .inl (by rw [h]; simp)
  · refine .inr ⟨g, t, cs, e, hb', hB, fun j z hz => hc j z ?_⟩
    rw [List.getElem?_take] at hz
    split at hz
    · exact hz
    · cases hz
theorem RowI.of_own {n c : Nat} (h : OwnI w base (.slice A n c) zs) : RowI w base A zs := by
  rcases h.2 with ⟨_, hn⟩ | ⟨g, cap, cur, hv, hbg, hg, hnc, hcm, hcs, htake⟩
  · exact .inl (List.eq_nil_of_length_eq_zero hn)
  · injection hv with hA _ _
    refine .inr ⟨g, _, cur, hA, hbg, hg, fun j z hz => ?_⟩
    have hlt := (List.getElem?_eq_some_iff.1 hz).1
    have : (zs.map cI)[j]? = some (cI z) := by rw [List.getElem?_map, hz]; rfl
    rw [← htake, List.getElem?_take, if_pos (by omega)] at this
    rw [← this]
    simp
/-- What a store into the row wants and leaves. -/
theorem RowI.store (h : RowI w base A zs) {k : Nat} (hk : k < zs.length) : ∃ g, A = some ⟨g, 0, none⟩ ∧ base ≤ g ∧ g < w.heap.size ∧ w.cell? ⟨g, k, none⟩ = some (.int .i64 zs[k]) ∧ w.frozen? ⟨g, k, none⟩ = false ∧
    ∀ z, RowI (w.setCell ⟨g, k, none⟩ (.int .i64 z)) base A (zs.set k z) := by
  rcases h with h | ⟨g, t, cs, e, hb', hB, hc⟩
  · subst h; simp at hk
  · have h1 := hc k _ (List.getElem?_eq_getElem hk)
    have hlt : k < cs.size := (Array.getElem?_eq_some_iff.1 h1).1
    refine ⟨g, e, hb', hB.lt, by rw [hB.cell]; exact h1, hB.frozen k, fun z => .inr ⟨g, t, _, e, hb', hB.set_ k _, fun j y hy => ?_⟩⟩
    rw [Array.getElem?_setIfInBounds]
    rw [List.getElem?_set] at hy
    split at hy
    · rename_i hkj
      subst hkj
      injection hy with hy
      subst hy
      rw [if_pos rfl, if_pos hlt]
      rfl
    · rename_i hkj
      rw [if_neg hkj]
      exact hc j y hy
theorem below_store {w w' : World} {B g k : Nat} (h : Below B w w') (hg : B ≤ g) (u : Value) : Below B w (w'.setCell ⟨g, k, none⟩ u) :=
  ⟨h.os, h.tape, h.output, by simpa [World.setCell] using h.size, fun i hi => (Below.heap_setCell w' ⟨g, k, none⟩ u i (by rintro rfl; omega)).trans (h.block i hi)⟩
end

theorem wpList_makeI {w : World} {ops : Array Oper} {rest : List Oper} {o : Oper} {a : Act} {Q : Exit → Act → World → Prop} (hgd : o.guard = none) (l c : Operand) (hop : o.op = Op.makeSlice 39 l c) (base n : Nat) (hl : a.eval l = .int .i64 (n : Int)) (hc : a.eval c = .int .i64 (n : Int)) (hn : n ≤ big) (hb : base ≤ w.heap.size)
    (h : ∀ w', OwnI w' base (.slice (some ⟨w.heap.size, 0, none⟩) n n) (List.replicate n 0) → Below w.heap.size w w' → wpList Try.prog ops Q rest (a.put o.dst (.slice (some ⟨w.heap.size, 0, none⟩) n n)) w') :
    wpList Try.prog ops Q (o :: rest) a w := by
  obtain ⟨i, hi, hz0, hz1, hz2⟩ := info_parts infoI
  refine wpList_make_full w hgd l c _ hop base _ i _ 1 Try.underlying39 hi hz0 hz1 .i64 .i64 n n n hl hc rfl rfl (by rw [hz2]; unfold big at hn; omega) (by unfold big at hn; unfold maxLen; omega) hb fun w' h1 h2 => h w' ?_ ⟨h2.os, h2.tape, h2.output, h2.size, fun k hk => h2.block k hk (by simp)⟩
  unfold OwnI
  simp only [List.length_replicate, List.map_replicate]
  have e : (madeCells (Value.int .i64 0).cells (n * 1)).toList = List.replicate n (cI 0) := by
    rw [Nat.mul_one]; exact toList_madeCells_one _ _
  rw [e] at h1
  exact h1
end Go.Proofs.Ytpfbiamgnmbhnaa
