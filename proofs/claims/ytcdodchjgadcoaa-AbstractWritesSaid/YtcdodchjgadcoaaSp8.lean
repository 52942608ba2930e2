/- A store into the end of a span of one's own row; a row that grows at its end, in memory. -/
import Derived.Test.YtcdodchjgadcoaaSp7
namespace Go.Proofs.Ytcdodchjgadcoaa
open Go.RowKit
set_option linter.unusedVariables false

theorem spF_set : ∀ (L : List Sp) (k : Nat) (hk : k < L.length) (z : Int), flC spC (L.set k (L[k].1, z)) = (flC spC L).set (k * 2 + 1) (.int .i64 z)
  | x :: L, 0, _, z => by
    unfold flC
    simp [List.flatMap_cons, spC]
  | x :: L, k + 1, hk, z => by
    have := spF_set L k (by simpa using hk) z
    unfold flC at this ⊢
    rw [List.set_cons_succ, List.flatMap_cons, List.flatMap_cons]
    simp only [List.getElem_cons_succ]
    rw [this, List.set_append, if_neg (by simp [spC]; omega)]
    congr 2
    simp [spC]; omega
theorem OwnSp.store {w : World} {base n c : Nat} {A : Option Addr} {L : List Sp} (h : OwnSp w base (.slice A n c) L) {k : Nat} (hk : k < L.length) : ∃ ad, A = some ad ∧ base ≤ ad.block ∧ (Value.slice A n c).ownBlock = some ad.block ∧
    w.cell? ⟨(ad.add (k * 2)).block, (ad.add (k * 2)).off + 1, none⟩ = some (.int .i64 L[k].2) ∧ w.frozen? ⟨(ad.add (k * 2)).block, (ad.add (k * 2)).off + 1, none⟩ = false ∧ (ad.add (k * 2)).block = ad.block ∧
    ∀ z, OwnSp (w.setCell ⟨(ad.add (k * 2)).block, (ad.add (k * 2)).off + 1, none⟩ (.int .i64 z)) base (.slice A n c) (L.set k (L[k].1, z)) := by
  have hl := flC_len spC_len L
  rcases h.2 with ⟨_, h0⟩ | ⟨g, cap, cur, hv, hg, hh, hnc, hcm, hcs, htake⟩
  · omega
  · have hB : Blk w g 53 cur := hh
    have h2 := flC_at spC_len L k L[k] (List.getElem?_eq_getElem hk) 1 _ rfl
    rw [← htake, List.getElem?_take, if_pos (by omega)] at h2
    have e : (⟨((⟨g, 0, none⟩ : Addr).add (k * 2)).block, ((⟨g, 0, none⟩ : Addr).add (k * 2)).off + 1, none⟩ : Addr) = ⟨g, k * 2 + 1, none⟩ := by rw [add_head]
    injection hv with hA hn hc
    subst hA hn hc
    refine ⟨⟨g, 0, none⟩, rfl, hg, rfl, ?_, ?_, by rw [add_head], fun z => ?_⟩
    · rw [e, hB.cell, ← h2]; simp
    · rw [e]; exact hB.frozen _
    · rw [e]
      refine ⟨by rw [flC_len spC_len], .inr ⟨g, c, cur.setIfInBounds (k * 2 + 1) (.int .i64 z), by rw [List.length_set], hg, hB.set_ _ _, by rw [List.length_set]; exact hnc, hcm, by rw [Array.size_setIfInBounds]; exact hcs, ?_⟩⟩
      rw [spF_set L k hk, ← htake, List.length_set, Array.toList_setIfInBounds, List.take_set]
theorem addS_set (L : List Sp) (p q : Int) (k : Nat) (hk : k + 1 = L.length) (he : (L[k]'(by omega)).2 = p) : addS L (p, q) = L.set k ((L[k]'(by omega)).1, q) := by
  rcases split_last L with rfl | ⟨l, x, rfl⟩
  · exact absurd hk (by simp)
  · rw [List.length_append, List.length_singleton] at hk
    obtain rfl : k = l.length := by omega
    have e : (l ++ [x])[l.length]'(by simp) = x := by simp
    rw [e] at he ⊢
    rw [addS_snoc, if_pos he]
    simp
theorem addS_new (L : List Sp) (p q : Int) (h : ∀ (k : Nat) (hk : k + 1 = L.length), (L[k]'(by omega)).2 ≠ p) : addS L (p, q) = L ++ [(p, q)] := by
  rcases split_last L with rfl | ⟨l, x, rfl⟩
  · rfl
  · have h1 := h l.length (by simp)
    have e : (l ++ [x])[l.length]'(by simp) = x := by simp
    rw [e] at h1
    rw [addS_snoc, if_neg h1]
theorem addS_len (L : List Sp) (s : Sp) : (addS L s).length ≤ L.length + 1 := by
  rcases split_last L with rfl | ⟨l, x, rfl⟩
  · exact Nat.le_refl _
  · rw [addS_snoc]
    split <;> simp
theorem mod_fld (w : World) (ad : Addr) (k j : Nat) (u : Value) : Mod (· = ad.block) w (w.setCell ⟨(ad.add k).block, (ad.add k).off + j, none⟩ u) :=
  (Mod.refl (· = ad.block) w).setCell (p := ⟨(ad.add k).block, (ad.add k).off + j, none⟩) (.inl (block_of_add ad k)) u
theorem rd_newSp (w : World) (s : Sp) : Rd (w.alloc (.cells (spC s).toArray 53)) (· = w.heap.size) 2 (some ⟨w.heap.size, 0, none⟩) 1 (flC spC [s]) := by
  rw [flC_single]
  refine ⟨rfl, fun _ => ⟨_, rfl, rfl, fun j u hu => ?_⟩⟩
  rw [add_head, (Blk.new w 53 (spC s).toArray).cell]
  simpa using hu
def RT (_ _ : World) : Prop := True
theorem RT_refl (w : World) : RT w w := trivial
theorem RT_trans (a b c : World) (_ : RT a b) (_ : RT b c) : RT a c := trivial
theorem exec_appSp {ρ : Operand → Value} {o : Oper} {s x : Operand} {w w' : World} {v u v' : Value} (ho : o.op = .call { callee := .builtin .append, args := #[s, x], argTypes := #[31, 31] }) (hs : ρ s = v) (hx : ρ x = u)
    (hrun : (Builtin.append_ #[31, 31] o.type #[v, u]).run Try.prog w = .ok v' w') : (execOp ρ o).run Try.prog w = .ok (.value v') w' := by
  unfold execOp
  simp only [ho, resolve, invoke, builtin, Sem.run_bind, Sem.run_pure, Result.andThen_ok, List.map_toArray, List.map_cons, List.map_nil, hs, hx, hrun]
/-- One span more behind a row of one's own. -/
theorem run_appSp (w : World) (base : Nat) (ty : TypeId) (v : Value) (L : List Sp) (h : OwnSp w base v L) (s : Sp) (hlen : L.length ≤ 1000000) (hbase : base ≤ w.heap.size) :
    ∃ v' w', (Builtin.append_ #[31, 31] ty #[v, .slice (some ⟨w.heap.size, 0, none⟩) 1 1]).run Try.prog (w.alloc (.cells #[.int .i64 s.1, .int .i64 s.2] 53)) = .ok v' w' ∧ OwnSp w' base v' (L ++ [s]) ∧ Below base w w' ∧ Below base (w.alloc (.cells #[.int .i64 s.1, .int .i64 s.2] 53)) w' := by
  have bn := below_new w (.cells #[.int .i64 s.1, .int .i64 s.2] 53)
  have hb := h.below bn
  obtain ⟨v', w', h1, h2, h3, _⟩ := run_app (w.alloc (.cells #[.int .i64 s.1, .int .i64 s.2] 53)) base 31 ty 53 _ 2 16 Try.underlying31 infoSp rfl (by decide) v _ _ hb _ _ 1 1 _ (rd_newSp w s) (flC_one spC_one [s]) (by unfold maxLen; omega) (by omega) (Nat.le_trans hbase bn.size)
  refine ⟨v', w', h1, ?_, ?_, below_app (Below.refl _ _) hb h3 (Nat.le_refl _) (Nat.le_trans hbase bn.size)⟩
  · unfold OwnSp OwnC
    rw [List.length_append, flC_app]
    exact h2
  · exact below_app ((Below.refl base w).trans ⟨bn.os, bn.tape, bn.output, bn.size, fun k hk => bn.block k (by omega)⟩) hb h3 (Nat.le_refl _) (Nat.le_trans hbase bn.size)
theorem putL_step (l : List Int) (a : List Sp) (j : Nat) (h : j < a.length) : putL l (a.take (j + 1)) = putP (putP (putL l (a.take j)) a[j].1) a[j].2 := by
  unfold putL
  rw [List.take_succ_eq_append_getElem h, List.foldl_append]
  rfl
end Go.Proofs.Ytcdodchjgadcoaa
