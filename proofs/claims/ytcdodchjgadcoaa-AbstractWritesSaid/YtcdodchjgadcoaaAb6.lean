/- A new image: the code and the document; an image of one's own. -/
import Derived.Test.YtcdodchjgadcoaaAb5
namespace Go.Proofs.Ytcdodchjgadcoaa
open Go.RowKit
set_option linter.unusedVariables false

theorem infoD1 : (Try.prog.info? 22).map (·.size) = some 1 := by kernel_rfl
theorem infoC1 : (Try.prog.info? 23).map (·.size) = some 1 := by kernel_rfl
theorem infoN1 : (Try.prog.info? 3).map (·.size) = some 1 := by kernel_rfl
def zI3 : Array Value := #[.slice none 0 0, .slice none 0 0, .int .i64 0]
theorem mod_setRow {w : World} {g : Nat} (cs : Array Value) : Mod (· = g) w (w.setRow g cs) :=
  ⟨rfl, rfl, rfl, by unfold World.setRow; simp, fun k _ hk => setRow_other w g k cs hk⟩
theorem one_size {ty : TypeId} (hi : (Try.prog.info? ty).map (·.size) = some 1) (w : World) (g i : Nat) (T : TypeId) (cs : Array Value) (u : Value) (h1 : u.oneCell' = true) (hB : Blk w g T cs) (hlt : i < cs.size) :
    (storeVar ty ⟨g, i, none⟩ u).run Try.prog w = .ok () (w.setCell ⟨g, i, none⟩ u) := by
  have hc : u.cells = #[u] := by cases u <;> first | rfl | cases h1
  cases hq : Try.prog.info? ty with
  | none => simp [hq] at hi
  | some j =>
    have hs : j.size = 1 := by simpa [hq] using hi
    have h2 : w.cell? ⟨g, i, none⟩ = some cs[i] := by rw [hB.cell]; exact Array.getElem?_eq_getElem hlt
    have hr := run_store Try.prog w ⟨g, i, none⟩ u .plain h1
    rw [h2] at hr
    simp only [hB.frozen i] at hr
    simp [storeVar, sizeOf, typeInfo, hq, hc, hs, storeCells, Addr.add]
    exact hr
theorem wpList_fldB {ops : Array Oper} {rest : List Oper} {o : Oper} {a : Act} {w : World} {Q : Exit → Act → World → Prop} (hgd : o.guard = none) (ty : TypeId) (x y : Operand) (ho : o.op = .store ty x y)
    (g i : Nat) (T : TypeId) (cs : Array Value) (u : Value) (hx : a.eval x = .pointer (some ⟨g, i, none⟩)) (hy : a.eval y = u) (h1 : u.oneCell' = true) (hi : (Try.prog.info? ty).map (·.size) = some 1)
    (hB : Blk w g T cs) (n : Nat) (hn : cs.size = n) (hlt : i < n)
    (h : ∀ w', Blk w' g T (cs.setIfInBounds i u) → Mod (· = g) w w' → wpList Try.prog ops Q rest (a.put o.dst undef) w') : wpList Try.prog ops Q (o :: rest) a w := by
  subst hy hn
  refine wpList_plain hgd fun _ hK => ?_
  unfold Oper.wp execOp
  simp only [ho, hx, Instr.storeAt, Instr.sureAddr, Sem.run_bind, Sem.run_pure, Result.andThen_ok, one_size hi w g i T cs _ h1 hB hlt]
  exact hK _ _ (h _ (hB.set_ i _) ((Mod.refl _ _).setG i _))
theorem wpList_rowB {ops : Array Oper} {rest : List Oper} {o : Oper} {a : Act} {w : World} {Q : Exit → Act → World → Prop} (hgd : o.guard = none) (ty : TypeId) (x y : Operand) (ho : o.op = .store ty x y)
    (g : Nat) (T : TypeId) (old cells : Array Value) (hx : a.eval x = .pointer (some ⟨g, 0, none⟩)) (hy : a.eval y = .agg cells)
    (hB : Blk w g T old) (hi : (Try.prog.info? ty).map (·.size) = some cells.size) (hold : old.size = cells.size) (h1 : cells.all (·.oneCell') = true)
    (h : ∀ w', Blk w' g T cells → Mod (· = g) w w' → wpList Try.prog ops Q rest (a.put o.dst undef) w') : wpList Try.prog ops Q (o :: rest) a w :=
  wpList_store_row hgd ty x y ho g cells hx hy T old hB hi hold h1 (h _ (setRow_heap _ _ _ _ _ _ hB) (mod_setRow cells))
theorem alt_none {P : Program} {ops : Array Oper} {Q : Exit → Act → World → Prop} {R : World → World → Prop} {i fuel : Nat} {o : Oper} {L : Array Bool} {a : Act} {w : World} (L' : Array Bool) (ho : ops[i]? = some o) (hd : o.dst = none) (hl : L.setIfInBounds i true = L') (hw : Region.wanted o (yielded ops a.tmps) = true) {w' : World}
    (hrun : (execOp a.eval o).run P w = .ok .skip w') (h1 : R w w') (h : wpR P ops R Q fuel L' a w') : Alt P ops R Q fuel L a w i := by
  subst hl
  unfold Alt wpOp
  simp only [ho, hw, if_true]
  refine .inl ?_
  unfold Oper.wp
  rw [hrun]
  exact ⟨h1, by rw [hd]; exact h⟩
/-- What a store of an image that is known left behind. -/
theorem imA_all (i : ImV) : (imA i).all (·.oneCell') = true := imA_ok i

set_option maxRecDepth 100000 in
theorem New18_any (z : Int) (w : World) :
    Calls Try.prog 25 #[.int .i64 z] w fun e w' => ∃ i : ImV, e = .returned (.agg (imA i)) ∧ i.p = newP z ∧ OwnIm w' w.heap.size i ∧ Below w.heap.size w w' := by
  have bn := below_new w (.cells zI3 25)
  have hQ := Blk.new w 25 zI3
  have hs : (w.alloc (.cells zI3 25)).heap.size = w.heap.size + 1 := Array.size_push ..
  have hn := newN_eq z
  have hP : newP z = ImV.p ⟨some ⟨w.heap.size + 1, 0, none⟩, List.replicate (newN z) 0, newN z, none, [], 0, 0⟩ := rfl
  rw [hP]
  generalize newN z = n at *
  unfold zI3 at *
  have hb : n ≤ big := by unfold big; omega
  go_enter Try.func25, Try.ntmps25
  go_wp2_with first
    | (at_make
       refine wpList_makeB rfl (.tmp 5) (.tmp 5) rfl _ n (by show Value.int .i64 (min (max z 0) 512) = _; rw [hn.1]) (by show Value.int .i64 (min (max z 0) 512) = _; rw [hn.1]) hb (Nat.le_refl _) ?_
       intro w2 o2 b2
       rw [hs] at o2
       have hQ := hQ.below b2
       have bb := bn.thenB' b2
       have hO : OwnIm w2 (w.heap.size + 1) ⟨some ⟨w.heap.size + 1, 0, none⟩, List.replicate n 0, n, none, [], 0, 0⟩ :=
         ⟨OwnC.nil, by rw [List.length_replicate]; rw [hs] at *; exact o2, fun b h => by simp [Value.ownBlock] at h, fun s hs => by simp at hs⟩)
    | (with_reducible show wpList _ _ _ _ _ _
       refine wpList_rowB rfl 25 (.tmp 2) (.tmp 7) rfl w.heap.size 25 _ (imA ⟨some ⟨w.heap.size + 1, 0, none⟩, List.replicate n 0, n, none, [], 0, 0⟩) rfl (by unfold imA; rw [List.length_replicate]; rfl) hQ infoIm rfl (imA_ok _) ?_
       intro w3 hQ3 m3)
  (try simp only [Exit.inBlock, Exit.then])
  refine bodyPost_ret (results_cell1 rfl _ _ w.heap.size _ _ (0, 0) _ rfl hQ3 Try.underlying25 rfl infoIm) rfl ?_
  exact ⟨_, rfl, rfl, (hO.mod m3 fun j hj => by omega).low (by omega), bb.thenM m3 bb.size fun j hj e => by omega⟩

set_option maxRecDepth 100000 in
theorem rNew18_any (z : Int) (w : World) :
    Calls Try.prog 26 #[.int .i64 z] w fun e w' => ∃ i : ImV, e = .returned (.agg (imA i)) ∧ i.p = newP z ∧ OwnIm w' w.heap.size i ∧ Below w.heap.size w w' := by
  have bn := below_new w (.cells zI3 25)
  have hQ := Blk.new w 25 zI3
  have hs : (w.alloc (.cells zI3 25)).heap.size = w.heap.size + 1 := Array.size_push ..
  have hn := newN_eq z
  have hP : newP z = ImV.p ⟨some ⟨w.heap.size + 1, 0, none⟩, List.replicate (newN z) 0, newN z, none, [], 0, 0⟩ := rfl
  rw [hP]
  generalize newN z = n at *
  unfold zI3 at *
  have hb : n ≤ big := by unfold big; omega
  go_enter Try.func26, Try.ntmps26
  go_wp2_with first
    | (at_make
       refine wpList_makeB rfl (.tmp 5) (.tmp 5) rfl _ n (by show Value.int .i64 (min (max z 0) 512) = _; rw [hn.1]) (by show Value.int .i64 (min (max z 0) 512) = _; rw [hn.1]) hb (Nat.le_refl _) ?_
       intro w2 o2 b2
       rw [hs] at o2
       have hQ := hQ.below b2
       have bb := bn.thenB' b2
       have hO : OwnIm w2 (w.heap.size + 1) ⟨some ⟨w.heap.size + 1, 0, none⟩, List.replicate n 0, n, none, [], 0, 0⟩ :=
         ⟨OwnC.nil, by rw [List.length_replicate]; rw [hs] at *; exact o2, fun b h => by simp [Value.ownBlock] at h, fun s hs => by simp at hs⟩)
    | (with_reducible show wpList _ _ _ _ _ _
       refine wpList_rowB rfl 25 (.tmp 2) (.tmp 7) rfl w.heap.size 25 _ (imA ⟨some ⟨w.heap.size + 1, 0, none⟩, List.replicate n 0, n, none, [], 0, 0⟩) rfl (by unfold imA; rw [List.length_replicate]; rfl) hQ infoIm rfl (imA_ok _) ?_
       intro w3 hQ3 m3)
  (try simp only [Exit.inBlock, Exit.then])
  refine bodyPost_ret (results_cell1 rfl _ _ w.heap.size _ _ (0, 0) _ rfl hQ3 Try.underlying25 rfl infoIm) rfl ?_
  exact ⟨_, rfl, rfl, (hO.mod m3 fun j hj => by omega).low (by omega), bb.thenM m3 bb.size fun j hj e => by omega⟩

end Go.Proofs.Ytcdodchjgadcoaa
