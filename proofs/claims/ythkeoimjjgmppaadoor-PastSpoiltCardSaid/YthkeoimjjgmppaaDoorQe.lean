/- Parts of the proof, joined: Ab4 Ab5 Ab6 Ab7 Ab8. -/
import Derived.Test.YthkeoimjjgmppaaDoorQd
import Derived.Laws.OwnMore
/- Whether two images are the same: the code. -/
namespace Go.Proofs.YthkeoimjjgmppaaDoor
open Go.RowKit
set_option linter.unusedVariables false

end Go.Proofs.YthkeoimjjgmppaaDoor

/- Rows of copies of the call's own: clones, an append, a store; an image of one's own; a new image. -/
namespace Go.Proofs.YthkeoimjjgmppaaDoor
open Go.RowKit
set_option linter.unusedVariables false

section
variable {α : Type} {C : α → List Value} {k : Nat}
theorem flC_inv (hk : ∀ x, (C x).length = k) : ∀ (L : List α) (j : Nat) (u : Value), (flC C L)[j]? = some u → ∃ i s r, j = i * k + r ∧ L[i]? = some s ∧ (C s)[r]? = some u
  | [], j, u, h => by simp [flC] at h
  | x :: L, j, u, h => by
    have e : flC C (x :: L) = C x ++ flC C L := by unfold flC; rw [List.flatMap_cons]
    rw [e, List.getElem?_append] at h
    split at h
    · exact ⟨0, x, j, by omega, rfl, h⟩
    · rename_i hj
      obtain ⟨i, s, r, hjr, hs, hu⟩ := flC_inv hk L _ u h
      have hl := hk x
      exact ⟨i + 1, s, r, by rw [Nat.succ_mul]; omega, by simpa using hs, hu⟩
theorem RdL.flatC {w : World} {D : Nat → Prop} {A : Option Addr} {L : List α} (hk : ∀ x, (C x).length = k) (h : RdL w D k C A L) : Rd w D k A L.length (flC C L) := by
  refine ⟨flC_len hk L, fun hn => ?_⟩
  obtain ⟨ad, e, hb, hc⟩ := h hn
  refine ⟨ad, e, hb, fun j u hu => ?_⟩
  obtain ⟨i, s, r, rfl, hs, hr⟩ := flC_inv hk L j u hu
  exact hc i s hs r u hr
end
theorem OwnB.mod {X : Nat → Prop} {w w' : World} {base : Nat} {v : Value} {bs : List UInt8} (h : OwnB w base v bs) (hb : Mod X w w') (hx : ∀ j, v.ownBlock = some j → ¬ X j) : OwnB w' base v bs := by
  refine ⟨h.1, ?_⟩
  rcases h.2 with h0 | ⟨g, cap, cur, rfl, hg, hh, r⟩
  · exact .inl h0
  · exact .inr ⟨g, cap, cur, rfl, hg, by rw [hb.block g (Array.getElem?_eq_some_iff.1 hh).1 (hx g rfl)]; exact hh, r⟩

def OwnCp (w : World) (base : Nat) (v : Value) (L : List CpV) : Prop := OwnC 71 2 cpC w base v L
theorem OwnCp.rd {w : World} {base n c : Nat} {A : Option Addr} {L : List CpV} (h : OwnCp w base (.slice A n c) L) : RdL w (fun b => base ≤ b ∧ (Value.slice A n c).ownBlock = some b) 2 cpC A L := OwnC.rd cpC_len h
@[go_sem] theorem eqCp_nil (w : World) (A : Option Addr) (n c : Nat) : (binOp .eql 33 (.slice A n c) (.slice none 0 0)).run Tryd.prog w = .ok (.bool A.isNone) w := Lib.run_eql_slice_nil w _ 71 A n c 0 0 Tryd.underlying33
section
variable {w : World} {ops : Array Oper} {rest : List Oper} {o : Oper} {a : Act} {Q : Exit → Act → World → Prop}
theorem wpList_appCp (hgd : o.guard = none) (s x : Operand) (ho : o.op = .call { callee := .builtin .append, args := #[s, x], argTypes := #[33, 33] })
    (base : Nat) (v : Value) (L news : List CpV) (hs : a.eval s = v) (hown : OwnCp w base v L)
    (D : Nat → Prop) (A : Option Addr) (n c : Nat) (hx : a.eval x = .slice A n c) (hn : n = news.length) (hr : Rd w D 2 A n (flC cpC news))
    (hlen : L.length + news.length ≤ 1000000) (hbase : base ≤ w.heap.size)
    (h : ∀ v' w', OwnCp w' base v' (L ++ news) → Ext w w' v v' → wpList Tryd.prog ops Q rest (a.put o.dst v') w') :
    wpList Tryd.prog ops Q (o :: rest) a w := by
  subst hn
  refine wpList_plain hgd fun _ hK => wp_app s x _ ho base 71 _ 2 32 Tryd.underlying33 infoCp rfl (by decide) v _ _ hs hown D A _ c _ hx hr (flC_one cpC_one news) ?_ ?_ hbase fun v' w' h2 h3 h4 => hK _ _ (h v' w' ?_ ⟨h3, h4.imp id fun e k hk => by rw [e] at hk; injection hk with hk; omega⟩)
  · unfold maxLen; omega
  · omega
  · unfold OwnCp OwnC
    rw [List.length_append, flC_app]
    exact h2
end
theorem own_litCp (w : World) (base : Nat) (hb : base ≤ w.heap.size) : OwnCp (w.alloc (.cells #[] 71)) base (.slice (some ⟨w.heap.size, 0, none⟩) 0 0) [] :=
  World.ownsRow_lit (base := base) (e := 71) (size := 2) w #[] 0 hb (by simp) (by simp)
theorem cloneCp_any (D : Nat → Prop) (A : Option Addr) (c : Nat) (L : List CpV) (w : World) (h : RdL w D 2 cpC A L) (hl : L.length ≤ 1000) :
    Calls Tryd.prog 72 #[.slice A L.length c] w fun e w' => ∃ v, e = .returned v ∧ OwnCp w' w.heap.size v L ∧ Below w.heap.size w w' := by
  rcases A with _ | ad
  · have hz : L = [] := by
      rcases Nat.eq_zero_or_pos L.length with h0 | h0
      · exact List.eq_nil_of_length_eq_zero h0
      · obtain ⟨ad, h, _⟩ := h h0
        cases h
    subst hz
    go_enter Tryd.func72, Tryd.ntmps72
    go_wp2
    go_ret
    exact ⟨_, rfl, OwnC.nil, Below.refl _ _⟩
  · have hem := own_litCp w w.heap.size (Nat.le_refl _)
    have hf := (h.flatC cpC_len).alloc (.cells #[] 71)
    go_enter Tryd.func72, Tryd.ntmps72
    go_wp2_with (at_builtin; refine wpList_appCp rfl (.tmp 5) (.tmp 6) rfl w.heap.size (.slice (some ⟨w.heap.size, 0, none⟩) 0 0) [] L rfl hem D _ _ c rfl rfl hf (by simp only [List.length_nil]; omega) (by simp) ?_; intro v' w' h1 h2)
    go_ret
    exact ⟨_, rfl, h1, below_app ((Below.refl _ _).alloc (Nat.le_refl _) _) hem h2.grown (Nat.le_refl _) (by simp)⟩
theorem cloneD_any (D : Nat → Prop) (A : Option Addr) (c : Nat) (bs : List UInt8) (w : World) (h : RdB w D A bs) (hl : bs.length ≤ big) :
    Calls Tryd.prog 56 #[.slice A bs.length c] w fun e w' => ∃ v, e = .returned v ∧ OwnB w' w.heap.size v bs ∧ Below w.heap.size w w' := by
  rcases A with _ | ad
  · have hz : bs = [] := by
      rcases Nat.eq_zero_or_pos bs.length with h0 | h0
      · exact List.eq_nil_of_length_eq_zero h0
      · obtain ⟨ad, h, _⟩ := h.2 h0
        cases h
    subst hz
    go_enter Tryd.func56, Tryd.ntmps56
    go_wp2
    go_ret
    exact ⟨_, rfl, OwnB.nil, Below.refl _ _⟩
  · have hem : OwnB (w.alloc (.cells #[] 5)) w.heap.size (.slice (some ⟨w.heap.size, 0, none⟩) 0 0) [] := own_lit w _ [] _ (Nat.le_refl _) (by simp)
    go_enter Tryd.func56, Tryd.ntmps56
    go_wp2_with (at_builtin; refine wpList_appB rfl (.tmp 5) (.tmp 6) rfl w.heap.size (.slice (some ⟨w.heap.size, 0, none⟩) 0 0) [] rfl hem D _ _ c bs rfl rfl (Rd.alloc h _) (by simpa using hl) (by simp) ?_; intro v' w' h1 h2)
    go_ret
    exact ⟨_, rfl, h1, below_app ((Below.refl _ _).alloc (Nat.le_refl _) _) hem h2.grown (Nat.le_refl _) (by simp)⟩

theorem cpF_set : ∀ (L : List CpV) (k : Nat) (hk : k < L.length) (A : Option Addr) (m : List UInt8) (c : Nat), flC cpC (L.set k ⟨L[k].id, A, m, c⟩) = (flC cpC L).set (k * 2 + 1) (.slice A m.length c)
  | x :: L, 0, _, A, m, c => by
    unfold flC
    simp [List.flatMap_cons, cpC]
  | x :: L, k + 1, hk, A, m, c => by
    have := cpF_set L k (by simpa using hk) A m c
    unfold flC at this ⊢
    rw [List.set_cons_succ, List.flatMap_cons, List.flatMap_cons]
    simp only [List.getElem_cons_succ]
    rw [this, List.set_append, if_neg (by simp [cpC]; omega)]
    congr 2
    simp [cpC]; omega
/-- What a store into a copy's bytes wants and leaves. -/
theorem OwnCp.store {w : World} {base n c : Nat} {A : Option Addr} {L : List CpV} (h : OwnCp w base (.slice A n c) L) {k : Nat} (hk : k < L.length) : ∃ ad, A = some ad ∧ base ≤ ad.block ∧ (Value.slice A n c).ownBlock = some ad.block ∧
    w.cell? ⟨(ad.add (k * 2)).block, (ad.add (k * 2)).off + 1, none⟩ = some (.slice L[k].A L[k].m.length L[k].c) ∧ w.frozen? ⟨(ad.add (k * 2)).block, (ad.add (k * 2)).off + 1, none⟩ = false ∧ (ad.add (k * 2)).block = ad.block ∧
    ∀ A' m c', OwnCp (w.setCell ⟨(ad.add (k * 2)).block, (ad.add (k * 2)).off + 1, none⟩ (.slice A' m.length c')) base (.slice A n c) (L.set k ⟨L[k].id, A', m, c'⟩) := by
  have hl := flC_len cpC_len L
  rcases h.2 with ⟨_, h0⟩ | ⟨g, cap, cur, hv, hg, hh, hnc, hcm, hcs, htake⟩
  · omega
  · have hB : Blk w g 71 cur := hh
    have h2 := flC_at cpC_len L k L[k] (List.getElem?_eq_getElem hk) 1 _ rfl
    rw [← htake, List.getElem?_take, if_pos (by omega)] at h2
    have e : (⟨((⟨g, 0, none⟩ : Addr).add (k * 2)).block, ((⟨g, 0, none⟩ : Addr).add (k * 2)).off + 1, none⟩ : Addr) = ⟨g, k * 2 + 1, none⟩ := by rw [add_head]
    injection hv with hA hn hc
    subst hA hn hc
    refine ⟨⟨g, 0, none⟩, rfl, hg, rfl, ?_, ?_, by rw [add_head], fun A' m c' => ?_⟩
    · rw [e, hB.cell, ← h2]; simp
    · rw [e]; exact hB.frozen _
    · rw [e]
      refine ⟨by rw [flC_len cpC_len], .inr ⟨g, c, cur.setIfInBounds (k * 2 + 1) (.slice A' m.length c'), by rw [List.length_set], hg, hB.set_ _ _, by rw [List.length_set]; exact hnc, hcm, by rw [Array.size_setIfInBounds]; exact hcs, ?_⟩⟩
      rw [cpF_set L k hk, ← htake, List.length_set, Array.toList_setIfInBounds, List.take_set]
/-- An image whose memory is the call's own. -/
structure OwnIm (w : World) (B : Nat) (i : ImV) : Prop where
  own : OwnCp w B (.slice i.CA i.S.length i.cc) i.S
  dat : OwnB w B (.slice i.DA i.d.length i.dc) i.d
  ne : ∀ b, (Value.slice i.CA i.S.length i.cc).ownBlock = some b → (Value.slice i.DA i.d.length i.dc).ownBlock ≠ some b
  cp : ∀ s ∈ i.S, CpR w (fun b => B ≤ b ∧ (Value.slice i.CA i.S.length i.cc).ownBlock ≠ some b ∧ (Value.slice i.DA i.d.length i.dc).ownBlock ≠ some b) s
section
variable {w w' : World} {B B' : Nat} {i : ImV}
theorem OwnIm.below (k : OwnIm w B i) (b : Below w.heap.size w w') : OwnIm w' B i := ⟨OwnC.below k.own b, OwnB.below k.dat b, k.ne, fun s hs => (k.cp s hs).below b⟩
theorem OwnIm.low (k : OwnIm w B i) (b : B' ≤ B) : OwnIm w B' i := ⟨OwnC.low k.own b, OwnB.low k.dat b, k.ne, fun s hs => (k.cp s hs).imp fun j _ hj => ⟨Nat.le_trans b hj.1, hj.2⟩⟩
theorem OwnIm.mod {X : Nat → Prop} (k : OwnIm w B i) (m : Mod X w w') (hX : ∀ j, X j → j < B) : OwnIm w' B i :=
  ⟨OwnC.mod k.own m fun j hj hx => by have := (k.own.lt j hj).1; have := hX j hx; omega, OwnB.mod k.dat m fun j hj hx => by have := (k.dat.lt j hj).1; have := hX j hx; omega, k.ne,
    fun s hs => (k.cp s hs).mod m fun j hj hx => by have := hj.1; have := hX j hx; omega⟩
theorem OwnIm.rd (k : OwnIm w B i) : ImR w (fun b => B ≤ b) i := by
  obtain ⟨A, c, e, h1, h2⟩ := OwnC.form k.own
  injection e with _ _ e
  obtain ⟨A', c', e', h1', h2'⟩ := OwnB.form k.dat
  injection e' with _ _ e'
  exact ⟨k.dat.rdG, by rw [e']; exact h1', by rw [e']; unfold maxLen at h2'; exact h2', (k.own.rd).imp cpC_pos fun b _ hb => hb.1, by rw [e]; exact h1, by rw [e]; unfold maxLen at h2; exact h2, fun s hs => (k.cp s hs).imp fun _ _ hb => hb.1⟩
theorem OwnIm.zero : OwnIm w B ⟨none, [], 0, none, [], 0, 0⟩ := ⟨OwnC.nil, OwnB.nil, fun b h => by simp [Value.ownBlock] at h, fun s hs => by simp at hs⟩
end
/-! ### a new image -/
def newN (z : Int) : Nat := (min (max z 0) 512).toNat
theorem newN_eq (z : Int) : (newN z : Int) = min (max z 0) 512 ∧ newN z ≤ 512 := by unfold newN; omega
def newP (z : Int) : PI := ⟨List.replicate (newN z) 0, [], 0⟩
theorem results_cell1 {P : Program} {fn : Func} {p : Tmp} {ty : TypeId} (h : fn.results = #[.cell p ty]) (tmps : Array Value) (w : World) (g : Nat) (T : TypeId) (cs : Array Value) (fr : Nat × Nat) (d : TypeDesc)
    (hp : tmps.getD p undef = .pointer (some ⟨g, 0, none⟩)) (hg : w.heap[g]? = some (.cells cs T fr))
    (hu : P.underlying ty = some d) (hd : (match d with | .struct _ | .array _ _ => true | _ => false) = true) (hi : (P.info? ty).map (·.size) = some cs.size) :
    (results fn tmps).run P w = .ok (.agg cs) w := by
  have hp' : tmps[p]?.getD undef = .pointer (some ⟨g, 0, none⟩) := by simpa using hp
  simp [results, h, hp', asAddr, run_loadVar_row w g T ty cs fr d hg hu hd hi]
theorem rowCp_new {w w' : World} {n : Nat} (o : OwnB w' w.heap.size (.slice (some ⟨w.heap.size, 0, none⟩) n n) (List.replicate n 0)) : OwnIm w' w.heap.size ⟨some ⟨w.heap.size, 0, none⟩, List.replicate n 0, n, none, [], 0, 0⟩ :=
  ⟨OwnC.nil, by rw [List.length_replicate]; exact o, fun b h => by simp [Value.ownBlock] at h, fun s hs => by simp at hs⟩
end Go.Proofs.YthkeoimjjgmppaaDoor

/- A new image: the code and the document; an image of one's own. -/
namespace Go.Proofs.YthkeoimjjgmppaaDoor
open Go.RowKit
set_option linter.unusedVariables false

theorem infoD1 : (Tryd.prog.info? 23).map (·.size) = some 1 := by kernel_rfl
theorem infoC1 : (Tryd.prog.info? 33).map (·.size) = some 1 := by kernel_rfl
theorem infoN1 : (Tryd.prog.info? 3).map (·.size) = some 1 := by kernel_rfl
def zI3 : Array Value := #[.slice none 0 0, .slice none 0 0, .int .i64 0]
theorem mod_setRow {w : World} {g : Nat} (cs : Array Value) : Mod (· = g) w (w.setRow g cs) :=
  ⟨rfl, rfl, rfl, by unfold World.setRow; simp, fun k _ hk => setRow_other w g k cs hk⟩
theorem one_size {ty : TypeId} (hi : (Tryd.prog.info? ty).map (·.size) = some 1) (w : World) (g i : Nat) (T : TypeId) (cs : Array Value) (u : Value) (h1 : u.oneCell' = true) (hB : Blk w g T cs) (hlt : i < cs.size) :
    (storeVar ty ⟨g, i, none⟩ u).run Tryd.prog w = .ok () (w.setCell ⟨g, i, none⟩ u) := by
  have hc : u.cells = #[u] := by cases u <;> first | rfl | cases h1
  cases hq : Tryd.prog.info? ty with
  | none => simp [hq] at hi
  | some j =>
    have hs : j.size = 1 := by simpa [hq] using hi
    have h2 : w.cell? ⟨g, i, none⟩ = some cs[i] := by rw [hB.cell]; exact Array.getElem?_eq_getElem hlt
    have hr := run_store Tryd.prog w ⟨g, i, none⟩ u .plain h1
    rw [h2] at hr
    simp only [hB.frozen i] at hr
    simp [storeVar, sizeOf, typeInfo, hq, hc, hs, storeCells, Addr.add]
    exact hr
theorem wpList_fldB {ops : Array Oper} {rest : List Oper} {o : Oper} {a : Act} {w : World} {Q : Exit → Act → World → Prop} (hgd : o.guard = none) (ty : TypeId) (x y : Operand) (ho : o.op = .store ty x y)
    (g i : Nat) (T : TypeId) (cs : Array Value) (u : Value) (hx : a.eval x = .pointer (some ⟨g, i, none⟩)) (hy : a.eval y = u) (h1 : u.oneCell' = true) (hi : (Tryd.prog.info? ty).map (·.size) = some 1)
    (hB : Blk w g T cs) (n : Nat) (hn : cs.size = n) (hlt : i < n)
    (h : ∀ w', Blk w' g T (cs.setIfInBounds i u) → Mod (· = g) w w' → wpList Tryd.prog ops Q rest (a.put o.dst undef) w') : wpList Tryd.prog ops Q (o :: rest) a w := by
  subst hy hn
  refine wpList_plain hgd fun _ hK => ?_
  unfold Oper.wp execOp
  simp only [ho, hx, Instr.storeAt, Instr.sureAddr, Sem.run_bind, Sem.run_pure, Result.andThen_ok, one_size hi w g i T cs _ h1 hB hlt]
  exact hK _ _ (h _ (hB.set_ i _) ((Mod.refl _ _).setG i _))
theorem wpList_rowB {ops : Array Oper} {rest : List Oper} {o : Oper} {a : Act} {w : World} {Q : Exit → Act → World → Prop} (hgd : o.guard = none) (ty : TypeId) (x y : Operand) (ho : o.op = .store ty x y)
    (g : Nat) (T : TypeId) (old cells : Array Value) (hx : a.eval x = .pointer (some ⟨g, 0, none⟩)) (hy : a.eval y = .agg cells)
    (hB : Blk w g T old) (hi : (Tryd.prog.info? ty).map (·.size) = some cells.size) (hold : old.size = cells.size) (h1 : cells.all (·.oneCell') = true)
    (h : ∀ w', Blk w' g T cells → Mod (· = g) w w' → wpList Tryd.prog ops Q rest (a.put o.dst undef) w') : wpList Tryd.prog ops Q (o :: rest) a w :=
  wpList_store_row hgd ty x y ho g cells hx hy T old hB hi hold h1 (h _ (setRow_heap _ _ _ _ _ _ hB) (mod_setRow cells))
theorem alt_none {P : Program} {ops : Array Oper} {Q : Exit → Act → World → Prop} {R : World → World → Prop} {i fuel : Nat} {o : Oper} {L : Array Bool} {a : Act} {w : World} (L' : Array Bool) (ho : ops[i]? = some o) (hd : o.dst = none) (hl : L.setIfInBounds i true = L') (hw : Region.wanted o (yielded ops a.tmps) = true) {w' : World}
    (hrun : (execOp a.eval o).run P w = .ok .skip w') (h1 : R w w') (h : wpR P ops R Q fuel L' a w') : Alt P ops R Q fuel L a w i := by
  subst hl
  unfold Alt wpOp
  simp only [ho, hw, if_true]
  refine .inl ?_
  unfold Oper.wp
  rw [hrun]
  exact ⟨h1, by rw [hd]; exact h⟩
/-- What a store of an image that is known left behind. -/
theorem imA_all (i : ImV) : (imA i).all (·.oneCell') = true := imA_ok i

set_option maxRecDepth 100000 in
theorem New18_any (z : Int) (w : World) :
    Calls Tryd.prog 29 #[.int .i64 z] w fun e w' => ∃ i : ImV, e = .returned (.agg (imA i)) ∧ i.p = newP z ∧ OwnIm w' w.heap.size i ∧ Below w.heap.size w w' := by
  have bn := below_new w (.cells zI3 35)
  have hQ := Blk.new w 35 zI3
  have hs : (w.alloc (.cells zI3 35)).heap.size = w.heap.size + 1 := Array.size_push ..
  have hn := newN_eq z
  have hP : newP z = ImV.p ⟨some ⟨w.heap.size + 1, 0, none⟩, List.replicate (newN z) 0, newN z, none, [], 0, 0⟩ := rfl
  rw [hP]
  generalize newN z = n at *
  unfold zI3 at *
  have hb : n ≤ big := by unfold big; omega
  go_enter Tryd.func29, Tryd.ntmps29
  go_wp2_with first
    | (at_make
       refine wpList_makeB rfl (.tmp 5) (.tmp 5) rfl _ n (by show Value.int .i64 (min (max z 0) 512) = _; rw [hn.1]) (by show Value.int .i64 (min (max z 0) 512) = _; rw [hn.1]) hb (Nat.le_refl _) ?_
       intro w2 o2 b2
       rw [hs] at o2
       have hQ := hQ.below b2
       have bb := bn.thenB' b2
       have hO : OwnIm w2 (w.heap.size + 1) ⟨some ⟨w.heap.size + 1, 0, none⟩, List.replicate n 0, n, none, [], 0, 0⟩ :=
         ⟨OwnC.nil, by rw [List.length_replicate]; rw [hs] at *; exact o2, fun b h => by simp [Value.ownBlock] at h, fun s hs => by simp at hs⟩)
    | (with_reducible show wpList _ _ _ _ _ _
       refine wpList_rowB rfl 35 (.tmp 2) (.tmp 7) rfl w.heap.size 35 _ (imA ⟨some ⟨w.heap.size + 1, 0, none⟩, List.replicate n 0, n, none, [], 0, 0⟩) rfl (by unfold imA; rw [List.length_replicate]; rfl) hQ infoIm rfl (imA_ok _) ?_
       intro w3 hQ3 m3)
  (try simp only [Exit.inBlock, Exit.then])
  refine bodyPost_ret (results_cell1 rfl _ _ w.heap.size _ _ (0, 0) _ rfl hQ3 Tryd.underlying35 rfl infoIm) rfl ?_
  exact ⟨_, rfl, rfl, (hO.mod m3 fun j hj => by omega).low (by omega), bb.thenM m3 bb.size fun j hj e => by omega⟩

set_option maxRecDepth 100000 in
theorem rNew18_any (z : Int) (w : World) :
    Calls Tryd.prog 26 #[.int .i64 z] w fun e w' => ∃ i : ImV, e = .returned (.agg (imA i)) ∧ i.p = newP z ∧ OwnIm w' w.heap.size i ∧ Below w.heap.size w w' := by
  have bn := below_new w (.cells zI3 35)
  have hQ := Blk.new w 35 zI3
  have hs : (w.alloc (.cells zI3 35)).heap.size = w.heap.size + 1 := Array.size_push ..
  have hn := newN_eq z
  have hP : newP z = ImV.p ⟨some ⟨w.heap.size + 1, 0, none⟩, List.replicate (newN z) 0, newN z, none, [], 0, 0⟩ := rfl
  rw [hP]
  generalize newN z = n at *
  unfold zI3 at *
  have hb : n ≤ big := by unfold big; omega
  go_enter Tryd.func26, Tryd.ntmps26
  go_wp2_with first
    | (at_make
       refine wpList_makeB rfl (.tmp 5) (.tmp 5) rfl _ n (by show Value.int .i64 (min (max z 0) 512) = _; rw [hn.1]) (by show Value.int .i64 (min (max z 0) 512) = _; rw [hn.1]) hb (Nat.le_refl _) ?_
       intro w2 o2 b2
       rw [hs] at o2
       have hQ := hQ.below b2
       have bb := bn.thenB' b2
       have hO : OwnIm w2 (w.heap.size + 1) ⟨some ⟨w.heap.size + 1, 0, none⟩, List.replicate n 0, n, none, [], 0, 0⟩ :=
         ⟨OwnC.nil, by rw [List.length_replicate]; rw [hs] at *; exact o2, fun b h => by simp [Value.ownBlock] at h, fun s hs => by simp at hs⟩)
    | (with_reducible show wpList _ _ _ _ _ _
       refine wpList_rowB rfl 35 (.tmp 2) (.tmp 7) rfl w.heap.size 35 _ (imA ⟨some ⟨w.heap.size + 1, 0, none⟩, List.replicate n 0, n, none, [], 0, 0⟩) rfl (by unfold imA; rw [List.length_replicate]; rfl) hQ infoIm rfl (imA_ok _) ?_
       intro w3 hQ3 m3)
  (try simp only [Exit.inBlock, Exit.then])
  refine bodyPost_ret (results_cell1 rfl _ _ w.heap.size _ _ (0, 0) _ rfl hQ3 Tryd.underlying35 rfl infoIm) rfl ?_
  exact ⟨_, rfl, rfl, (hO.mod m3 fun j hj => by omega).low (by omega), bb.thenM m3 bb.size fun j hj e => by omega⟩

end Go.Proofs.YthkeoimjjgmppaaDoor

/- An image of one's own: the code's own. -/
namespace Go.Proofs.YthkeoimjjgmppaaDoor
open Go.RowKit
set_option linter.unusedVariables false

def DC (B : Nat) (cv dv : Value) (b : Nat) : Prop := B ≤ b ∧ cv.ownBlock ≠ some b ∧ dv.ownBlock ≠ some b

set_option maxHeartbeats 8000000 in
set_option maxRecDepth 100000 in
theorem own18_any (D : Nat → Prop) (i : ImV) (w : World) (hr : ImR w D i) (hm1 : i.d.length ≤ 1000) (hS1 : i.S.length ≤ 100) (hs1 : ∀ s ∈ i.S, s.m.length ≤ 1000) :
    Calls Tryd.prog 55 #[.agg (imA i)] w fun e w' => ∃ i' : ImV, e = .returned (.agg (imA i')) ∧ i'.p = i.p ∧ OwnIm w' w.heap.size i' ∧ Below w.heap.size w w' := by
  obtain ⟨rm, lm, mm, hS, hl, hm, hrs0⟩ := hr
  have hrs := fun s hs => (hrs0 s hs).imp (D' := (· < w.heap.size)) (fun b hb _ => hb)
  clear hrs0
  have b1 := below_new w (.cells (imA i) 35)
  have hB := Blk.new w 35 (imA i)
  have s1 : (w.alloc (.cells (imA i) 35)).heap.size = w.heap.size + 1 := Array.size_push ..
  have b2 := below_new (w.alloc (.cells (imA i) 35)) (.cells zI3 35)
  have hQ := Blk.new (w.alloc (.cells (imA i) 35)) 35 zI3
  have s2 : ((w.alloc (.cells (imA i) 35)).alloc (.cells zI3 35)).heap.size = w.heap.size + 1 + 1 := by rw [← s1]; exact Array.size_push ..
  rw [s1] at hQ
  have hB := hB.below b2
  have bb := b1.thenB' b2
  clear b1 b2 s1
  obtain ⟨DA, d, dc, A, L, cc, la⟩ := i
  unfold ImV.p
  unfold imA zI3 at *
  dsimp only at *
  generalize hw0 : (w.alloc (.cells #[.slice DA d.length dc, .slice A L.length cc, .int .i64 la] 35)).alloc (.cells #[.slice none 0 0, .slice none 0 0, .int .i64 0] 35) = w0 at *
  have hs0 : w.heap.size + 2 ≤ w0.heap.size := by omega
  have c4 := hB.cell 0
  simp at c4
  clear s2
  have rm0 := rm.below bb
  go_enter Tryd.func55, Tryd.ntmps55
  go_wp2_with fail
  clear hw0 c4
  refine (cloneD_any D DA dc d w0 rm0 (by unfold big; omega)).mono ?_
  rintro e w1 ⟨v1, rfl, o1, b1⟩
  obtain ⟨A1, c1, rfl, l1, k1⟩ := o1.form
  have hB1 := hB.below b1
  have hQ1 := hQ.below b1
  have bb := bb.thenB' b1
  have hdl1 : ∀ b, (Value.slice A1 d.length c1).ownBlock = some b → w.heap.size + 2 ≤ b ∧ b < w1.heap.size := fun b hb => by have := o1.lt b hb; omega
  go_wp2_with first
    | (with_reducible show wpList _ _ _ _ _ _
       refine wpList_fldB rfl 23 (.tmp 7) (.tmp 6) rfl w.heap.size 0 35 _ (.slice A1 d.length c1) rfl rfl rfl infoD1 hB1 3 rfl (by decide) ?_
       intro w2 hB2 m2
       replace hB2 : Blk w2 w.heap.size 35 #[.slice A1 d.length c1, .slice A L.length cc, .int .i64 la] := hB2
       have c5 := hB2.cell 1
       simp at c5)
  have hQ2 := hQ1.mod m2 (by omega)
  have bb := bb.thenM m2 bb.size (fun i hi e => by omega)
  have hs1' := b1.size
  have o2 := OwnB.mod o1 m2 (fun j hj e => by have := (hdl1 j hj).1; omega)
  have o2 := o2.low hs0
  have hs2 : w.heap.size + 2 ≤ w2.heap.size := by have := m2.size; omega
  have hdl2 : ∀ b, (Value.slice A1 d.length c1).ownBlock = some b → w.heap.size + 2 ≤ b ∧ b < w2.heap.size := fun b hb => by have := hdl1 b hb; have := m2.size; omega
  clear m2 hB1 hQ1 c5 hdl1
  have c5 := hB2.cell 1
  simp at c5
  have hrs2 := fun s hs => (hrs s hs).below bb
  refine (cloneCp_any D A cc L w2 (hS.below bb) (by omega)).mono ?_
  rintro e w3 ⟨v3, rfl, o3, b3⟩
  obtain ⟨A3, c3, rfl, l3, k3⟩ := OwnC.form o3
  have hB3 := hB2.below b3
  have hQ3 := hQ2.below b3
  have bb := bb.thenB' b3
  have hrs3 := fun s hs => (hrs2 s hs).below b3
  have r3 := o2.below b3
  have hob2 : ∀ b, (Value.slice A3 L.length c3).ownBlock = some b → w2.heap.size ≤ b := fun b hb => (World.ownsRow.lt o3 b hb).1
  have o3 : OwnCp w3 (w.heap.size + 2) (.slice A3 L.length c3) L := OwnC.low o3 hs2
  have hobl0 : ∀ b, (Value.slice A3 L.length c3).ownBlock = some b → w.heap.size + 2 ≤ b ∧ b < w3.heap.size := fun b hb => World.ownsRow.lt o3 b hb
  have hne : ∀ b, (Value.slice A3 L.length c3).ownBlock = some b → (Value.slice A1 d.length c1).ownBlock ≠ some b := fun b hb e => by have := hob2 b hb; have := (hdl2 b e).2; omega
  go_wp2_with first
    | (with_reducible show wpList _ _ _ _ _ _
       refine wpList_fldB rfl 33 (.tmp 11) (.tmp 10) rfl w.heap.size 1 35 _ (.slice A3 L.length c3) rfl rfl rfl infoC1 hB3 3 rfl (by decide) ?_
       intro w4 hB4 m4
       replace hB4 : Blk w4 w.heap.size 35 #[.slice A1 d.length c1, .slice A3 L.length c3, .int .i64 la] := hB4
       have c5 := hB4.cell 1
       simp at c5)
  have hQ4 := hQ3.mod m4 (by omega)
  have hobl := fun b hb => Nat.lt_of_lt_of_le (hobl0 b hb).2 m4.size
  have o4 : OwnCp w4 (w.heap.size + 2) (.slice A3 L.length c3) L := OwnC.mod o3 m4 (fun b hb e => by have := (hobl0 b hb).1; omega)
  have r4 := OwnB.mod r3 m4 (fun j hj e => by have := (hdl2 j hj).1; omega)
  have hdl4 : ∀ b, (Value.slice A1 d.length c1).ownBlock = some b → b < w4.heap.size := fun b hb => by have := hdl2 b hb; have := m4.size; have := b3.size; omega
  have bb := bb.thenM m4 bb.size (fun i hi e => by omega)
  clear hB3 hQ3 c5 m4 hrs2 hrs3 o3 r3 b3 o1 o2 hB2 hQ2 b1 hB hQ hdl2
  have hrs4 := fun s hs => (hrs s hs).below bb
  have hL1 : Hid (L.length ≤ 100) := hS1
  have hs4 : w.heap.size + 2 ≤ w4.heap.size := by have := bb.size; have := hQ4.lt; omega
  have hq1 : ∀ b, (Value.slice A3 L.length c3).ownBlock = some b → w.heap.size + 2 ≤ b := fun b hb => (hobl0 b hb).1
  go_loopw [3, 15] (fun s3 i wr => ∃ (k : Nat) (S : List CpV), k ≤ L.length ∧ i = .int .i64 (k : Int) ∧ S.length = L.length ∧ pureC S = pureC L ∧ (∀ j s, j < k → S[j]? = some s → CpR wr (DC (w.heap.size + 2) (.slice A3 L.length c3) (.slice A1 d.length c1)) s) ∧ (∀ j, k ≤ j → S[j]? = L[j]?) ∧ OwnCp wr (w.heap.size + 2) (.slice A3 L.length c3) S ∧ Mod (fun b => (Value.slice A3 L.length c3).ownBlock = some b) w4 wr) (fun _ i _ => L.length - (intOf i).toNat)
  case atStart => exact ⟨0, L, Nat.zero_le _, rfl, rfl, rfl, fun j s hj => by omega, fun j _ => rfl, o4, Mod.refl _ _⟩
  case round =>
    obtain ⟨k, S, hk, rfl, hSl, hP, hN, hO, oS, mm⟩ := hrel
    have hB1 := hB4.mod mm (fun e => by have := hq1 _ e; omega)
    have hSL := Lib.hid hSl
    clear hSl
    have c5 := hB1.cell 1
    simp at c5
    by_cases hlt : k < L.length
    · have hkS : k < S.length := by rw [hSL.out]; exact hlt
      have hSk : S[k] = L[k] := by
        have := hO k (Nat.le_refl _)
        rw [List.getElem?_eq_getElem hkS, List.getElem?_eq_getElem hlt] at this
        injection this
      obtain ⟨ad, rfl, hadB, hob, hcell, hfr, hbl, _⟩ := oS.store hkS
      rw [hSk] at hcell
      have hsk := hrs4 L[k] (List.getElem_mem hlt)
      have hx1k := hs1 L[k] (List.getElem_mem hlt)
      have rx := ((hsk).mod mm (fun b hb e => by have := hq1 b e; omega)).1
      have hkn : (k : Int) < (L.length : Int) := by omega
      have hLn : (L.length : Int) ≤ 9223372036854775807 := by have := hL1.out; omega
      have hq1' : ¬ w.heap.size = ad.block := by omega
      have hq2 := hq1
      replace hq1 : ¬ w.heap.size = ad.block := hq1'
      have hobl : ∀ b, (Value.slice (some ad) L.length c3).ownBlock = some b → b < wr.heap.size := fun b hb => Nat.lt_of_lt_of_le (hobl b hb) mm.size
      have hdl : ∀ b, (Value.slice A1 d.length c1).ownBlock = some b → b < wr.heap.size := fun b hb => Nat.lt_of_lt_of_le (hdl4 b hb) mm.size
      have HBL := Lib.hid hbl
      have HOB := Lib.hid hob
      clear hsk hq1' hbl hob
      obtain ⟨x, hxe⟩ : ∃ x, x = L[k].m := ⟨_, rfl⟩
      have hx : Hid (L[k].m = x) := hxe.symm
      rw [← hxe] at rx hcell hx1k
      clear hxe
      generalize L[k].A = Ax at *
      generalize L[k].c = cx at *
      go_wp2_with fail
      refine r_start (R := RG ad.block) (by rfl) (n := 13) (L := #[false, false, false, false, false, false, false, false, false, false, false, false, false]) rfl rfl ?_
      have bd : Below wr.heap.size wr wr.drew := (Below.refl _ _).drew
      have hB1 := hB1.below bd
      have oS : OwnCp wr.drew (w.heap.size + 2) (.slice (some ad) L.length c3) S := OwnC.below oS bd
      have rx := rx.below bd
      have hN := fun j s hj hs => (hN j s hj hs).below bd
      have mm := mm.thenB bd
      have hszd := mm.size
      have hsz : wr.heap.size ≤ wr.drew.heap.size := bd.size
      have hfr : wr.drew.frozen? ⟨(ad.add (k * 2)).block, (ad.add (k * 2)).off + 1, none⟩ = false := hfr
      have hcell := cell_belowS hcell bd
      clear bd
      generalize wr.drew = wd at *
      have c5 := hB1.cell 1
      simp at c5
      refine r_flt (RG_refl ad.block) 0 18 #[true, false, false, false, false, false, false, false, false, false, false, false, false] (by simp only [List.getElem?_toArray, List.getElem?_cons_zero]; rfl) (by rfl) (by kernel_rfl) (by kernel_rfl) (by kernel_rfl) (fun _ _ _ _ h => h) rfl (by rfl) ?_
      apply Exists.intro
      apply And.intro
      · intro W hW
        first | (go_simp; with_reducible rfl) | go_simp
      (try simp only [Act.put, List.setIfInBounds_toArray]); (try simp only [List.set_cons_succ]); (try simp only [List.set_cons_zero])
      refine r_flt (RG_refl ad.block) 1 19 #[true, true, false, false, false, false, false, false, false, false, false, false, false] (by simp only [List.getElem?_toArray, List.getElem?_cons_succ, List.getElem?_cons_zero]; rfl) (by rfl) (by kernel_rfl) (by kernel_rfl) (by kernel_rfl) (fun _ _ _ _ h => h) rfl (by rfl) ?_
      apply Exists.intro
      apply And.intro
      · intro W hW
        have c := (hB1.mod hW hq1).cell 1
        simp at c
        go_simp; rfl
      (try simp only [Act.put, List.setIfInBounds_toArray]); (try simp only [List.set_cons_succ]); (try simp only [List.set_cons_zero])
      refine r_flt (RG_refl ad.block) 2 20 #[true, true, true, false, false, false, false, false, false, false, false, false, false] (by simp only [List.getElem?_toArray, List.getElem?_cons_succ, List.getElem?_cons_zero]; rfl) (by rfl) (by kernel_rfl) (by kernel_rfl) (by kernel_rfl) (fun _ _ _ _ h => h) rfl (by rfl) ?_
      apply Exists.intro
      apply And.intro
      · intro W hW
        first | (go_simp; with_reducible rfl) | go_simp
      (try simp only [Act.put, List.setIfInBounds_toArray]); (try simp only [List.set_cons_succ]); (try simp only [List.set_cons_zero])
      refine r_flt (RG_refl ad.block) 3 21 #[true, true, true, true, false, false, false, false, false, false, false, false, false] (by simp only [List.getElem?_toArray, List.getElem?_cons_succ, List.getElem?_cons_zero]; rfl) (by rfl) (by kernel_rfl) (by kernel_rfl) (by kernel_rfl) (fun _ _ _ _ h => h) rfl (by rfl) ?_
      apply Exists.intro
      apply And.intro
      · intro W hW
        first | (go_simp; with_reducible rfl) | go_simp
      (try simp only [Act.put, List.setIfInBounds_toArray]); (try simp only [List.set_cons_succ]); (try simp only [List.set_cons_zero])
      refine r_flt (RG_refl ad.block) 4 22 #[true, true, true, true, true, false, false, false, false, false, false, false, false] (by simp only [List.getElem?_toArray, List.getElem?_cons_succ, List.getElem?_cons_zero]; rfl) (by rfl) (by kernel_rfl) (by kernel_rfl) (by kernel_rfl) (fun _ _ _ _ h => h) rfl (by rfl) ?_
      apply Exists.intro
      apply And.intro
      · intro W hW
        have c := (hB1.mod hW hq1).cell 1
        simp at c
        go_simp; rfl
      (try simp only [Act.put, List.setIfInBounds_toArray]); (try simp only [List.set_cons_succ]); (try simp only [List.set_cons_zero])
      refine r_flt (RG_refl ad.block) 5 23 #[true, true, true, true, true, true, false, false, false, false, false, false, false] (by simp only [List.getElem?_toArray, List.getElem?_cons_succ, List.getElem?_cons_zero]; rfl) (by rfl) (by kernel_rfl) (by kernel_rfl) (by kernel_rfl) (fun _ _ _ _ h => h) rfl (by rfl) ?_
      apply Exists.intro
      apply And.intro
      · intro W hW
        first | (go_simp; with_reducible rfl) | go_simp
      (try simp only [Act.put, List.setIfInBounds_toArray]); (try simp only [List.set_cons_succ]); (try simp only [List.set_cons_zero])
      refine r_flt (RG_refl ad.block) 6 24 #[true, true, true, true, true, true, true, false, false, false, false, false, false] (by simp only [List.getElem?_toArray, List.getElem?_cons_succ, List.getElem?_cons_zero]; rfl) (by rfl) (by kernel_rfl) (by kernel_rfl) (by kernel_rfl) (fun _ _ _ _ h => h) rfl (by rfl) ?_
      apply Exists.intro
      apply And.intro
      · intro W hW
        go_simp; rfl
      (try simp only [Act.put, List.setIfInBounds_toArray]); (try simp only [List.set_cons_succ]); (try simp only [List.set_cons_zero])
      refine r_flt (RG_refl ad.block) 7 25 #[true, true, true, true, true, true, true, true, false, false, false, false, false] (by simp only [List.getElem?_toArray, List.getElem?_cons_succ, List.getElem?_cons_zero]; rfl) (by rfl) (by kernel_rfl) (by kernel_rfl) (by kernel_rfl) (fun _ _ _ _ h => h) rfl (by rfl) ?_
      apply Exists.intro
      apply And.intro
      · intro W hW
        first | (go_simp; with_reducible rfl) | go_simp
      (try simp only [Act.put, List.setIfInBounds_toArray]); (try simp only [List.set_cons_succ]); (try simp only [List.set_cons_zero])
      refine r_one (RG_trans ad.block) 8 (by kernel_rfl) ?_
      refine alt_val 26 #[true, true, true, true, true, true, true, true, true, false, false, false, false] (by simp only [List.getElem?_toArray, List.getElem?_cons_succ, List.getElem?_cons_zero]; rfl) (by rfl) rfl (by rfl) (by go_simp; first | exact ⟨rfl, rfl⟩ | rfl) ?_ ?_
      · exact RG_refl _ _
      (try simp only [Act.put, List.setIfInBounds_toArray]); (try simp only [List.set_cons_succ]); (try simp only [List.set_cons_zero])
      refine r_one (RG_trans ad.block) 9 (by kernel_rfl) ?_
      refine alt_call 27 #[true, true, true, true, true, true, true, true, true, true, false, false, false] (by simp only [List.getElem?_toArray, List.getElem?_cons_succ, List.getElem?_cons_zero]; rfl) (by rfl) rfl (by rfl) (by go_simp; first | exact ⟨rfl, rfl⟩ | rfl) ?_
      with_reducible refine (cloneD_any _ Ax cx x _ rx (by unfold big; omega)).mono ?_
      rintro e' w9 ⟨v9, rfl, o9, b9⟩
      obtain ⟨A9, c9, rfl, lx9, mx9⟩ := o9.form
      refine ⟨_, rfl, RG.of_below b9, ?_⟩
      obtain ⟨ad', hA', -, -, hcell9, hfr9, -, hset9⟩ := OwnCp.store (OwnC.below oS b9) hkS
      injection hA' with hA'
      subst hA'
      have hN := fun j s hj hs => (hN j s hj hs).below b9
      have mm := mm.thenB b9
      (try simp only [Act.put, List.setIfInBounds_toArray]); (try simp only [List.set_cons_succ]); (try simp only [List.set_cons_zero])
      refine r_flt (RG_refl ad.block) 10 28 #[true, true, true, true, true, true, true, true, true, true, true, false, false] (by simp only [List.getElem?_toArray, List.getElem?_cons_succ, List.getElem?_cons_zero]; rfl) (by rfl) (by kernel_rfl) (by kernel_rfl) (by kernel_rfl) (fun _ _ _ _ h => h) rfl (by rfl) ?_
      apply Exists.intro
      apply And.intro
      · intro W hW
        go_simp; rfl
      (try simp only [Act.put, List.setIfInBounds_toArray]); (try simp only [List.set_cons_succ]); (try simp only [List.set_cons_zero])
      refine r_flt (RG_refl ad.block) 11 29 #[true, true, true, true, true, true, true, true, true, true, true, true, false] (by simp only [List.getElem?_toArray, List.getElem?_cons_succ, List.getElem?_cons_zero]; rfl) (by rfl) (by kernel_rfl) (by kernel_rfl) (by kernel_rfl) (fun _ _ _ _ h => h) rfl (by rfl) ?_
      apply Exists.intro
      apply And.intro
      · intro W hW
        first | (go_simp; with_reducible rfl) | go_simp
      (try simp only [Act.put, List.setIfInBounds_toArray]); (try simp only [List.set_cons_succ]); (try simp only [List.set_cons_zero])
      refine r_one (RG_trans ad.block) 12 (by kernel_rfl) ?_
      refine alt_none #[true, true, true, true, true, true, true, true, true, true, true, true, true] (by simp only [List.getElem?_toArray, List.getElem?_cons_succ, List.getElem?_cons_zero]; rfl) (by rfl) rfl (by rfl) (by go_simp; first | exact ⟨rfl, rfl⟩ | rfl) ?_ ?_
      · exact mod_fld _ ad _ _ _
      (try simp only [Act.put, List.setIfInBounds_toArray]); (try simp only [List.set_cons_succ]); (try simp only [List.set_cons_zero])
      refine r_done (by kernel_rfl) ?_
      go_wp2_with fail
      go_roundw
      case rel =>
        have h9 := hset9 A9 x c9
        rw [hSk] at h9
        refine ⟨k + 1, S.set k ⟨L[k].id, A9, x, c9⟩, by omega, by go_num, by rw [List.length_set]; exact hSL.out, ?_, ?_, ?_, h9, mm.trans ((mod_fld _ ad _ _ _).mono fun i _ hi => by rw [hi]; exact HOB.out)⟩
        · rw [← hP]
          unfold pureC
          rw [List.map_set]
          apply List.ext_getElem?
          intro j
          rw [List.getElem?_set]
          split
          · rename_i hj
            subst hj
            rw [if_pos (by rw [List.length_map]; exact hkS), List.getElem?_map, List.getElem?_eq_getElem hkS, hSk]
            simp only [Option.map_some, hx.out]
          · rfl
        · intro j s hj hs
          rw [List.getElem?_set] at hs
          split at hs
          · rename_i hj
            subst hj
            simp only [Option.some.injEq] at hs
            subst hs
            refine ⟨Rd.mod (X := (· = ad.block)) (Rd.imp o9.rdG (D' := DC (w.heap.size + 2) (.slice (some ad) L.length c3) (.slice A1 d.length c1)) (fun b _ hb => ⟨by omega, fun e => ?_, fun e => ?_⟩) (by decide)) (mod_fld _ ad _ _ _) (fun b hb e => hb.2.1 (by rw [e]; exact HOB.out)), lx9, by unfold maxLen at mx9; exact mx9⟩
            · have := hobl b e
              omega
            · have := hdl b e
              omega
          · exact (hN j s (by omega) hs).mod (X := (· = ad.block)) (mod_fld _ ad _ _ _) (fun b hb e => hb.2.1 (by rw [e]; exact HOB.out))
        · intro j hj
          rw [List.getElem?_set, if_neg (by omega)]
          exact hO j (by omega)
      case measure => simp [intOf] <;> omega
    · obtain rfl : k = L.length := by omega
      go_wp2_with first
        | (with_reducible show wpList _ _ _ _ _ _
           refine wpList_load_row rfl 35 (.tmp 1) rfl w.heap.size rfl 35 _ (0, 0) _ hB1 Tryd.underlying35 rfl infoIm ?_)
        | (with_reducible show wpList _ _ _ _ _ _
           refine wpList_rowB rfl 35 (.tmp 2) (.tmp 31) rfl (w.heap.size + 1) 35 _ #[.slice A1 d.length c1, .slice A3 L.length c3, .int .i64 la] rfl rfl (hQ4.mod mm (fun e => by have := hq1 _ e; omega)) infoIm rfl (imA_ok ⟨A1, d, c1, A3, L, c3, la⟩) ?_
           intro w6 hq6 m6)
      (try simp only [Exit.inBlock, Exit.then])
      refine bodyPost_ret (results_cell1 rfl _ _ (w.heap.size + 1) _ _ (0, 0) _ rfl hq6 Tryd.underlying35 rfl infoIm) rfl ?_
      have hO : OwnIm wr (w.heap.size + 2) ⟨A1, d, c1, A3, S, c3, la⟩ := by
        refine ⟨?_, ?_, ?_, fun s hs => ?_⟩
        · dsimp only
          rw [hSL.out]; exact oS
        · dsimp only
          exact OwnB.mod r4 mm (fun b hb e => hne b e hb)
        · dsimp only
          rw [hSL.out]; exact hne
        · obtain ⟨j, hj, rfl⟩ := List.getElem_of_mem hs
          dsimp only
          rw [hSL.out]
          exact hN j _ (by rw [← hSL.out]; exact hj) (List.getElem?_eq_getElem hj)
      refine ⟨⟨A1, d, c1, A3, S, c3, la⟩, ?_, ?_, (hO.mod m6 fun i e => by omega).low (by omega), ((bb.thenM mm bb.size fun i hi e => by have := hq1 i e; omega).thenM m6 (by have := bb.size; have := mm.size; omega) fun i hi e => by omega)⟩
      · dsimp only
        rw [hSL.out]
      · rw [← hP]
end Go.Proofs.YthkeoimjjgmppaaDoor

/- slices.Delete of one copy, in a row of the call's own. -/
namespace Go.Proofs.YthkeoimjjgmppaaDoor
open Go.RowKit
set_option linter.unusedVariables false
set_option maxRecDepth 100000

theorem infoCp2 : (Tryd.prog.info? 71).map (·.size) = some 2 := by kernel_rfl
theorem erase_eq {α : Type} (L : List α) (k : Nat) : L.eraseIdx k = L.take k ++ L.drop (k + 1) := List.eraseIdx_eq_take_drop_succ L k
theorem cpF_parts (L : List CpV) (k : Nat) : flC cpC (L.take k) ++ flC cpC (L.drop k) = flC cpC L := by rw [← flC_app, List.take_append_drop]
theorem cpF_take (L : List CpV) (k : Nat) : flC cpC (L.take k) = (flC cpC L).take (k * 2) := by
  rcases Nat.lt_or_ge k L.length with h | h
  · have hl : (flC cpC (L.take k)).length = k * 2 := by rw [flC_len cpC_len, List.length_take, Nat.min_eq_left (Nat.le_of_lt h)]
    rw [← cpF_parts L k, ← hl, List.take_left]
  · rw [List.take_of_length_le h, List.take_of_length_le (by rw [flC_len cpC_len]; exact Nat.mul_le_mul_right _ h)]
theorem cpF_drop (L : List CpV) (k : Nat) (h : k ≤ L.length) : flC cpC (L.drop k) = (flC cpC L).drop (k * 2) := by
  have hl : (flC cpC (L.take k)).length = k * 2 := by rw [flC_len cpC_len, List.length_take, Nat.min_eq_left h]
  rw [← cpF_parts L k, ← hl, List.drop_left]
/-- The head part of a row of one's own is one. -/
theorem OwnCp.pre {w : World} {base n c : Nat} {A : Option Addr} {L : List CpV} (h : OwnCp w base (.slice A n c) L) {k : Nat} (hk : k ≤ L.length) (hA : A ≠ none) : OwnCp w base (.slice A k c) (L.take k) := by
  have hl : (L.take k).length = k := by rw [List.length_take, Nat.min_eq_left hk]
  refine ⟨by rw [flC_len cpC_len], ?_⟩
  rcases h.2 with ⟨hv, _⟩ | ⟨g, cap, cur, hv, hg, hh, hnc, hcm, hcs, htake⟩
  · injection hv with e; exact absurd e hA
  · injection hv with e1 e2 e3
    subst e1 e3
    refine .inr ⟨g, _, cur, by rw [hl], hg, hh, by rw [hl]; omega, hcm, hcs, ?_⟩
    rw [hl, cpF_take, ← htake, List.take_take, Nat.min_eq_left (Nat.mul_le_mul_right _ hk)]
theorem exec_appCp {ρ : Operand → Value} {o : Oper} {s x : Operand} {w w' : World} {v u v' : Value} (ho : o.op = .call { callee := .builtin .append, args := #[s, x], argTypes := #[33, 33] }) (hs : ρ s = v) (hx : ρ x = u)
    (hrun : (Builtin.append_ #[33, 33] o.type #[v, u]).run Tryd.prog w = .ok v' w') : (execOp ρ o).run Tryd.prog w = .ok (.value v') w' := by
  unfold execOp
  simp only [ho, resolve, invoke, builtin, Sem.run_bind, Sem.run_pure, Result.andThen_ok, List.map_toArray, List.map_cons, List.map_nil, hs, hx, hrun]
/-- clear of one snapshot in the row's block. -/
theorem run_clear1 (w : World) (ty : TypeId) (g o c : Nat) (cur : Array Value) (hg : Blk w g 71 cur) (ho : o + 2 ≤ cur.size) :
    ∃ w', (Builtin.clear_ #[33] ty #[.slice (some ⟨g, o, none⟩) 1 c]).run Tryd.prog w = .ok (.tuple #[]) w' ∧ Mod (· = g) w w' ∧ ∃ cur', Blk w' g 71 cur' ∧ cur'.size = cur.size ∧ cur'.toList.take o = cur.toList.take o := by
  have hz : ∀ w, (zeroValue 71).run Tryd.prog w = .ok (.agg #[.int .i64 0, .slice none 0 0]) w := fun _ => by kernel_rfl
  have hzc : (Builtin.zeroCells (Value.agg #[.int .i64 0, .slice none 0 0]).cells 1).toList = [.int .i64 0, .slice none 0 0] := by kernel_rfl
  have hst := run_storeCells_at Tryd.prog g o 71 [.int .i64 0, .slice none 0 0] 0 cur w hg (by simpa using ho) (by simp [Value.oneCell'])
  simp only [Nat.add_zero] at hst
  generalize hrow : (cur.toList.take o ++ [Value.int .i64 0, Value.slice none 0 0] ++ cur.toList.drop (o + [Value.int .i64 0, Value.slice none 0 0].length)).toArray = row at hst
  refine ⟨w.setRow g row, ?_, mod_setRow row, row, setRow_heap _ _ _ _ _ _ hg, ?_, ?_⟩
  · simp only [Builtin.clear_, List.getElem?_toArray, List.getElem?_cons_zero, run_underlying Tryd.underlying33, Sem.run_bind, Result.andThen_ok, hz, hzc, hst, Sem.run_pure]
  · rw [← hrow]
    simp only [List.size_toArray, List.length_append, List.length_take, List.length_drop, Array.length_toList, List.length_cons, List.length_nil]
    omega
  · rw [← hrow]
    simp only [List.append_assoc]
    rw [List.take_append_of_le_length (by rw [List.length_take, Array.length_toList]; omega), List.take_take, Nat.min_self]
theorem wpList_clearCp {w w' : World} {ops : Array Oper} {rest : List Oper} {o : Oper} {a : Act} {Q : Exit → Act → World → Prop} (hgd : o.guard = none) (x : Operand) (ho : o.op = .call { callee := .builtin .clear, args := #[x], argTypes := #[33] }) (u : Value) (hx : a.eval x = u)
    (hrun : (Builtin.clear_ #[33] o.type #[u]).run Tryd.prog w = .ok (.tuple #[]) w') (h : wpList Tryd.prog ops Q rest (a.put o.dst (.tuple #[])) w') : wpList Tryd.prog ops Q (o :: rest) a w := by
  refine wpList_plain hgd fun _ hK => ?_
  unfold Oper.wp execOp
  simp only [ho, resolve, invoke, builtin, Sem.run_bind, Sem.run_pure, Result.andThen_ok, List.map_toArray, List.map_cons, List.map_nil, hx, hrun]
  exact hK _ _ h
theorem infoCpI : ∃ i, Tryd.prog.info? 71 = some i ∧ i.size = 2 := by
  have h := infoCp2
  cases hq : Tryd.prog.info? 71 with
  | none => rw [hq] at h; cases h
  | some i => exact ⟨i, rfl, by rw [hq] at h; simpa using h⟩
/-- append(s[:k], s[k+1:]...): the run. -/
theorem run_shift (w : World) (ty : TypeId) (base g c k n : Nat) (L : List CpV) (h : OwnCp w base (.slice (some ⟨g, 0, none⟩) L.length c) L) (hn : L.length = n + 1) (hk : k ≤ n) :
    ∃ w', (Builtin.append_ #[33, 33] ty #[.slice (some ⟨g, 0, none⟩) k c, .slice (cutA (some ⟨g, 0, none⟩) (k + 1) c 2) (n - k) (c - (k + 1))]).run Tryd.prog w = .ok (.slice (some ⟨g, 0, none⟩) n c) w' ∧
      OwnCp w' base (.slice (some ⟨g, 0, none⟩) n c) (L.eraseIdx k) ∧ Mod (· = g) w w' := by
  obtain ⟨i, hi, hi2⟩ := infoCpI
  have hc : L.length ≤ c := by
    obtain ⟨A, c', e, h1, _⟩ := (OwnC.form h)
    injection e with _ _ e
    omega
  have hp := h.pre (k := k) (by omega) (by simp)
  have hl : (L.take k).length = k := by rw [List.length_take, Nat.min_eq_left (by omega)]
  have hr := Rd.cut (cap := c) (RdL.flatC cpC_len (OwnCp.rd h)) (k := k + 1) (by omega) hc
  have e0 : L.length - (k + 1) = n - k := by omega
  rw [e0] at hr
  obtain ⟨ad, had⟩ : ∃ ad, cutA (some ⟨g, 0, none⟩) (k + 1) c 2 = some ad := by
    unfold cutA
    split
    · exact ⟨_, rfl⟩
    · exact ⟨_, rfl⟩
  rw [had] at hr ⊢
  obtain ⟨w', h1, h2, h3⟩ := run_append_fits (P := Tryd.prog) w base 33 ty 71 i 2 Tryd.underlying33 hi hi2 g k c (flC cpC (L.take k)) (by unfold OwnCp OwnC at hp; rw [hl] at hp; exact hp) ad (n - k) (c - (k + 1)) ((flC cpC L).drop ((k + 1) * 2))
    hr.1 (fun j u hu => by
      rcases Nat.eq_zero_or_pos (n - k) with h0 | h0
      · have := (List.getElem?_eq_some_iff.1 hu).1
        rw [hr.1, h0] at this
        omega
      · obtain ⟨ad', e, _, hcell⟩ := hr.2 h0
        injection e with e
        subst e
        exact hcell j u hu) (fun u hu => flC_one cpC_one L u (List.mem_of_mem_drop hu)) (by omega)
  have e1 : k + (n - k) = n := by omega
  have e2 : flC cpC (L.take k) ++ (flC cpC L).drop ((k + 1) * 2) = flC cpC (L.eraseIdx k) := by rw [erase_eq, flC_app, cpF_drop L (k + 1) (by omega)]
  have e3 : (L.eraseIdx k).length = n := by rw [List.length_eraseIdx]; rw [if_pos (by omega)]; omega
  rw [e1, e2] at h2
  rw [e1] at h1
  refine ⟨w', h1, by unfold OwnCp OwnC; rw [e3]; exact h2, Mod.of_grown h3 fun k hk => .inl (by injection hk with hk; exact hk.symm)⟩

set_option maxHeartbeats 4000000 in
set_option maxRecDepth 100000 in
theorem delete_any (base : Nat) (A : Option Addr) (L : List CpV) (c k : Nat) (w : World) (h : OwnCp w base (.slice A L.length c) L) (hk : k < L.length) (hL : L.length ≤ 1000) :
    Calls Tryd.prog 58 #[.slice A L.length c, .int .i64 (k : Int), .int .i64 ((k : Int) + 1)] w fun e w' => ∃ n, n + 1 = L.length ∧ e = .returned (.slice A n c) ∧ OwnCp w' base (.slice A n c) (L.eraseIdx k) ∧ Mod (fun b => (Value.slice A L.length c).ownBlock = some b) w w' := by
  obtain ⟨A0, c', e, hc, hcm⟩ := (OwnC.form h)
  injection e with e1 _ e2
  subst e1 e2
  obtain ⟨ad, rfl, -⟩ := (OwnCp.rd h) (by omega)
  obtain ⟨g, rfl⟩ : ∃ g, ad = ⟨g, 0, none⟩ := by
    rcases h.2 with ⟨hv, _⟩ | ⟨g, cap, cur, hv, _⟩
    · cases hv
    · injection hv with e
      injection e with e
      exact ⟨g, e⟩
  obtain ⟨n, hn⟩ : ∃ n, L.length = n + 1 := ⟨L.length - 1, by omega⟩
  have HN := Lib.hid hn
  have hkn : k ≤ n := by omega
  have hn1 : n ≤ 1000 := by omega
  have hnc : n + 1 ≤ c := by omega
  have hcm' : c ≤ 9223372036854775807 := by unfold maxLen at hcm; exact hcm
  have i1 : ((k : Int) + 1) ≤ ((n + 1 : Nat) : Int) := by omega
  have i2 : (k : Int) ≤ (k : Int) + 1 := by omega
  have i4 : k ≤ c := by omega
  have i6 : (0 : Int) ≤ (k : Int) + 1 := by omega
  have i3 : ((k : Int) == (k : Int) + 1) = false := by simp; omega
  rw [hn]
  clear hk hL hn hcm hc
  go_enter Tryd.func58, Tryd.ntmps58
  go_wp2_with fail
  refine r_start (R := RG g) (by rfl) (n := 8) (L := #[false, false, false, false, false, false, false, false]) rfl rfl ?_
  have bd : Below w.heap.size w w.drew := (Below.refl _ _).drew
  have h := OwnC.below h bd
  generalize w.drew = wd at *
  refine r_flt (RG_refl g) 0 20 #[true, false, false, false, false, false, false, false] (by simp only [List.getElem?_toArray, List.getElem?_cons_zero]; rfl) (by rfl) (by kernel_rfl) (by kernel_rfl) (by kernel_rfl) (fun _ _ _ _ h => h) rfl (by rfl) ?_
  apply Exists.intro
  apply And.intro
  · intro W hW
    first | (go_simp; with_reducible rfl) | go_simp
  (try simp only [Act.put, List.setIfInBounds_toArray]); (try simp only [List.set_cons_succ]); (try simp only [List.set_cons_zero])
  refine r_flt (RG_refl g) 1 21 #[true, true, false, false, false, false, false, false] (by simp only [List.getElem?_toArray, List.getElem?_cons_succ, List.getElem?_cons_zero]; rfl) (by rfl) (by kernel_rfl) (by kernel_rfl) (by kernel_rfl) (fun _ _ _ _ h => h) rfl (by rfl) ?_
  apply Exists.intro
  apply And.intro
  · intro W hW
    first | (go_simp; with_reducible rfl) | go_simp
  (try simp only [Act.put, List.setIfInBounds_toArray]); (try simp only [List.set_cons_succ]); (try simp only [List.set_cons_zero])
  refine r_flt (RG_refl g) 2 22 #[true, true, true, false, false, false, false, false] (by simp only [List.getElem?_toArray, List.getElem?_cons_succ, List.getElem?_cons_zero]; rfl) (by rfl) (by kernel_rfl) (by kernel_rfl) (by kernel_rfl) (fun _ _ _ _ h => h) rfl (by rfl) ?_
  apply Exists.intro
  apply And.intro
  · intro W hW
    first | (go_simp; with_reducible rfl) | go_simp
  (try simp only [Act.put, List.setIfInBounds_toArray]); (try simp only [List.set_cons_succ]); (try simp only [List.set_cons_zero])
  refine r_flt (RG_refl g) 3 23 #[true, true, true, true, false, false, false, false] (by simp only [List.getElem?_toArray, List.getElem?_cons_succ, List.getElem?_cons_zero]; rfl) (by rfl) (by kernel_rfl) (by kernel_rfl) (by kernel_rfl) (fun _ _ _ _ h => h) rfl (by rfl) ?_
  apply Exists.intro
  apply And.intro
  · intro W hW
    first | (go_simp; with_reducible rfl) | go_simp
  (try simp only [Act.put, List.setIfInBounds_toArray]); (try simp only [List.set_cons_succ]); (try simp only [List.set_cons_zero])
  refine r_flt (RG_refl g) 4 24 #[true, true, true, true, true, false, false, false] (by simp only [List.getElem?_toArray, List.getElem?_cons_succ, List.getElem?_cons_zero]; rfl) (by rfl) (by kernel_rfl) (by kernel_rfl) (by kernel_rfl) (fun _ _ _ _ h => h) rfl (by rfl) ?_
  apply Exists.intro
  apply And.intro
  · intro W hW
    first | (go_simp; with_reducible rfl) | go_simp
  (try simp only [Act.put, List.setIfInBounds_toArray]); (try simp only [List.set_cons_succ]); (try simp only [List.set_cons_zero])
  refine r_flt (RG_refl g) 5 25 #[true, true, true, true, true, true, false, false] (by simp only [List.getElem?_toArray, List.getElem?_cons_succ, List.getElem?_cons_zero]; rfl) (by rfl) (by kernel_rfl) (by kernel_rfl) (by kernel_rfl) (fun _ _ _ _ h => h) rfl (by rfl) ?_
  apply Exists.intro
  apply And.intro
  · intro W hW
    first | (go_simp; with_reducible rfl) | go_simp
  (try simp only [Act.put, List.setIfInBounds_toArray]); (try simp only [List.set_cons_succ]); (try simp only [List.set_cons_zero])
  refine r_one (RG_trans g) 6 (by kernel_rfl) ?_
  obtain ⟨w2, hrun, o2, m2⟩ := run_shift wd 33 base g c k n L h HN.out hkn
  refine alt_val 26 #[true, true, true, true, true, true, true, false] (by simp only [List.getElem?_toArray, List.getElem?_cons_succ, List.getElem?_cons_zero]; rfl) (by rfl) rfl (by rfl) (exec_appCp rfl rfl rfl hrun) ?_ ?_
  · exact m2
  (try simp only [Act.put, List.setIfInBounds_toArray]); (try simp only [List.set_cons_succ]); (try simp only [List.set_cons_zero])
  refine r_flt (RG_refl g) 7 0 #[true, true, true, true, true, true, true, true] (by simp only [List.getElem?_toArray, List.getElem?_cons_succ, List.getElem?_cons_zero]; rfl) (by rfl) (by kernel_rfl) (by kernel_rfl) (by kernel_rfl) (fun _ _ _ _ h => h) rfl (by rfl) ?_
  apply Exists.intro
  apply And.intro
  · intro W hW
    first | (go_simp; with_reducible rfl) | go_simp
  (try simp only [Act.put, List.setIfInBounds_toArray]); (try simp only [List.set_cons_succ]); (try simp only [List.set_cons_zero])
  refine r_done (by kernel_rfl) ?_
  have hB2 : ∃ cur, Blk w2 g 71 cur ∧ cur.size = c * 2 ∧ cur.toList.take (n * 2) = flC cpC (L.eraseIdx k) := by
    have e3 : (L.eraseIdx k).length = n := by rw [List.length_eraseIdx, if_pos (by have := HN.out; omega)]; have := HN.out; omega
    rcases o2.2 with ⟨hv, _⟩ | ⟨g', cap, cur, hv, _, hg, _, _, hcs, ht⟩
    · cases hv
    · injection hv with ea _ ec
      injection ea with ea
      injection ea with ea _ _
      subst ea ec
      rw [e3] at ht
      exact ⟨cur, hg, hcs, ht⟩
  obtain ⟨cur, hB2, hcs, hct⟩ := hB2
  obtain ⟨w3, hcl, m3, cur3, hB3, hs3, ht3⟩ := run_clear1 w2 0 g (n * 2) (c - n) cur hB2 (by omega)
  have hcut : cutA (some ⟨g, 0, none⟩) n c 2 = some ⟨g, n * 2, none⟩ := by
    unfold cutA
    rw [if_neg (by omega)]
    simp only [Option.map_some, add_head]
  rw [← hcut] at hcl
  have hsub : n + 1 - n = 1 := by omega
  have i5 : (n : Int) ≤ (n : Int) + 1 := by omega
  clear hcut
  have HS3 := Lib.hid hs3
  clear hs3 hct hcs
  go_wp2_with fail
  go_ret
  refine ⟨n, rfl, rfl, ?_, (((Mod.of_below bd (· = g)).trans m2).trans m3).mono fun i _ hi => by rw [hi]; rfl⟩
  refine ⟨by rw [flC_len cpC_len], ?_⟩
  rcases o2.2 with ⟨hv, _⟩ | ⟨g', cap, cur', hv, hg, hh, hnc', hcm2, hcs', ht⟩
  · cases hv
  · injection hv with ea _ ec
    injection ea with ea
    injection ea with ea _ _
    subst ea ec
    have e3 : (L.eraseIdx k).length = n := by rw [List.length_eraseIdx, if_pos (by have := HN.out; omega)]; have := HN.out; omega
    have ecur : cur = cur' := by
      have := hB2.symm.trans hh
      injection this with this
      injection this
    subst ecur
    refine .inr ⟨g, c, cur3, by rw [e3], hg, hB3, hnc', hcm2, by rw [HS3.out]; exact hcs', ?_⟩
    rw [e3] at ht ⊢
    rw [ht3]
    exact ht
end Go.Proofs.YthkeoimjjgmppaaDoor
