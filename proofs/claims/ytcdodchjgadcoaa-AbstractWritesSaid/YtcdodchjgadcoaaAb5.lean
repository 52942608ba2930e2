/- Rows of copies of the call's own: clones, an append, a store; an image of one's own; a new image. -/
import Derived.Test.YtcdodchjgadcoaaAb4
namespace Go.Proofs.Ytcdodchjgadcoaa
open Go.RowKit
set_option linter.unusedVariables false

section
variable {α : Type} {C : α → List Value} {k : Nat}
theorem flC_inv (hk : ∀ x, (C x).length = k) : ∀ (L : List α) (j : Nat) (u : Value), (flC C L)[j]? = some u → ∃ i s r, j = i * k + r ∧ L[i]? = some s ∧ (C s)[r]? = some u
  | [], j, u, h => by simp [flC] at h
  | x :: L, j, u, h => by
    have e : flC C (x :: L) = C x ++ flC C L := by unfold flC; rw [List.flatMap_cons]
    rw [e, List.getElem?_append] at h
    split at h
    · exact ⟨0, x, j, by omega, rfl, h⟩
    · rename_i hj
      obtain ⟨i, s, r, hjr, hs, hu⟩ := flC_inv hk L _ u h
      have hl := hk x
      exact ⟨i + 1, s, r, by rw [Nat.succ_mul]; omega, by simpa using hs, hu⟩
theorem RdL.flatC {w : World} {D : Nat → Prop} {A : Option Addr} {L : List α} (hk : ∀ x, (C x).length = k) (h : RdL w D k C A L) : Rd w D k A L.length (flC C L) := by
  refine ⟨flC_len hk L, fun hn => ?_⟩
  obtain ⟨ad, e, hb, hc⟩ := h hn
  refine ⟨ad, e, hb, fun j u hu => ?_⟩
  obtain ⟨i, s, r, rfl, hs, hr⟩ := flC_inv hk L j u hu
  exact hc i s hs r u hr
end
theorem OwnB.mod {X : Nat → Prop} {w w' : World} {base : Nat} {v : Value} {bs : List UInt8} (h : OwnB w base v bs) (hb : Mod X w w') (hx : ∀ j, v.ownBlock = some j → ¬ X j) : OwnB w' base v bs := by
  refine ⟨h.1, ?_⟩
  rcases h.2 with h0 | ⟨g, cap, cur, rfl, hg, hh, r⟩
  · exact .inl h0
  · exact .inr ⟨g, cap, cur, rfl, hg, by rw [hb.block g (Array.getElem?_eq_some_iff.1 hh).1 (hx g rfl)]; exact hh, r⟩

def OwnCp (w : World) (base : Nat) (v : Value) (L : List CpV) : Prop := OwnC 47 2 cpC w base v L
theorem OwnCp.rd {w : World} {base n c : Nat} {A : Option Addr} {L : List CpV} (h : OwnCp w base (.slice A n c) L) : RdL w (fun b => base ≤ b ∧ (Value.slice A n c).ownBlock = some b) 2 cpC A L := OwnC.rd cpC_len h
@[go_sem] theorem eqCp_nil (w : World) (A : Option Addr) (n c : Nat) : (binOp .eql 23 (.slice A n c) (.slice none 0 0)).run Try.prog w = .ok (.bool A.isNone) w := Lib.run_eql_slice_nil w _ 47 A n c 0 0 Try.underlying23
section
variable {w : World} {ops : Array Oper} {rest : List Oper} {o : Oper} {a : Act} {Q : Exit → Act → World → Prop}
theorem wpList_appCp (hgd : o.guard = none) (s x : Operand) (ho : o.op = .call { callee := .builtin .append, args := #[s, x], argTypes := #[23, 23] })
    (base : Nat) (v : Value) (L news : List CpV) (hs : a.eval s = v) (hown : OwnCp w base v L)
    (D : Nat → Prop) (A : Option Addr) (n c : Nat) (hx : a.eval x = .slice A n c) (hn : n = news.length) (hr : Rd w D 2 A n (flC cpC news))
    (hlen : L.length + news.length ≤ 1000000) (hbase : base ≤ w.heap.size)
    (h : ∀ v' w', OwnCp w' base v' (L ++ news) → Ext w w' v v' → wpList Try.prog ops Q rest (a.put o.dst v') w') :
    wpList Try.prog ops Q (o :: rest) a w := by
  subst hn
  refine wpList_plain hgd fun _ hK => wp_app s x _ ho base 47 _ 2 32 Try.underlying23 infoCp rfl (by decide) v _ _ hs hown D A _ c _ hx hr (flC_one cpC_one news) ?_ ?_ hbase fun v' w' h2 h3 h4 => hK _ _ (h v' w' ?_ ⟨h3, h4.imp id fun e k hk => by rw [e] at hk; injection hk with hk; omega⟩)
  · unfold maxLen; omega
  · omega
  · unfold OwnCp OwnC
    rw [List.length_append, flC_app]
    exact h2
end
theorem own_litCp (w : World) (base : Nat) (hb : base ≤ w.heap.size) : OwnCp (w.alloc (.cells #[] 47)) base (.slice (some ⟨w.heap.size, 0, none⟩) 0 0) [] :=
  World.ownsRow_lit (base := base) (e := 47) (size := 2) w #[] 0 hb (by simp) (by simp)
theorem cloneCp_any (D : Nat → Prop) (A : Option Addr) (c : Nat) (L : List CpV) (w : World) (h : RdL w D 2 cpC A L) (hl : L.length ≤ 1000) :
    Calls Try.prog 48 #[.slice A L.length c] w fun e w' => ∃ v, e = .returned v ∧ OwnCp w' w.heap.size v L ∧ Below w.heap.size w w' := by
  rcases A with _ | ad
  · have hz : L = [] := by
      rcases Nat.eq_zero_or_pos L.length with h0 | h0
      · exact List.eq_nil_of_length_eq_zero h0
      · obtain ⟨ad, h, _⟩ := h h0
        cases h
    subst hz
    go_enter Try.func48, Try.ntmps48
    go_wp2
    go_ret
    exact ⟨_, rfl, OwnC.nil, Below.refl _ _⟩
  · have hem := own_litCp w w.heap.size (Nat.le_refl _)
    have hf := (h.flatC cpC_len).alloc (.cells #[] 47)
    go_enter Try.func48, Try.ntmps48
    go_wp2_with (at_builtin; refine wpList_appCp rfl (.tmp 5) (.tmp 6) rfl w.heap.size (.slice (some ⟨w.heap.size, 0, none⟩) 0 0) [] L rfl hem D _ _ c rfl rfl hf (by simp only [List.length_nil]; omega) (by simp) ?_; intro v' w' h1 h2)
    go_ret
    exact ⟨_, rfl, h1, below_app ((Below.refl _ _).alloc (Nat.le_refl _) _) hem h2.grown (Nat.le_refl _) (by simp)⟩
theorem cloneD_any (D : Nat → Prop) (A : Option Addr) (c : Nat) (bs : List UInt8) (w : World) (h : RdB w D A bs) (hl : bs.length ≤ big) :
    Calls Try.prog 28 #[.slice A bs.length c] w fun e w' => ∃ v, e = .returned v ∧ OwnB w' w.heap.size v bs ∧ Below w.heap.size w w' := by
  rcases A with _ | ad
  · have hz : bs = [] := by
      rcases Nat.eq_zero_or_pos bs.length with h0 | h0
      · exact List.eq_nil_of_length_eq_zero h0
      · obtain ⟨ad, h, _⟩ := h.2 h0
        cases h
    subst hz
    go_enter Try.func28, Try.ntmps28
    go_wp2
    go_ret
    exact ⟨_, rfl, OwnB.nil, Below.refl _ _⟩
  · have hem : OwnB (w.alloc (.cells #[] 5)) w.heap.size (.slice (some ⟨w.heap.size, 0, none⟩) 0 0) [] := own_lit w _ [] _ (Nat.le_refl _) (by simp)
    go_enter Try.func28, Try.ntmps28
    go_wp2_with (at_builtin; refine wpList_appB rfl (.tmp 5) (.tmp 6) rfl w.heap.size (.slice (some ⟨w.heap.size, 0, none⟩) 0 0) [] rfl hem D _ _ c bs rfl rfl (Rd.alloc h _) (by simpa using hl) (by simp) ?_; intro v' w' h1 h2)
    go_ret
    exact ⟨_, rfl, h1, below_app ((Below.refl _ _).alloc (Nat.le_refl _) _) hem h2.grown (Nat.le_refl _) (by simp)⟩

theorem cpF_set : ∀ (L : List CpV) (k : Nat) (hk : k < L.length) (A : Option Addr) (m : List UInt8) (c : Nat), flC cpC (L.set k ⟨L[k].id, A, m, c⟩) = (flC cpC L).set (k * 2 + 1) (.slice A m.length c)
  | x :: L, 0, _, A, m, c => by
    unfold flC
    simp [List.flatMap_cons, cpC]
  | x :: L, k + 1, hk, A, m, c => by
    have := cpF_set L k (by simpa using hk) A m c
    unfold flC at this ⊢
    rw [List.set_cons_succ, List.flatMap_cons, List.flatMap_cons]
    simp only [List.getElem_cons_succ]
    rw [this, List.set_append, if_neg (by simp [cpC]; omega)]
    congr 2
    simp [cpC]; omega
/-- What a store into a copy's bytes wants and leaves. -/
theorem OwnCp.store {w : World} {base n c : Nat} {A : Option Addr} {L : List CpV} (h : OwnCp w base (.slice A n c) L) {k : Nat} (hk : k < L.length) : ∃ ad, A = some ad ∧ base ≤ ad.block ∧ (Value.slice A n c).ownBlock = some ad.block ∧
    w.cell? ⟨(ad.add (k * 2)).block, (ad.add (k * 2)).off + 1, none⟩ = some (.slice L[k].A L[k].m.length L[k].c) ∧ w.frozen? ⟨(ad.add (k * 2)).block, (ad.add (k * 2)).off + 1, none⟩ = false ∧ (ad.add (k * 2)).block = ad.block ∧
    ∀ A' m c', OwnCp (w.setCell ⟨(ad.add (k * 2)).block, (ad.add (k * 2)).off + 1, none⟩ (.slice A' m.length c')) base (.slice A n c) (L.set k ⟨L[k].id, A', m, c'⟩) := by
  have hl := flC_len cpC_len L
  rcases h.2 with ⟨_, h0⟩ | ⟨g, cap, cur, hv, hg, hh, hnc, hcm, hcs, htake⟩
  · omega
  · have hB : Blk w g 47 cur := hh
    have h2 := flC_at cpC_len L k L[k] (List.getElem?_eq_getElem hk) 1 _ rfl
    rw [← htake, List.getElem?_take, if_pos (by omega)] at h2
    have e : (⟨((⟨g, 0, none⟩ : Addr).add (k * 2)).block, ((⟨g, 0, none⟩ : Addr).add (k * 2)).off + 1, none⟩ : Addr) = ⟨g, k * 2 + 1, none⟩ := by rw [add_head]
    injection hv with hA hn hc
    subst hA hn hc
    refine ⟨⟨g, 0, none⟩, rfl, hg, rfl, ?_, ?_, by rw [add_head], fun A' m c' => ?_⟩
    · rw [e, hB.cell, ← h2]; simp
    · rw [e]; exact hB.frozen _
    · rw [e]
      refine ⟨by rw [flC_len cpC_len], .inr ⟨g, c, cur.setIfInBounds (k * 2 + 1) (.slice A' m.length c'), by rw [List.length_set], hg, hB.set_ _ _, by rw [List.length_set]; exact hnc, hcm, by rw [Array.size_setIfInBounds]; exact hcs, ?_⟩⟩
      rw [cpF_set L k hk, ← htake, List.length_set, Array.toList_setIfInBounds, List.take_set]
/-- An image whose memory is the call's own. -/
structure OwnIm (w : World) (B : Nat) (i : ImV) : Prop where
  own : OwnCp w B (.slice i.CA i.S.length i.cc) i.S
  dat : OwnB w B (.slice i.DA i.d.length i.dc) i.d
  ne : ∀ b, (Value.slice i.CA i.S.length i.cc).ownBlock = some b → (Value.slice i.DA i.d.length i.dc).ownBlock ≠ some b
  cp : ∀ s ∈ i.S, CpR w (fun b => B ≤ b ∧ (Value.slice i.CA i.S.length i.cc).ownBlock ≠ some b ∧ (Value.slice i.DA i.d.length i.dc).ownBlock ≠ some b) s
section
variable {w w' : World} {B B' : Nat} {i : ImV}
theorem OwnIm.below (k : OwnIm w B i) (b : Below w.heap.size w w') : OwnIm w' B i := ⟨OwnC.below k.own b, OwnB.below k.dat b, k.ne, fun s hs => (k.cp s hs).below b⟩
theorem OwnIm.low (k : OwnIm w B i) (b : B' ≤ B) : OwnIm w B' i := ⟨OwnC.low k.own b, OwnB.low k.dat b, k.ne, fun s hs => (k.cp s hs).imp fun j _ hj => ⟨Nat.le_trans b hj.1, hj.2⟩⟩
theorem OwnIm.mod {X : Nat → Prop} (k : OwnIm w B i) (m : Mod X w w') (hX : ∀ j, X j → j < B) : OwnIm w' B i :=
  ⟨OwnC.mod k.own m fun j hj hx => by have := (k.own.lt j hj).1; have := hX j hx; omega, OwnB.mod k.dat m fun j hj hx => by have := (k.dat.lt j hj).1; have := hX j hx; omega, k.ne,
    fun s hs => (k.cp s hs).mod m fun j hj hx => by have := hj.1; have := hX j hx; omega⟩
theorem OwnIm.rd (k : OwnIm w B i) : ImR w (fun b => B ≤ b) i := by
  obtain ⟨A, c, e, h1, h2⟩ := OwnC.form k.own
  injection e with _ _ e
  obtain ⟨A', c', e', h1', h2'⟩ := OwnB.form k.dat
  injection e' with _ _ e'
  exact ⟨k.dat.rdG, by rw [e']; exact h1', by rw [e']; unfold maxLen at h2'; exact h2', (k.own.rd).imp cpC_pos fun b _ hb => hb.1, by rw [e]; exact h1, by rw [e]; unfold maxLen at h2; exact h2, fun s hs => (k.cp s hs).imp fun _ _ hb => hb.1⟩
theorem OwnIm.zero : OwnIm w B ⟨none, [], 0, none, [], 0, 0⟩ := ⟨OwnC.nil, OwnB.nil, fun b h => by simp [Value.ownBlock] at h, fun s hs => by simp at hs⟩
end
/-! ### a new image -/
def newN (z : Int) : Nat := (min (max z 0) 512).toNat
theorem newN_eq (z : Int) : (newN z : Int) = min (max z 0) 512 ∧ newN z ≤ 512 := by unfold newN; omega
def newP (z : Int) : PI := ⟨List.replicate (newN z) 0, [], 0⟩
theorem results_cell1 {P : Program} {fn : Func} {p : Tmp} {ty : TypeId} (h : fn.results = #[.cell p ty]) (tmps : Array Value) (w : World) (g : Nat) (T : TypeId) (cs : Array Value) (fr : Nat × Nat) (d : TypeDesc)
    (hp : tmps.getD p undef = .pointer (some ⟨g, 0, none⟩)) (hg : w.heap[g]? = some (.cells cs T fr))
    (hu : P.underlying ty = some d) (hd : (match d with | .struct _ | .array _ _ => true | _ => false) = true) (hi : (P.info? ty).map (·.size) = some cs.size) :
    (results fn tmps).run P w = .ok (.agg cs) w := by
  have hp' : tmps[p]?.getD undef = .pointer (some ⟨g, 0, none⟩) := by simpa using hp
  simp [results, h, hp', asAddr, run_loadVar_row w g T ty cs fr d hg hu hd hi]
theorem rowCp_new {w w' : World} {n : Nat} (o : OwnB w' w.heap.size (.slice (some ⟨w.heap.size, 0, none⟩) n n) (List.replicate n 0)) : OwnIm w' w.heap.size ⟨some ⟨w.heap.size, 0, none⟩, List.replicate n 0, n, none, [], 0, 0⟩ :=
  ⟨OwnC.nil, by rw [List.length_replicate]; exact o, fun b h => by simp [Value.ownBlock] at h, fun s hs => by simp at hs⟩
end Go.Proofs.Ytcdodchjgadcoaa
