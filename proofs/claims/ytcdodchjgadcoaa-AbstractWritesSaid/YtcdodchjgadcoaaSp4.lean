/- Rows of spans and of ends in memory. -/
import Derived.Test.YtcdodchjgadcoaaElems
import Derived.Test.YtcdodchjgadcoaaBlksB
import Derived.Test.YtcdodchjgadcoaaLaws
import Derived.Test.YtcdodchjgadcoaaSp3
namespace Go.Proofs.Ytcdodchjgadcoaa
open Go.RowKit
set_option linter.unusedVariables false

/-! ### rows of elements of k one-cell fields, of the call's own -/
section
variable {α : Type} {C : α → List Value} {k : Nat}
def flC (C : α → List Value) (L : List α) : List Value := L.flatMap C
theorem flC_len (hk : ∀ x, (C x).length = k) (L : List α) : (flC C L).length = L.length * k := by
  unfold flC
  induction L with
  | nil => simp
  | cons s L ih => rw [List.flatMap_cons, List.length_append, ih, List.length_cons, hk, Nat.succ_mul]; omega
theorem flC_one (h1 : ∀ x, ∀ v ∈ C x, v.oneCell' = true) (L : List α) : ∀ v ∈ flC C L, v.oneCell' = true := by
  intro v hv
  obtain ⟨s, _, hs⟩ := List.mem_flatMap.1 hv
  exact h1 s v hs
theorem flC_at (hk : ∀ x, (C x).length = k) : ∀ (L : List α) (i : Nat) (s : α), L[i]? = some s → ∀ (j : Nat) (v : Value), (C s)[j]? = some v → (flC C L)[i * k + j]? = some v
  | [], i, s, h, j, v, hv => by simp at h
  | x :: L, 0, s, h, j, v, hv => by
    obtain rfl : x = s := by simpa using h
    have hj : j < (C x).length := (List.getElem?_eq_some_iff.1 hv).1
    unfold flC
    rw [List.flatMap_cons, Nat.zero_mul, Nat.zero_add, List.getElem?_append_left hj]
    exact hv
  | x :: L, i + 1, s, h, j, v, hv => by
    have h' : L[i]? = some s := by simpa using h
    unfold flC
    have e := hk x
    rw [List.flatMap_cons, List.getElem?_append_right (by rw [e, Nat.succ_mul]; omega), show (i + 1) * k + j - (C x).length = i * k + j by rw [e, Nat.succ_mul]; omega]
    exact flC_at hk L i s h' j v hv
theorem flC_app (a b : List α) : flC C (a ++ b) = flC C a ++ flC C b := by unfold flC; rw [List.flatMap_append]
theorem flC_single (s : α) : flC C [s] = C s := by unfold flC; simp
/-- A row of the call's own. -/
def OwnC (T : TypeId) (k : Nat) (C : α → List Value) (w : World) (base : Nat) (v : Value) (L : List α) : Prop := w.ownsRow base T k v L.length (flC C L)
variable {T : TypeId} {w w' : World} {base : Nat} {v : Value} {L : List α}
theorem OwnC.nil : OwnC T k C w base (.slice none 0 0) [] := World.ownsRow_nil _ _ _ _
theorem OwnC.form (h : OwnC T k C w base v L) : ∃ A c, v = .slice A L.length c ∧ L.length ≤ c ∧ c ≤ maxLen := own_form h
theorem OwnC.form' (h : OwnC T k C w base v L) : ∃ A n c, v = .slice A n c ∧ Hid (n = L.length) ∧ n ≤ c ∧ c ≤ maxLen := by
  obtain ⟨A, c, rfl, h1, h2⟩ := h.form
  exact ⟨A, _, c, rfl, Lib.hid rfl, h1, h2⟩
theorem OwnC.below (h : OwnC T k C w base v L) (hb : Below w.heap.size w w') : OwnC T k C w' base v L := own_below h hb
theorem OwnC.low {base' : Nat} (h : OwnC T k C w base v L) (hb : base' ≤ base) : OwnC T k C w base' v L := own_base h hb
theorem OwnC.mod {X : Nat → Prop} (h : OwnC T k C w base v L) (hb : Mod X w w') (hx : ∀ j, v.ownBlock = some j → ¬ X j) : OwnC T k C w' base v L := by
  refine ⟨h.1, ?_⟩
  rcases h.2 with h0 | ⟨g, cap, cur, rfl, hg, hh, r⟩
  · exact .inl h0
  · exact .inr ⟨g, cap, cur, rfl, hg, by rw [hb.block g (Array.getElem?_eq_some_iff.1 hh).1 (hx g rfl)]; exact hh, r⟩
theorem OwnC.rd (hk : ∀ x, (C x).length = k) {A : Option Addr} {n c : Nat} (h : OwnC T k C w base (.slice A n c) L) : RdL w (fun b => base ≤ b ∧ (Value.slice A n c).ownBlock = some b) k C A L := by
  intro hn
  rcases h.2 with ⟨_, h0⟩ | ⟨g, cap, cur, hv, hg, hh, hnc, hcm, hcs, htake⟩
  · omega
  · injection hv with hA _ _
    subst hA
    refine ⟨_, rfl, ⟨hg, rfl⟩, fun i s hs j u hu => ?_⟩
    have h1 := flC_at hk L i s hs j u hu
    have hlt := (List.getElem?_eq_some_iff.1 h1).1
    rw [flC_len hk] at hlt
    rw [← htake, List.getElem?_take, if_pos (by omega)] at h1
    rw [add_head, (show Blk w g _ cur from hh).cell]
    rw [← h1]; simp
theorem RdL.imp (hC : ∀ x, 0 < (C x).length) {D D' : Nat → Prop} {A : Option Addr} (h : RdL w D k C A L) (hd : ∀ b, b < w.heap.size → D b → D' b) : RdL w D' k C A L := fun hn => by
  obtain ⟨ad, e, hb, hc⟩ := h hn
  refine ⟨ad, e, hd _ ?_ hb, hc⟩
  have h1 := hc 0 L[0] (List.getElem?_eq_getElem hn) 0 _ (List.getElem?_eq_getElem (hC _))
  have := World.block_lt_of_cell? w _ h1
  rwa [block_of_add] at this
end
theorem add_at (a : Addr) (n j : Nat) : a.add (n + (j + 1)) = ⟨(a.add n).block, (a.add n).off + (j + 1), none⟩ := by
  rw [← add_of_add]
  generalize a.add n = b
  unfold Addr.add
  rw [if_neg (by omega)]

/-! ### spans -/
def spC (s : Sp) : List Value := [.int .i64 s.1, .int .i64 s.2]
theorem spC_len (s : Sp) : (spC s).length = 2 := rfl
theorem spC_one (s : Sp) : ∀ v ∈ spC s, v.oneCell' = true := by
  intro v hv
  simp only [spC, List.mem_cons, List.not_mem_nil, or_false] at hv
  rcases hv with rfl | rfl <;> rfl
def RdSp (w : World) (D : Nat → Prop) (A : Option Addr) (L : List Sp) : Prop := RdL w D 2 spC A L
def OwnSp (w : World) (base : Nat) (v : Value) (L : List Sp) : Prop := OwnC 53 2 spC w base v L
theorem RdSp.at_ {w : World} {D : Nat → Prop} {A : Option Addr} {L : List Sp} (h : RdSp w D A L) {i : Nat} (hi : i < L.length) :
    ∃ ad, A = some ad ∧ w.cell? (ad.add (i * 2)) = some (.int .i64 L[i].1) ∧ w.cell? ⟨(ad.add (i * 2)).block, (ad.add (i * 2)).off + 1, none⟩ = some (.int .i64 L[i].2) := by
  obtain ⟨ad, e, _, hc⟩ := h (by omega)
  have hL := List.getElem?_eq_getElem hi
  exact ⟨ad, e, hc i _ hL 0 _ rfl, by rw [← add_at _ _ 0]; exact hc i _ hL 1 _ rfl⟩
theorem RdSp.below {w w' : World} {D : Nat → Prop} {A : Option Addr} {L : List Sp} (h : RdSp w D A L) (hb : Below w.heap.size w w') : RdSp w' D A L := RdL.below h hb
theorem OwnSp.rd {w : World} {base n c : Nat} {A : Option Addr} {L : List Sp} (h : OwnSp w base (.slice A n c) L) : RdSp w (base ≤ ·) A L := RdL.imp (fun x => by rw [spC_len]; decide) (OwnC.rd spC_len h) fun _ _ hd => hd.1
theorem infoSp : (Try.prog.info? 53).map (fun i => (i.zero, i.size, i.bytes)) = some (some (.agg #[.int .i64 0, .int .i64 0]), 2, 16) := by kernel_rfl

/-! ### ends -/
def enC (e : En) : List Value := [.int .i64 e.1, .int .i64 e.2.1, .int .i64 e.2.2]
theorem enC_len (e : En) : (enC e).length = 3 := rfl
theorem enC_one (e : En) : ∀ v ∈ enC e, v.oneCell' = true := by
  intro v hv
  simp only [enC, List.mem_cons, List.not_mem_nil, or_false] at hv
  rcases hv with rfl | rfl | rfl <;> rfl
def RdEn (w : World) (D : Nat → Prop) (A : Option Addr) (L : List En) : Prop := RdL w D 3 enC A L
def OwnEn (w : World) (base : Nat) (v : Value) (L : List En) : Prop := OwnC 83 3 enC w base v L
theorem RdEn.at_ {w : World} {D : Nat → Prop} {A : Option Addr} {L : List En} (h : RdEn w D A L) {i : Nat} (hi : i < L.length) :
    ∃ ad, A = some ad ∧ w.cell? (ad.add (i * 3)) = some (.int .i64 L[i].1) ∧ w.cell? ⟨(ad.add (i * 3)).block, (ad.add (i * 3)).off + 1, none⟩ = some (.int .i64 L[i].2.1) ∧ w.cell? ⟨(ad.add (i * 3)).block, (ad.add (i * 3)).off + 2, none⟩ = some (.int .i64 L[i].2.2) := by
  obtain ⟨ad, e, _, hc⟩ := h (by omega)
  have hL := List.getElem?_eq_getElem hi
  exact ⟨ad, e, hc i _ hL 0 _ rfl, by rw [← add_at _ _ 0]; exact hc i _ hL 1 _ rfl, by rw [← add_at _ _ 1]; exact hc i _ hL 2 _ rfl⟩
theorem RdEn.below {w w' : World} {D : Nat → Prop} {A : Option Addr} {L : List En} (h : RdEn w D A L) (hb : Below w.heap.size w w') : RdEn w' D A L := RdL.below h hb
theorem OwnEn.rd {w : World} {base n c : Nat} {A : Option Addr} {L : List En} (h : OwnEn w base (.slice A n c) L) : RdEn w (base ≤ ·) A L := RdL.imp (fun x => by rw [enC_len]; decide) (OwnC.rd enC_len h) fun _ _ hd => hd.1
theorem infoEn : (Try.prog.info? 83).map (fun i => (i.zero, i.size, i.bytes)) = some (some (.agg #[.int .i64 0, .int .i64 0, .int .i64 0]), 3, 24) := by kernel_rfl

section
variable {w : World} {ops : Array Oper} {rest : List Oper} {o : Oper} {a : Act} {Q : Exit → Act → World → Prop}
theorem wpList_appSp (hgd : o.guard = none) (s x : Operand) (ho : o.op = .call { callee := .builtin .append, args := #[s, x], argTypes := #[31, 31] })
    (base : Nat) (v : Value) (L news : List Sp) (hs : a.eval s = v) (hown : OwnSp w base v L)
    (D : Nat → Prop) (A : Option Addr) (n c : Nat) (hx : a.eval x = .slice A n c) (hn : n = news.length) (hr : Rd w D 2 A n (flC spC news))
    (hlen : L.length + news.length ≤ 1000000) (hbase : base ≤ w.heap.size)
    (h : ∀ v' w', OwnSp w' base v' (L ++ news) → Ext w w' v v' → wpList Try.prog ops Q rest (a.put o.dst v') w') :
    wpList Try.prog ops Q (o :: rest) a w := by
  subst hn
  refine wpList_plain hgd fun _ hK => wp_app s x _ ho base 53 _ 2 16 Try.underlying31 infoSp rfl (by decide) v _ _ hs hown D A _ c _ hx hr (flC_one spC_one news) ?_ ?_ hbase fun v' w' h2 h3 h4 => hK _ _ (h v' w' ?_ ⟨h3, h4.imp id fun e k hk => by rw [e] at hk; injection hk with hk; omega⟩)
  · unfold maxLen; omega
  · omega
  · unfold OwnSp OwnC
    rw [List.length_append, flC_app]
    exact h2
theorem wpList_appEn (hgd : o.guard = none) (s x : Operand) (ho : o.op = .call { callee := .builtin .append, args := #[s, x], argTypes := #[79, 79] })
    (base : Nat) (v : Value) (L news : List En) (hs : a.eval s = v) (hown : OwnEn w base v L)
    (D : Nat → Prop) (A : Option Addr) (n c : Nat) (hx : a.eval x = .slice A n c) (hn : n = news.length) (hr : Rd w D 3 A n (flC enC news))
    (hlen : L.length + news.length ≤ 1000000) (hbase : base ≤ w.heap.size)
    (h : ∀ v' w', OwnEn w' base v' (L ++ news) → Ext w w' v v' → wpList Try.prog ops Q rest (a.put o.dst v') w') :
    wpList Try.prog ops Q (o :: rest) a w := by
  subst hn
  refine wpList_plain hgd fun _ hK => wp_app s x _ ho base 83 _ 3 24 Try.underlying79 infoEn rfl (by decide) v _ _ hs hown D A _ c _ hx hr (flC_one enC_one news) ?_ ?_ hbase fun v' w' h2 h3 h4 => hK _ _ (h v' w' ?_ ⟨h3, h4.imp id fun e k hk => by rw [e] at hk; injection hk with hk; omega⟩)
  · unfold maxLen; omega
  · omega
  · unfold OwnEn OwnC
    rw [List.length_append, flC_app]
    exact h2
end
end Go.Proofs.Ytcdodchjgadcoaa
