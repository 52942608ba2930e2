/- What is behind a boot is what was written: the plain law; rows that grow beside a medium. -/
import Derived.Test.YtodfejeifbhoeaaDoorMdC
import Derived.Test.YtodfejeifbhoeaaDoorMdE
namespace Go.Proofs.YtodfejeifbhoeaaDoor
open Go.RowKit
set_option linter.unusedVariables false

/-! ### the plain law -/
def catP : List (Nat × List UInt8) → List UInt8
  | [] => []
  | p :: r => frameO p.1 p.2 ++ catP r
theorem catP_app (P Q : List (Nat × List UInt8)) : catP (P ++ Q) = catP P ++ catP Q := by
  induction P with
  | nil => rfl
  | cons p r ih => rw [List.cons_append, catP, catP, ih, List.append_assoc]
theorem catP_len (P : List (Nat × List UInt8)) (h : ∀ p ∈ P, p.2.length ≤ 300) : (catP P).length ≤ 312 * P.length := by
  induction P with
  | nil => simp [catP]
  | cons p r ih =>
    rw [catP, List.length_append, frameO_len, List.length_cons]
    have := h p (List.mem_cons_self ..)
    have := ih fun q hq => h q (List.mem_cons_of_mem _ hq)
    omega
theorem rem_P (behind : List UInt8) (ks : Nat → Nat) : ∀ (P : List (Nat × List UInt8)) (i : Nat), (∀ j, (h : j < P.length) → ks (i + j) = P[j].1) → remO ks i (P.map (·.2)) behind = catP P ++ behind
  | [], _, _ => rfl
  | p :: r, i, h => by
    rw [List.map_cons, remO, catP, List.append_assoc, rem_P behind ks r (i + 1) fun j hj => by have := h (j + 1) (by simpa using hj); rw [show i + 1 + j = i + (j + 1) by omega]; exact this]
    rw [show ks i = p.1 from h 0 (by simp)]
def pairP (p : Nat × List UInt8) : Int × List UInt8 := ((p.1 : Int), p.2)
theorem pairs_P (ks : Nat → Nat) : ∀ (P : List (Nat × List UInt8)) (i : Nat), (∀ j, (h : j < P.length) → ks (i + j) = P[j].1) → pairsO ks i (P.map (·.2)) = P.map pairP
  | [], _, _ => rfl
  | p :: r, i, h => by
    rw [List.map_cons, pairsO, List.map_cons, pairs_P ks r (i + 1) fun j hj => by have := h (j + 1) (by simpa using hj); rw [show i + 1 + j = i + (j + 1) by omega]; exact this]
    rw [show ks i = p.1 from h 0 (by simp)]; rfl
def ksP (P : List (Nat × List UInt8)) (i : Nat) : Nat := min ((P.getD i (0, [])).1) 255
/-- What may be recorded. -/
def okP (p : Nat × List UInt8) : Prop := p.1 ≤ 255 ∧ p.2.length ≤ 300
theorem ksP_at (P : List (Nat × List UInt8)) (h : ∀ p ∈ P, okP p) (j : Nat) (hj : j < P.length) : ksP P (0 + j) = P[j].1 := by
  unfold ksP
  rw [Nat.zero_add, List.getD_eq_getElem?_getD, List.getElem?_eq_getElem hj]
  exact Nat.min_eq_left (h _ (List.getElem_mem hj)).1
theorem ksP_le (P : List (Nat × List UInt8)) (i : Nat) : ksP P i ≤ 255 := by unfold ksP; omega
theorem rec_P (P : List (Nat × List UInt8)) (behind : List UInt8) (h : ∀ p ∈ P, okP p) (hb : (nextO behind).e ≠ 0) : recO (catP P ++ behind) = P.map pairP := by
  rw [← rem_P behind (ksP P) P 0 (ksP_at P h), rec_one _ (ksP_le P) _ _ hb (fun x hx => by
    obtain ⟨p, hp, rfl⟩ := List.mem_map.1 hx
    have := (h p hp).2
    omega), pairs_P _ P 0 (ksP_at P h)]
/-- The medium holds the records of P, and behind them nothing, or a record that was cut. -/
def Keeps (s : MS) (P : List (Nat × List UInt8)) : Prop :=
  s.room = 1048576 ∧ (∀ p ∈ P, okP p) ∧ (s.up = false → s.cut = none) ∧ ∃ behind, s.b = catP P ++ behind ∧ (nextO behind).e ≠ 0 ∧ (s.up = true → behind = []) ∧ behind.length ≤ 312
theorem Keeps.recs {s : MS} {P : List (Nat × List UInt8)} (h : Keeps s P) : recO s.b = P.map pairP := by
  obtain ⟨_, h1, _, bh, h2, h3, _⟩ := h
  rw [h2]; exact rec_P P bh h1 h3
theorem Keeps.len {s : MS} {P : List (Nat × List UInt8)} (h : Keeps s P) : s.b.length ≤ 312 * P.length + 312 := by
  obtain ⟨_, h1, _, bh, h2, h3, _, h4⟩ := h
  have := catP_len P fun p hp => (h1 p hp).2
  rw [h2, List.length_append]; omega
theorem Keeps.new : Keeps (newS 1048576) [] := ⟨by decide, fun _ h => by simp at h, fun h => by simp [newS] at h, [], rfl, nil_bad, fun _ => rfl, by simp⟩
theorem Keeps.set_ {s : MS} {P : List (Nat × List UInt8)} (h : Keeps s P) (n : Int) : Keeps (s.set n) P := by
  unfold MS.set
  split
  · rename_i hu
    obtain ⟨h0, h1, h2, h3⟩ := h
    exact ⟨h0, h1, fun e => by rw [hu] at e; exact absurd e (by decide), h3⟩
  · exact h
theorem Keeps.crash_ {s : MS} {P : List (Nat × List UInt8)} (h : Keeps s P) : Keeps s.crash P := by
  obtain ⟨h0, h1, _, bh, h2, h3, _, h4⟩ := h
  exact ⟨h0, h1, fun _ => rfl, bh, h2, h3, (fun e => by cases e), h4⟩
theorem Keeps.boot_ {s : MS} {P : List (Nat × List UInt8)} (h : Keeps s P) : Keeps s.boot P := by
  obtain ⟨h0, h1, _, bh, h2, h3, _, h4⟩ := h
  refine ⟨h0, h1, fun _ => rfl, [], ?_, nil_bad, fun _ => rfl, by simp⟩
  have hb := boot_cat s (ksP P) (P.map (·.2)) bh (ksP_le P) (fun x hx => by
    obtain ⟨p, hp, rfl⟩ := List.mem_map.1 hx
    have := (h1 p hp).2
    omega) h3 (by rw [rem_P bh _ P 0 (ksP_at P h1), h2])
  rw [rem_P [] _ P 0 (ksP_at P h1)] at hb
  exact hb
/-- A record is written, whole, in part or not at all. -/
theorem Keeps.app_ {s : MS} {P : List (Nat × List UInt8)} (h : Keeps s P) (k : Nat) (x : List UInt8) (hk : k ≤ 255) (hx : x.length ≤ 300) (hP : P.length ≤ 40) :
    (s.app k x).1.cut = none ∧ ((((s.app k x).2 = 0 ∨ (s.app k x).2 = 100) ∧ s.up = true ∧ Keeps (s.app k x).1 (P ++ [(k, x)])) ∨ ((s.app k x).2 = 100 ∧ Keeps (s.app k x).1 P)) := by
  have hlen := h.len
  obtain ⟨h0, h1, h2, bh, h3, h4, h5, h6⟩ := id h
  have hmk := makeK k x hk (by omega)
  cases hu : s.up
  · rw [app_down hu]
    exact ⟨h2 hu, .inr ⟨rfl, h⟩⟩
  · obtain rfl := h5 hu
    rw [List.append_nil] at h3
    have hfl : (frameO k x).length = x.length + 12 := frameO_len k x
    have hnf : ¬ s.room < (s.b.length : Int) + ((makeO k x).1.length : Int) := by rw [hmk]; show ¬ s.room < (s.b.length : Int) + ((frameO k x).length : Int); omega
    have hok : ∀ p ∈ P ++ [(k, x)], okP p := fun p hp => by
      rcases List.mem_append.1 hp with hp | hp
      · exact h1 p hp
      · obtain rfl : p = (k, x) := by simpa using hp
        exact ⟨hk, hx⟩
    have hcat : catP (P ++ [(k, x)]) = s.b ++ frameO k x := by rw [catP_app, catP, catP, List.append_nil, h3]
    rcases hc : s.cut with _ | n
    · rw [app_ok hu (by rw [hmk]) hnf hc, hmk]
      exact ⟨hc, .inl ⟨.inl rfl, rfl, h0, hok, fun e => by rw [hu] at e; exact absurd e (by decide), [], by rw [hcat, List.append_nil], nil_bad, fun _ => rfl, by simp⟩⟩
    · rw [app_cut hu (by rw [hmk]) hnf hc, hmk]
      refine ⟨rfl, ?_⟩
      by_cases hfull : cutN n (frameO k x) = (frameO k x).length
      · refine .inl ⟨.inr rfl, rfl, h0, hok, fun _ => rfl, [], ?_, nil_bad, (fun e => by cases e), by simp⟩
        show s.b ++ (frameO k x).take (cutN n (frameO k x)) = _
        rw [hfull, List.take_length, hcat, List.append_nil]
      · have hlt : cutN n (frameO k x) < (frameO k x).length := by
          have : cutN n (frameO k x) ≤ (frameO k x).length := by unfold cutN; omega
          omega
        refine .inr ⟨rfl, h0, h1, fun _ => rfl, (frameO k x).take (cutN n (frameO k x)), ?_, ?_, (fun e => by cases e), by rw [List.length_take]; omega⟩
        · show s.b ++ _ = _
          rw [h3]
        · rw [frame_cut k x _ hk (by omega) hlt]; exact (by decide : (10 : Int) ≠ 0)

/-! ### rows beside a medium -/
def StopAt (w : World) (g nb : Nat) : Prop := w.cell? ⟨g, 3, none⟩ = some (.func (.func 28) #[] #[.pointer (some ⟨nb, 0, none⟩)])
/-- A row lies apart from the medium. -/
def Apart (w : World) (g : Nat) (v u : Value) : Prop := ∀ k, u.ownBlock = some k → ¬ Own2 g v k ∧ ¬ StopAt w g k
theorem Med.stop {w : World} {base g : Nat} {v : Value} {s : MS} (h : Med w base g v s) (nb : Nat) (hs : StopAt w g nb) : nb < w.heap.size ∧ ∃ n, s.cut = some n := by
  obtain ⟨sv, h1, h2, h3, h4, h5⟩ := h
  have c := h1.cell 3
  simp at c
  unfold StopAt at hs
  rw [c] at hs
  injection hs with hs
  rcases h5 with ⟨_, rfl⟩ | ⟨nb', n, e1, rfl, e3, _, _⟩
  · cases hs
  · injection hs with _ _ hs
    have : nb' = nb := by simpa using hs
    subst this
    exact ⟨e3.lt, n, e1⟩
theorem Med.lt {w : World} {base g : Nat} {v : Value} {s : MS} (h : Med w base g v s) : g < w.heap.size ∧ ∀ k, v.ownBlock = some k → k < w.heap.size := by
  obtain ⟨sv, h1, h2, _⟩ := h
  exact ⟨h1.lt, own_blk h2⟩
theorem StopAt.back {w w' : World} {g nb : Nat} (h : StopAt w' g nb) (hg : w'.heap[g]? = w.heap[g]?) : StopAt w g nb := by
  unfold StopAt at h ⊢
  rw [← h]
  exact (World.cell?_of_block (w := w) (a := ⟨g, 3, none⟩) hg).symm
theorem Apart.below {w w' : World} {base g : Nat} {v u : Value} {s : MS} (h : Apart w g v u) (hm : Med w base g v s) (hb : Below w.heap.size w w') : Apart w' g v u := fun k hk =>
  ⟨(h k hk).1, fun hs => (h k hk).2 (hs.back (hb.block g hm.lt.1))⟩
/-- A step of the medium behind which no cut is set. -/
theorem Apart.turned {w w' : World} {base g : Nat} {v v' u : Value} {s' : MS} (h : Apart w g v u) (hu : ∀ k, u.ownBlock = some k → k < w.heap.size) (hm : Med w' base g v' s') (hc : s'.cut = none) (hs : Same2 w v v') : Apart w' g v' u := fun k hk => by
  refine ⟨fun hx => ?_, fun hst => ?_⟩
  · rcases hx with rfl | hx
    · exact (h _ hk).1 (.inl rfl)
    · rcases hs with e | e
      · exact (h k hk).1 (.inr (e ▸ hx))
      · have := e k hx; have := hu k hk; omega
  · obtain ⟨_, n, hn⟩ := hm.stop k hst
    rw [hc] at hn; cases hn
/-- The row grows: the medium stays. -/
theorem Med.grown {w w' : World} {base g : Nat} {v u u' : Value} {s : MS} (h : Med w base g v s) (ha : Apart w g v u) (x : Ext w w' u u') : Med w' base g v s := by
  obtain ⟨sv, h1, h2, h3, h4, h5⟩ := h
  have c := h1.cell 3
  simp at c
  refine ⟨sv, h1.grown x.grown (fun e => (ha g e.symm).1 (.inl rfl)), own_grown h2 x.grown (fun k hk e => (ha k hk).1 (.inr e)), h3, h4, ?_⟩
  rcases h5 with h5 | ⟨nb, n, e1, e2, e3, e4, e5⟩
  · exact .inl h5
  · exact .inr ⟨nb, n, e1, e2, e3.grown x.grown (fun e => (ha nb e.symm).2 (by unfold StopAt; rw [c, e2])), e4, e5⟩
theorem Apart.grown {w w' : World} {base g : Nat} {v u u' : Value} {s : MS} (h : Med w base g v s) (ha : Apart w g v u) (x : Ext w w' u u') : Apart w' g v u' := fun k hk => by
  have hg : w'.heap[g]? = w.heap[g]? := x.grown.block g h.lt.1 (fun e => (ha g e.symm).1 (.inl rfl))
  rcases x.lies with l | l
  · rw [l] at hk
    exact ⟨(ha k hk).1, fun hs => (ha k hk).2 (hs.back hg)⟩
  · have hk2 := l k hk
    refine ⟨fun hx => ?_, fun hs => ?_⟩
    · rcases hx with rfl | hx
      · have := h.lt.1; omega
      · have := h.lt.2 k hx; omega
    · have := (h.stop k (hs.back hg)).1; omega
theorem Apart.beside {w w' : World} {base g : Nat} {v u u' t : Value} {s : MS} (h : Med w base g v s) (ha : Apart w g v u) (x : Ext w w' u u') (ht : Apart w g v t) : Apart w' g v t := fun k hk => by
  have hg : w'.heap[g]? = w.heap[g]? := x.grown.block g h.lt.1 (fun e => (ha g e.symm).1 (.inl rfl))
  exact ⟨(ht k hk).1, fun hs => (ht k hk).2 (hs.back hg)⟩
end Go.Proofs.YtodfejeifbhoeaaDoor
