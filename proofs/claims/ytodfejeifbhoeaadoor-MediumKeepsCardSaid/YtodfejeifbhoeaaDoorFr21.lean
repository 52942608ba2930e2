/- Frames one behind the other: plain laws; a row of rows of bytes; two rows that grow apart. -/
import Derived.Test.YtodfejeifbhoeaaDoorFr18
import Derived.Test.YtodfejeifbhoeaaDoorFrBits
import Derived.Test.YtodfejeifbhoeaaDoorElems
namespace Go.Proofs.YtodfejeifbhoeaaDoor
open Go.ChangeShapes Go.WideShapes Go.Deep Go.RowKit
set_option linter.unusedVariables false

/-- A row of rows of bytes. -/
structure BV where
  A : Option Addr
  l : List UInt8
  c : Nat
def rowCB (s : BV) : List Value := [.slice s.A s.l.length s.c]
theorem RdL.bv {w : World} {D : Nat → Prop} {A : Option Addr} {L : List BV} (h : RdL w D 1 rowCB A L) {i : Nat} (hi : i < L.length) :
    ∃ ad, A = some ad ∧ w.cell? (ad.add i) = some (.slice L[i].A L[i].l.length L[i].c) := by
  obtain ⟨ad, e, _, hc⟩ := h (by omega)
  have := hc i _ (List.getElem?_eq_getElem hi) 0 _ rfl
  rw [Nat.mul_one] at this
  exact ⟨ad, e, this⟩
theorem openBB {H : Type} {enc : TypeId × Value → H} {W : World} {base : Nat} {v : Value} {d : DataW H} {p : List MemPlace}
    (hv : Value.okWide Tryd.prog W .any base 27 v) (h : DataW.Trod enc Tryd.prog W 0 (fun _ => true) true 27 v d p) :
    ∃ A L c, v = .slice A L.length c ∧ RdL W (Old W) 1 rowCB A L ∧ L.length ≤ c ∧ c ≤ 9223372036854775807 ∧ (A = none → c = 0) ∧ ∀ s ∈ L, RdB W (Old W) s.A s.l ∧ s.l.length ≤ s.c ∧ s.c ≤ 9223372036854775807 := by
  obtain ⟨a0, l0, c0, rfl⟩ := okWide_slice Tryd.underlying27 hv
  obtain ⟨fuel, hf⟩ := h
  rcases open_slice Tryd.underlying27 hf with ⟨hcs, _⟩ | ⟨a, len, cap, m, n, D, Pl, hcs, _, hl, hm, hmm, _, hi⟩
  · simp [Value.cells] at hcs
    obtain ⟨rfl, rfl, rfl⟩ := hcs
    exact ⟨none, [], 0, rfl, fun h => absurd h (by simp), by simp, by omega, fun _ => rfl, by simp⟩
  · have hC : Tryd.prog.cellsOf 28 = 1 := by kernel_rfl
    have each : ∀ i, i < len → ∃ s : BV, (RdB W (Old W) s.A s.l ∧ s.l.length ≤ s.c ∧ s.c ≤ 9223372036854775807) ∧ W.cell? (a.add i) = some (.slice s.A s.l.length s.c) := fun i hil => by
      have him : i < m := by rw [hmm]; split <;> omega
      obtain ⟨cs', hc, ht'⟩ := hi i him
      rw [hC, Nat.mul_one] at hc
      obtain ⟨A, zs, c, e, r, lz, mz, _⟩ := readB ht'
      obtain ⟨_, hcl, hat⟩ := World.cells?_some hc
      have := hat (i := 0) (by omega)
      rw [add_zero_, e] at this
      exact ⟨⟨A, zs, c⟩, ⟨r, lz, mz⟩, this⟩
    obtain ⟨L, hL, hQ⟩ := listOf len each
    simp [Value.cells] at hcs
    obtain ⟨rfl, rfl, rfl⟩ := hcs
    refine ⟨some a, L, c0, by rw [hL], fun hn => ⟨a, rfl, ?_, fun i s hs j v hv => ?_⟩, by omega, by unfold maxLen at hm; omega, by simp, fun s hs => ?_⟩
    · have h1 := (hQ 0 L[0] (List.getElem?_eq_getElem hn)).2
      have := World.block_lt_of_cell? W _ h1
      rwa [block_of_add] at this
    · match j, hv with
      | 0, hv => injection hv with hv; subst hv; rw [Nat.mul_one]; exact (hQ i s hs).2
      | j + 1, hv => simp [rowCB] at hv
    · obtain ⟨i, hi, rfl⟩ := List.getElem_of_mem hs
      exact (hQ i _ (List.getElem?_eq_getElem hi)).1

/- Two rows that grow in blocks of their own. -/
def Sep (u v : Value) : Prop := ∀ k, u.ownBlock = some k → v.ownBlock ≠ some k
theorem Sep.symm {u v : Value} (h : Sep u v) : Sep v u := fun k h1 h2 => h k h2 h1
theorem own_blk {w : World} {base : Nat} {e : TypeId} {size n : Nat} {v : Value} {xs : List Value} (h : w.ownsRow base e size v n xs) (k : Nat) (hk : v.ownBlock = some k) : k < w.heap.size := by
  rcases h.2 with ⟨rfl, _⟩ | ⟨g, cap, cur, rfl, hg, hh, r⟩
  · simp [Value.ownBlock] at hk
  · have : g = k := by simpa [Value.ownBlock] using hk
    subst this
    exact (Array.getElem?_eq_some_iff.1 hh).1
theorem own_grown {w w' : World} {base : Nat} {e : TypeId} {size n : Nat} {u v : Value} {xs : List Value} (h : w.ownsRow base e size v n xs) (hb : w.grownBy w' u.ownBlock) (hs : Sep u v) : w'.ownsRow base e size v n xs := by
  refine ⟨h.1, ?_⟩
  rcases h.2 with h0 | ⟨g, cap, cur, hv, hg, hh, r⟩
  · exact .inl h0
  · refine .inr ⟨g, cap, cur, hv, hg, ?_, r⟩
    rw [hb.block g (Array.getElem?_eq_some_iff.1 hh).1 (fun e => hs g e.symm (by rw [hv]; rfl))]
    exact hh
theorem Sep.ext {a c : World} {u u' v : Value} (h : Sep u v) (x : Ext a c u u') (hv : ∀ k, v.ownBlock = some k → k < a.heap.size) : Sep u' v := fun k hk e => by
  rcases x.lies with l | l
  · rw [l] at hk; exact h k hk e
  · have h1 := l k hk
    have h2 := hv k e
    omega

/- Frames one behind the other. -/
def remO (ks : Nat → Nat) : Nat → List (List UInt8) → List UInt8 → List UInt8
  | _, [], behind => behind
  | i, x :: r, behind => frameO (ks i) x ++ remO ks (i + 1) r behind
def catO (ks : Nat → Nat) (ls : List (List UInt8)) : Nat → List UInt8
  | 0 => []
  | i + 1 => catO ks ls i ++ frameO (ks i) (ls.getD i [])
def endsO (ks : Nat → Nat) (ls : List (List UInt8)) : Nat → List Int
  | 0 => []
  | i + 1 => endsO ks ls i ++ [((catO ks ls (i + 1)).length : Int)]
theorem endsO_len (ks : Nat → Nat) (ls : List (List UInt8)) : ∀ i, (endsO ks ls i).length = i
  | 0 => rfl
  | i + 1 => by rw [endsO, List.length_append, endsO_len ks ls i]; rfl
theorem rem_step (ks : Nat → Nat) (ls : List (List UInt8)) (behind : List UInt8) (i : Nat) (hi : i < ls.length) :
    remO ks i (ls.drop i) behind = frameO (ks i) ls[i] ++ remO ks (i + 1) (ls.drop (i + 1)) behind := by
  rw [List.drop_eq_getElem_cons hi]; rfl
theorem cat_rem (ks : Nat → Nat) (ls : List (List UInt8)) (behind : List UInt8) : ∀ i, i ≤ ls.length → catO ks ls i ++ remO ks i (ls.drop i) behind = remO ks 0 ls behind
  | 0, _ => rfl
  | i + 1, h => by
    rw [← cat_rem ks ls behind i (by omega), rem_step ks ls behind i (by omega), catO, List.append_assoc, List.getD_eq_getElem?_getD, List.getElem?_eq_getElem (by omega : i < ls.length)]; rfl
theorem cat_all (ks : Nat → Nat) (ls : List (List UInt8)) (behind : List UInt8) : catO ks ls ls.length ++ behind = remO ks 0 ls behind := by
  have := cat_rem ks ls behind ls.length (Nat.le_refl _)
  rw [List.drop_length] at this
  exact this
theorem cat_le (ks : Nat → Nat) (ls : List (List UInt8)) : ∀ i, 12 * i ≤ (catO ks ls i).length
  | 0 => Nat.zero_le _
  | i + 1 => by
    have := cat_le ks ls i
    rw [catO, List.length_append, frameO_len]; omega
theorem cat_bd (ks : Nat → Nat) (ls : List (List UInt8)) : ∀ i, (∀ j, j < i → (ls.getD j []).length ≤ 500) → (catO ks ls i).length ≤ 512 * i
  | 0, _ => Nat.zero_le _
  | i + 1, hl => by
    have h1 := cat_bd ks ls i fun j hj => hl j (by omega)
    have h2 := hl i (by omega)
    rw [catO, List.length_append, frameO_len]; omega
theorem next_short (b : List UInt8) (h : b.length ≤ 7) : nextO b = .bad 10 := by unfold nextO; rw [if_pos (by omega)]
theorem whole_at (ks : Nat → Nat) (ls : List (List UInt8)) (behind : List UInt8) (hk : ∀ i, ks i ≤ 255) (hl : ∀ j, j < ls.length → (ls.getD j []).length ≤ 500) :
    ∀ i, i ≤ ls.length → wholeO (remO ks 0 ls behind) = endsO ks ls i ++ wholeN ((remO ks 0 ls behind).length + 1 - i) (remO ks 0 ls behind) (catO ks ls i).length
  | 0, _ => rfl
  | i + 1, h => by
    have hc := cat_rem ks ls behind i (by omega)
    have hd : (remO ks 0 ls behind).drop (catO ks ls i).length = remO ks i (ls.drop i) behind := by rw [← hc, List.drop_left]
    have hx : ls.getD i [] = ls[i] := by rw [List.getD_eq_getElem?_getD, List.getElem?_eq_getElem (by omega : i < ls.length)]; rfl
    have hll := hl i (by omega)
    rw [hx] at hll
    have hn := next_frame (ks i) ls[i] (remO ks (i + 1) (ls.drop (i + 1)) behind) (hk i) (by omega)
    rw [← rem_step ks ls behind i (by omega), ← hd] at hn
    have hle := cat_le ks ls i
    have hlen : (catO ks ls i).length ≤ (remO ks 0 ls behind).length := by rw [← hc, List.length_append]; omega
    rw [whole_at ks ls behind hk hl i (by omega), show (remO ks 0 ls behind).length + 1 - i = ((remO ks 0 ls behind).length + 1 - (i + 1)) + 1 by omega]
    have he : (nextO ((remO ks 0 ls behind).drop (catO ks ls i).length)).e = 0 := by rw [hn]
    rw [wholeN_more _ _ _ he, hn]
    have e1 : (catO ks ls i).length + (12 + ls[i].length) = (catO ks ls (i + 1)).length := by rw [catO, List.length_append, frameO_len, hx]; omega
    show (endsO ks ls i ++ [(((catO ks ls i).length + (12 + ls[i].length) : Nat) : Int)]) ++ wholeN _ _ ((catO ks ls i).length + (12 + ls[i].length)) = _
    rw [e1]
    rfl
theorem whole_all (ks : Nat → Nat) (ls : List (List UInt8)) (behind : List UInt8) (hk : ∀ i, ks i ≤ 255) (hl : ∀ j, j < ls.length → (ls.getD j []).length ≤ 500) (hb : behind.length ≤ 7) :
    wholeO (remO ks 0 ls behind) = endsO ks ls ls.length := by
  have hle := cat_le ks ls ls.length
  have hc := cat_all ks ls behind
  have hlen : (remO ks 0 ls behind).length = (catO ks ls ls.length).length + behind.length := by rw [← hc, List.length_append]
  have hd : (remO ks 0 ls behind).drop (catO ks ls ls.length).length = behind := by rw [← hc, List.drop_left]
  rw [whole_at ks ls behind hk hl ls.length (Nat.le_refl _), show (remO ks 0 ls behind).length + 1 - ls.length = ((remO ks 0 ls behind).length - ls.length) + 1 by omega]
  exact wholeN_done _ _ _ (by rw [hd, next_short behind hb]; exact (by decide : (10 : Int) ≠ 0)) _
end Go.Proofs.YtodfejeifbhoeaaDoor
