/- Maps of objects: what the document says, as plain functions. No program. -/
import Derived.Test.YtmifmnpbkdjbaaaWords
namespace Go.Proofs.Ytmifmnpbkdjbaaa
set_option linter.unusedVariables false

/-- What a map says of the object k. -/
def gN (m : List Int) (k : Nat) : Int := if k < 512 ∧ 0 ≤ m.getD k 0 ∧ m.getD k 0 ≤ 2 then m.getD k 0 else 0
def gO (m : List Int) (i : Int) : Int := if i < 0 then 0 else gN m i.toNat
theorem gN_bd (m : List Int) (k : Nat) : 0 ≤ gN m k ∧ gN m k ≤ 2 := by unfold gN; split <;> omega
theorem gN_far (m : List Int) (k : Nat) (h : m.length ≤ k ∨ 512 ≤ k) : gN m k = 0 := by
  unfold gN
  rcases h with h | h
  · have : m.getD k 0 = 0 := by rw [List.getD_eq_getElem?_getD, List.getElem?_eq_none h]; rfl
    rw [this]; split <;> rfl
  · rw [if_neg (by omega)]
theorem getD_at (m : List Int) (k : Nat) (h : k < m.length) : m.getD k 0 = m[k] := by rw [List.getD_eq_getElem?_getD, List.getElem?_eq_getElem h]; rfl

/-- One more than the last place below n at which f is not 0. -/
def lastN (f : Nat → Int) : Nat → Nat
  | 0 => 0
  | n + 1 => if f n = 0 then lastN f n else n + 1
theorem lastN_le (f : Nat → Int) : ∀ n, lastN f n ≤ n
  | 0 => Nat.le_refl _
  | n + 1 => by
    unfold lastN
    split
    · exact Nat.le_succ_of_le (lastN_le f n)
    · exact Nat.le_refl _
theorem lastN_congr {f g : Nat → Int} : ∀ n, (∀ k, k < n → f k = g k) → lastN f n = lastN g n
  | 0, _ => rfl
  | n + 1, h => by
    unfold lastN
    rw [h n (by omega), lastN_congr n fun k hk => h k (by omega)]
theorem lastN_zero {f : Nat → Int} {n : Nat} : ∀ m, (∀ k, n ≤ k → k < n + m → f k = 0) → lastN f (n + m) = lastN f n
  | 0, _ => rfl
  | m + 1, h => by
    rw [← Nat.add_assoc, lastN, if_pos (h (n + m) (by omega) (by omega))]
    exact lastN_zero m fun k h1 h2 => h k h1 (by omega)
theorem lastN_far {f : Nat → Int} (n m : Nat) (hnm : n ≤ m) (h : ∀ k, n ≤ k → f k = 0) : lastN f m = lastN f n := by
  obtain ⟨d, rfl⟩ := Nat.le.dest hnm
  exact lastN_zero d fun k h1 _ => h k h1
theorem lastN_self (f : Nat → Int) : ∀ n, lastN f n = 0 ∨ f (lastN f n - 1) ≠ 0
  | 0 => .inl rfl
  | n + 1 => by
    unfold lastN
    split
    · exact lastN_self f n
    · exact .inr (by simpa using ‹_›)
theorem lastN_above (f : Nat → Int) : ∀ n k, lastN f n ≤ k → k < n → f k = 0
  | 0, k, _, h => by omega
  | n + 1, k, h1, h2 => by
    unfold lastN at h1
    split at h1
    · rcases Nat.lt_or_ge k n with h | h
      · exact lastN_above f n k h1 h
      · obtain rfl : k = n := by omega
        assumption
    · omega
/-- The row of f without the noughts at its end. -/
def rowF (f : Nat → Int) : List Int := (List.range (lastN f 512)).map f
theorem rowF_length (f : Nat → Int) : (rowF f).length = lastN f 512 := by simp [rowF]
theorem rowF_len (f : Nat → Int) : (rowF f).length ≤ 512 := by rw [rowF_length]; exact lastN_le f 512
theorem rowF_congr {f g : Nat → Int} (h : ∀ k, k < 512 → f k = g k) : rowF f = rowF g := by
  unfold rowF
  rw [lastN_congr 512 h]
  exact List.map_congr_left fun k hk => h k (by have := lastN_le g 512; have := List.mem_range.1 hk; omega)
theorem rowF_getD (f : Nat → Int) (k : Nat) (hk : k < 512) : (rowF f).getD k 0 = f k := by
  rcases Nat.lt_or_ge k (lastN f 512) with h | h
  · rw [getD_at _ _ (by rw [rowF_length]; exact h)]
    simp [rowF]
  · rw [List.getD_eq_getElem?_getD, List.getElem?_eq_none (by rw [rowF_length]; exact h), lastN_above f 512 k h hk]; rfl
def rowO (m : List Int) : List Int := rowF (gN m)
theorem gN_rowF (f : Nat → Int) (hf : ∀ k, k < 512 → 0 ≤ f k ∧ f k ≤ 2) (k : Nat) : gN (rowF f) k = if k < 512 then f k else 0 := by
  split
  · rename_i h
    unfold gN
    rw [rowF_getD f k h, if_pos ⟨h, hf k h⟩]
  · exact gN_far _ _ (.inr (by omega))
theorem gN_rowO (m : List Int) (k : Nat) : gN (rowO m) k = gN m k := by
  unfold rowO
  rw [gN_rowF _ (fun k _ => gN_bd m k)]
  split
  · rfl
  · exact (gN_far m k (.inr (by omega))).symm
/-- Without its noughts at the end. -/
def cutZ (l : List Int) : List Int := l.take (lastN (fun k => l.getD k 0) l.length)
theorem cutZ_map (f : Nat → Int) (n : Nat) (h : ∀ k, n ≤ k → k < 512 → f k = 0) (hn : n ≤ 512) : cutZ ((List.range n).map f) = rowF f := by
  unfold cutZ rowF
  have e : lastN (fun k => ((List.range n).map f).getD k 0) ((List.range n).map f).length = lastN f 512 := by
    rw [List.length_map, List.length_range, show (512 : Nat) = n + (512 - n) by omega, lastN_zero (512 - n) (fun k h1 h2 => h k h1 (by omega))]
    exact lastN_congr n fun k hk => by rw [getD_at _ _ (by simpa using hk)]; simp
  have hle : lastN f 512 ≤ n := by
    rw [show (512 : Nat) = n + (512 - n) by omega, lastN_zero (512 - n) (fun k h1 h2 => h k h1 (by omega))]
    exact lastN_le f n
  rw [e, ← List.map_take, List.take_range, Nat.min_eq_left hle]
def setF (m : List Int) (i : Nat) (st : Int) (k : Nat) : Int := if k = i then st else gN m k
def setO (m : List Int) (i st : Int) : List Int := if 0 ≤ i ∧ i < 512 ∧ 0 ≤ st ∧ st ≤ 2 then rowF (setF m i.toNat st) else rowO m
def okO (z : Int) : Bool := decide (0 ≤ z ∧ z ≤ 2)
def mayO (m : List Int) : Bool := decide (m.length ≤ 512) && m.all okO && (decide (m.length = 0) || decide (m.getD (m.length - 1) 0 ≠ 0))
def freshF (m : List Int) (k : Nat) : Int := if gN m k = 1 then 2 else gN m k
def freshO (m : List Int) : List Int := rowF (freshF m)
def mergeF (o n : List Int) (k : Nat) : Int := if gN n k = 2 ∧ gN o k = 1 then 1 else gN n k
def mergeO (o n : List Int) : List Int := rowF (mergeF o n)
def diffO (first : List Int) (rest : List (List Int)) (i : Nat) : Bool := rest.any fun m => decide (gN m i = 1) || (decide (gN m i ≠ 0) != decide (gN first i ≠ 0))
def changedO (first : List Int) (rest : List (List Int)) : List Int := ((List.range 512).filter (diffO first rest)).map fun i : Nat => (i : Int)
theorem lastN_freshF (m : List Int) : lastN (freshF m) 512 = lastN (gN m) 512 := by
  have : ∀ n, lastN (freshF m) n = lastN (gN m) n := by
    intro n
    induction n with
    | zero => rfl
    | succ n ih =>
      unfold lastN
      rw [ih]
      have : freshF m n = 0 ↔ gN m n = 0 := by unfold freshF; split <;> omega
      simp only [this]
  exact this 512
theorem lastN_mergeF (o m : List Int) : lastN (mergeF o m) 512 = lastN (gN m) 512 := by
  have : ∀ n, lastN (mergeF o m) n = lastN (gN m) n := by
    intro n
    induction n with
    | zero => rfl
    | succ n ih =>
      unfold lastN
      rw [ih]
      have : mergeF o m n = 0 ↔ gN m n = 0 := by unfold mergeF; split <;> omega
      simp only [this]
  exact this 512
end Go.Proofs.Ytmifmnpbkdjbaaa
