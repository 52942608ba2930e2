/- The document's row of ends, and its clean rows: plain. -/
import Derived.Test.YtcdodchjgadcoaaSp2
namespace Go.Proofs.Ytcdodchjgadcoaa
set_option linter.unusedVariables false

def clS (n : Int) : Int := min (max n 0) farS
theorem clS_bd (n : Int) : 0 ≤ clS n ∧ clS n ≤ farS := by unfold clS; unfold farS; omega
/-- How many numbers stand below. -/
def belowN (m : Int) : List Int → Nat
  | [] => 0
  | x :: l => if x < m then belowN m l + 1 else 0
def putP (l : List Int) (n : Int) : List Int :=
  if l[belowN (clS n) l]? = some (clS n) then l else l.take (belowN (clS n) l) ++ [clS n] ++ l.drop (belowN (clS n) l)
theorem below_le (m : Int) : ∀ l : List Int, belowN m l ≤ l.length
  | [] => Nat.le_refl _
  | x :: l => by
    have := below_le m l
    unfold belowN
    split <;> simp only [List.length_cons] <;> omega
theorem below_lt (m : Int) : ∀ (l : List Int) (j : Nat) (h : j < l.length), j < belowN m l → l[j] < m
  | [], j, h, _ => absurd h (by simp)
  | x :: l, j, h, hj => by
    unfold belowN at hj
    split at hj
    · cases j with
      | zero => assumption
      | succ j => exact below_lt m l j (by simpa using h) (by omega)
    · omega
theorem below_ge (m : Int) : ∀ (l : List Int) (h : belowN m l < l.length), m ≤ l[belowN m l]
  | [], h => absurd h (by simp [belowN])
  | x :: l, h => by
    by_cases hx : x < m
    · have e : belowN m (x :: l) = belowN m l + 1 := by show (if x < m then _ else _) = _; rw [if_pos hx]
      simp only [e] at h ⊢
      exact below_ge m l (by simpa using h)
    · have e : belowN m (x :: l) = 0 := by show (if x < m then _ else _) = _; rw [if_neg hx]
      simp only [e]
      exact Int.not_lt.1 hx
/-- Where the walk's count stands. -/
theorem below_is (m : Int) (l : List Int) (k : Nat) (hk : k ≤ l.length) (h1 : ∀ j (h : j < l.length), j < k → l[j] < m) (h2 : ∀ h : k < l.length, m ≤ l[k]) : belowN m l = k := by
  have a := below_le m l
  rcases Nat.lt_trichotomy (belowN m l) k with h | h | h
  · have := h1 _ (by omega) h
    have := below_ge m l (by omega)
    omega
  · exact h
  · have := below_lt m l k (by omega) h
    have := h2 (by omega)
    omega
theorem put_mem (l : List Int) (n x : Int) : x ∈ putP l n ↔ x ∈ l ∨ x = clS n := by
  unfold putP
  split
  · rename_i h
    constructor
    · exact .inl
    · rintro (h1 | rfl)
      · exact h1
      · exact List.mem_of_getElem? h
  · rw [List.mem_append, List.mem_append, List.mem_singleton]
    conv => rhs; rw [← List.take_append_drop (belowN (clS n) l) l, List.mem_append]
    constructor
    · rintro ((h | h) | h)
      · exact .inl (.inl h)
      · exact .inr h
      · exact .inl (.inr h)
    · rintro ((h | h) | h)
      · exact .inl (.inl h)
      · exact .inr h
      · exact .inl (.inr h)
theorem put_up {l : List Int} (h : l.Pairwise (· < ·)) (n : Int) : (putP l n).Pairwise (· < ·) := by
  unfold putP
  split
  · exact h
  · rename_i hne
    have hg := List.pairwise_iff_getElem.1 h
    have hlow : ∀ x ∈ l.take (belowN (clS n) l), x < clS n := fun x hx => by
      obtain ⟨j, hj, rfl⟩ := List.mem_iff_getElem.1 hx
      rw [List.length_take] at hj
      rw [List.getElem_take]
      exact below_lt _ l j (by omega) (by omega)
    have hhigh : ∀ x ∈ l.drop (belowN (clS n) l), clS n < x := fun x hx => by
      obtain ⟨j, hj, rfl⟩ := List.mem_iff_getElem.1 hx
      rw [List.length_drop] at hj
      rw [List.getElem_drop]
      have hk : belowN (clS n) l < l.length := by omega
      have h1 := below_ge (clS n) l hk
      have h2 : l[belowN (clS n) l] ≠ clS n := fun e => hne (by rw [List.getElem?_eq_getElem hk, e])
      rcases Nat.eq_zero_or_pos j with h3 | h3
      · subst h3
        simp only [Nat.add_zero]
        omega
      · have := hg (belowN (clS n) l) (belowN (clS n) l + j) hk (by omega) (by omega)
        omega
    rw [List.append_assoc]
    refine List.pairwise_append.2 ⟨h.sublist (List.take_sublist ..), ?_, fun x hx y hy => ?_⟩
    · rw [List.singleton_append]
      exact List.Pairwise.cons hhigh (h.sublist (List.drop_sublist ..))
    · rw [List.singleton_append] at hy
      rcases List.mem_cons.1 hy with rfl | hy
      · exact hlow x hx
      · have := hlow x hx
        have := hhigh y hy
        omega
theorem put_len (l : List Int) (n : Int) : (putP l n).length ≤ l.length + 1 := by
  unfold putP
  split
  · omega
  · rw [List.length_append, List.length_append, List.length_take, List.length_drop, List.length_singleton]
    omega
def putS (l : List Int) (s : Sp) : List Int := putP (putP l s.1) s.2
/-- The ends of a row more. -/
def putL (l : List Int) (a : List Sp) : List Int := a.foldl putS l
theorem putL_up {l : List Int} (h : l.Pairwise (· < ·)) (a : List Sp) : (putL l a).Pairwise (· < ·) := by
  induction a generalizing l with
  | nil => exact h
  | cons s a ih => exact ih (put_up (put_up h _) _)
theorem putL_mem (a : List Sp) : ∀ (l : List Int) (x : Int), x ∈ putL l a ↔ x ∈ l ∨ ∃ s ∈ a, x = clS s.1 ∨ x = clS s.2 := by
  induction a with
  | nil => intro l x; simp [putL]
  | cons s a ih =>
    intro l x
    show x ∈ putL (putS l s) a ↔ _
    rw [ih]
    unfold putS
    rw [put_mem, put_mem]
    constructor
    · rintro (((h | h) | h) | ⟨t, ht, h⟩)
      · exact .inl h
      · exact .inr ⟨s, List.mem_cons_self .., .inl h⟩
      · exact .inr ⟨s, List.mem_cons_self .., .inr h⟩
      · exact .inr ⟨t, List.mem_cons_of_mem _ ht, h⟩
    · rintro (h | ⟨t, ht, h⟩)
      · exact .inl (.inl (.inl h))
      · rcases List.mem_cons.1 ht with rfl | ht
        · rcases h with h | h
          · exact .inl (.inl (.inr h))
          · exact .inl (.inr h)
        · exact .inr ⟨t, ht, h⟩
theorem putL_len (a : List Sp) : ∀ l : List Int, (putL l a).length ≤ l.length + 2 * a.length := by
  induction a with
  | nil => intro l; exact Nat.le_refl _
  | cons s a ih =>
    intro l
    have h1 := ih (putS l s)
    have h2 := put_len (putP l s.1) s.2
    have h3 := put_len l s.1
    show (putL (putS l s) a).length ≤ _
    unfold putS at h1 ⊢
    rw [List.length_cons]
    omega
def docE (a b : List Sp) : List Int := putL (putL [] a) b
theorem docE_up (a b : List Sp) : (docE a b).Pairwise (· < ·) := putL_up (putL_up List.Pairwise.nil a) b
theorem docE_mem (a b : List Sp) (x : Int) : x ∈ docE a b ↔ ∃ s, (s ∈ a ∨ s ∈ b) ∧ (x = clS s.1 ∨ x = clS s.2) := by
  unfold docE
  rw [putL_mem, putL_mem]
  constructor
  · rintro ((h | ⟨s, hs, h⟩) | ⟨s, hs, h⟩)
    · exact absurd h (by simp)
    · exact ⟨s, .inl hs, h⟩
    · exact ⟨s, .inr hs, h⟩
  · rintro ⟨s, hs | hs, h⟩
    · exact .inl (.inr ⟨s, hs, h⟩)
    · exact .inr ⟨s, hs, h⟩
theorem docE_bd {a b : List Sp} {x : Int} (h : x ∈ docE a b) : 0 ≤ x ∧ x ≤ farS := by
  obtain ⟨s, _, h | h⟩ := (docE_mem a b x).1 h <;> rw [h] <;> exact clS_bd _
theorem docE_len (a b : List Sp) : (docE a b).length ≤ 2 * a.length + 2 * b.length := by
  have h1 := putL_len b (putL [] a)
  have h2 := putL_len a []
  unfold docE
  rw [List.length_nil] at h2
  omega
/-- Between two ends that follow one another nothing begins or ends. -/
theorem has_const {l : List Sp} {p q n : Int} (hp : 0 ≤ p) (hq : q ≤ farS) (h1 : p ≤ n) (h2 : n < q) (hno : ∀ s ∈ l, (clS s.1 ≤ p ∨ q ≤ clS s.1) ∧ (clS s.2 ≤ p ∨ q ≤ clS s.2)) : hasS l n = hasS l p := by
  have e : ∀ m, p ≤ m → m < q → hasS l m = l.any fun s => decide (clS s.1 ≤ p ∧ q ≤ clS s.2) := fun m hm1 hm2 => by
    unfold hasS
    rw [decide_eq_true (by omega : 0 ≤ m ∧ m < farS), Bool.true_and]
    rw [Bool.eq_iff_iff, List.any_eq_true, List.any_eq_true]
    constructor <;> rintro ⟨s, hs, h⟩ <;> refine ⟨s, hs, decide_eq_true ?_⟩ <;> have h := of_decide_eq_true h <;> have := hno s hs <;> unfold clS at * <;> unfold farS at * <;> omega
  rw [e n h1 h2, e p (Int.le_refl _) (by omega)]
theorem doc_const {a b : List Sp} {i : Nat} (hi : i + 1 < (docE a b).length) {n : Int} (h1 : (docE a b)[i] ≤ n) (h2 : n < (docE a b)[i + 1]) : hasS a n = hasS a (docE a b)[i] ∧ hasS b n = hasS b (docE a b)[i] := by
  have hg := List.pairwise_iff_getElem.1 (docE_up a b)
  have hno : ∀ x ∈ docE a b, x ≤ (docE a b)[i] ∨ (docE a b)[i + 1] ≤ x := fun x hx => by
    obtain ⟨j, hj, rfl⟩ := List.mem_iff_getElem.1 hx
    rcases Nat.lt_trichotomy j i with h | h | h
    · exact .inl (Int.le_of_lt (hg j i hj (by omega) h))
    · subst h; exact .inl (Int.le_refl _)
    · rcases Nat.lt_or_eq_of_le (by omega : i + 1 ≤ j) with h | h
      · exact .inr (Int.le_of_lt (hg (i + 1) j hi hj h))
      · subst h; exact .inr (Int.le_refl _)
  have b1 := docE_bd (List.getElem_mem (show i < (docE a b).length by omega))
  have b2 := docE_bd (List.getElem_mem hi)
  constructor
  · exact has_const b1.1 b2.2 h1 h2 fun s hs => ⟨hno _ ((docE_mem a b _).2 ⟨s, .inl hs, .inl rfl⟩), hno _ ((docE_mem a b _).2 ⟨s, .inl hs, .inr rfl⟩)⟩
  · exact has_const b1.1 b2.2 h1 h2 fun s hs => ⟨hno _ ((docE_mem a b _).2 ⟨s, .inr hs, .inl rfl⟩), hno _ ((docE_mem a b _).2 ⟨s, .inr hs, .inr rfl⟩)⟩
/-- A byte that is in has an end at or before it, and one behind it. -/
theorem doc_in {a b : List Sp} {n : Int} (h : hasS a n = true ∨ hasS b n = true) : (∃ x ∈ docE a b, x ≤ n) ∧ ∃ x ∈ docE a b, n < x := by
  have go : ∀ l : List Sp, (∀ s ∈ l, s ∈ a ∨ s ∈ b) → hasS l n = true → (∃ x ∈ docE a b, x ≤ n) ∧ ∃ x ∈ docE a b, n < x := fun l hl h => by
    obtain ⟨hn, s, hs, h1, h2⟩ := has_true.1 h
    exact ⟨⟨_, (docE_mem a b _).2 ⟨s, hl s hs, .inl rfl⟩, by unfold clS farS at *; omega⟩, ⟨_, (docE_mem a b _).2 ⟨s, hl s hs, .inr rfl⟩, by unfold clS farS at *; omega⟩⟩
  rcases h with h | h
  · exact go a (fun s hs => .inl hs) h
  · exact go b (fun s hs => .inr hs) h
def docW (w : Bool → Bool → Bool) (a b : List Sp) (n : Int) : Bool := w (hasS a n) (hasS b n)
theorem docW_off {w : Bool → Bool → Bool} (hw : w false false = false) {a b : List Sp} {n : Int} (h : ¬ ((∃ x ∈ docE a b, x ≤ n) ∧ ∃ x ∈ docE a b, n < x)) : docW w a b n = false := by
  unfold docW
  cases ha : hasS a n
  · cases hb : hasS b n
    · exact hw
    · exact absurd (doc_in (.inr hb)) h
  · exact absurd (doc_in (.inl ha)) h
theorem doc_start {w : Bool → Bool → Bool} (hw : w false false = false) {a b : List Sp} (h0 : 0 < (docE a b).length) : Upto (docW w a b) [] (docE a b)[0] := by
  refine Upto.nil fun n hn => docW_off hw fun h => ?_
  obtain ⟨⟨x, hx, h1⟩, _⟩ := h
  obtain ⟨j, hj, rfl⟩ := List.mem_iff_getElem.1 hx
  have hg := List.pairwise_iff_getElem.1 (docE_up a b)
  rcases Nat.eq_zero_or_pos j with h2 | h2
  · subst h2; omega
  · have := hg 0 j h0 hj h2; omega
theorem doc_none {w : Bool → Bool → Bool} (hw : w false false = false) {a b : List Sp} (h0 : (docE a b).length = 0) : CleanR [] ∧ ∀ n, hasS [] n = docW w a b n := by
  refine ⟨trivial, fun n => ?_⟩
  rw [has_nil, docW_off hw fun h => ?_]
  obtain ⟨⟨x, hx, h1⟩, _⟩ := h
  rw [List.eq_nil_of_length_eq_zero h0] at hx
  exact absurd hx (by simp)
theorem doc_skip {w : Bool → Bool → Bool} {a b : List Sp} {out : List Sp} {i : Nat} (hi : i + 1 < (docE a b).length) (hw : docW w a b (docE a b)[i] = false) (hU : Upto (docW w a b) out (docE a b)[i]) : Upto (docW w a b) out (docE a b)[i + 1] :=
  hU.skip (Int.le_of_lt (List.pairwise_iff_getElem.1 (docE_up a b) i (i + 1) (by omega) hi (by omega))) fun n h1 h2 => by
    unfold docW at hw ⊢
    rw [(doc_const hi h1 h2).1, (doc_const hi h1 h2).2]; exact hw
theorem doc_put {w : Bool → Bool → Bool} {a b : List Sp} {out : List Sp} {i : Nat} (hi : i + 1 < (docE a b).length) (hw : docW w a b (docE a b)[i] = true) (hU : Upto (docW w a b) out (docE a b)[i]) : Upto (docW w a b) (addS out ((docE a b)[i], (docE a b)[i + 1])) (docE a b)[i + 1] :=
  hU.put (docE_bd (List.getElem_mem (show i < (docE a b).length by omega))).1 (List.pairwise_iff_getElem.1 (docE_up a b) i (i + 1) (by omega) hi (by omega)) (docE_bd (List.getElem_mem hi)).2 fun n h1 h2 => by
    unfold docW at hw ⊢
    rw [(doc_const hi h1 h2).1, (doc_const hi h1 h2).2]; exact hw
theorem doc_end {w : Bool → Bool → Bool} (hw : w false false = false) {a b : List Sp} {out : List Sp} {i : Nat} (hi : i + 1 = (docE a b).length) (hU : Upto (docW w a b) out ((docE a b)[i]'(by omega))) : CleanR out ∧ ∀ n, hasS out n = docW w a b n := by
  refine hU.end_ fun n hn => docW_off hw fun h => ?_
  obtain ⟨_, x, hx, h1⟩ := h
  obtain ⟨j, hj, rfl⟩ := List.mem_iff_getElem.1 hx
  have hg := List.pairwise_iff_getElem.1 (docE_up a b)
  rcases Nat.lt_or_eq_of_le (by omega : j ≤ i) with h2 | h2
  · have := hg j i hj (by omega) h2; omega
  · subst h2; omega

/-! ### the row of a set -/
structure IsR (f : Int → Bool) (L : List Sp) : Prop where
  clean : CleanR L
  is : ∀ n, hasS L n = f n
theorem IsR.one {f g : Int → Bool} {L M : List Sp} (h : IsR f L) (h' : IsR g M) (e : ∀ n, f n = g n) : L = M := clean_same h.clean h'.clean fun n => by rw [h.is, h'.is, e]
theorem IsR.nil {f : Int → Bool} {L : List Sp} (h : IsR f L) : L = [] ↔ ∀ n, f n = false := by
  constructor
  · rintro rfl n
    rw [← h.is, has_nil]
  · intro hf
    exact h.one ⟨trivial, fun n => has_nil n⟩ hf
theorem want_join (a b : List Sp) (n : Int) : wantP (fun x y => decide (0 < x) || decide (0 < y)) a b n = (hasS a n || hasS b n) := by rw [has_cnt, has_cnt]; rfl
theorem want_meet (a b : List Sp) (n : Int) : wantP (fun x y => decide (0 < x) && decide (0 < y)) a b n = (hasS a n && hasS b n) := by rw [has_cnt, has_cnt]; rfl
theorem want_less (a b : List Sp) (n : Int) : wantP (fun x y => decide (0 < x) && (y == 0)) a b n = (hasS a n && !hasS b n) := by
  rw [has_cnt, has_cnt]
  show (decide (0 < cntS a n) && (cntS b n == 0)) = _
  congr 1
  have := cntS_pos b n
  by_cases h : cntS b n = 0
  · rw [h]; rfl
  · rw [decide_eq_true (by omega : 0 < cntS b n)]
    simp [h]
theorem want_clean (a : List Sp) (n : Int) : wantP (fun x _ => decide (0 < x)) a [] n = hasS a n := by rw [has_cnt]; rfl
end Go.Proofs.Ytcdodchjgadcoaa
