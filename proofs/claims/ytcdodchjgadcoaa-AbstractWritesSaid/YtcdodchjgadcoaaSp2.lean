/- Where spans begin and end, and how many there are at a byte: plain. -/
import Derived.Test.YtcdodchjgadcoaaSp1
namespace Go.Proofs.Ytcdodchjgadcoaa
set_option linter.unusedVariables false

/-- An end: where, and how many spans of the one and the other row begin there. -/
abbrev En := Int × Int × Int
def endsP (l : List Sp) (a b : Int) : List En := l.flatMap fun s => if max s.1 0 < min s.2 farS then [(max s.1 0, a, b), (min s.2 farS, -a, -b)] else []
def sumE (g : En → Int) : List En → Int
  | [] => 0
  | e :: E => g e + sumE g E
theorem sumE_append (g : En → Int) : ∀ x y : List En, sumE g (x ++ y) = sumE g x + sumE g y
  | [], y => by rw [List.nil_append]; show _ = 0 + _; omega
  | e :: x, y => by rw [List.cons_append]; show g e + sumE g (x ++ y) = g e + sumE g x + _; rw [sumE_append g x y]; omega
theorem sumE_perm (g : En → Int) {x y : List En} (h : x.Perm y) : sumE g x = sumE g y := by
  induction h with
  | nil => rfl
  | cons e _ ih => show g e + _ = g e + _; rw [ih]
  | swap a b l => show g b + (g a + _) = g a + (g b + _); omega
  | trans _ _ h1 h2 => rw [h1, h2]
theorem sumE_congr {g g' : En → Int} : ∀ x : List En, (∀ e ∈ x, g e = g' e) → sumE g x = sumE g' x
  | [], _ => rfl
  | e :: x, h => by show g e + sumE g x = g' e + sumE g' x; rw [h e (List.mem_cons_self ..), sumE_congr x fun y hy => h y (List.mem_cons_of_mem _ hy)]
theorem sumE_zero {g : En → Int} (x : List En) (h : ∀ e ∈ x, g e = 0) : sumE g x = 0 := by
  induction x with
  | nil => rfl
  | cons e x ih => show g e + sumE g x = 0; rw [h e (List.mem_cons_self ..), ih fun y hy => h y (List.mem_cons_of_mem _ hy)]; rfl
theorem sumE_snoc (g : En → Int) (x : List En) (e : En) : sumE g (x ++ [e]) = sumE g x + g e := by
  rw [sumE_append]; show _ + (g e + 0) = _; omega
/-- How many spans are open at a byte. -/
def cntS : List Sp → Int → Int
  | [], _ => 0
  | s :: l, n => (if max s.1 0 ≤ n ∧ n < min s.2 farS then 1 else 0) + cntS l n
theorem cntS_cons (s : Sp) (l : List Sp) (n : Int) : cntS (s :: l) n = (if max s.1 0 ≤ n ∧ n < min s.2 farS then 1 else 0) + cntS l n := rfl
theorem cntS_pos : ∀ (l : List Sp) (n : Int), 0 ≤ cntS l n
  | [], n => Int.le_refl _
  | s :: l, n => by
    have := cntS_pos l n
    rw [cntS_cons]
    split <;> omega
theorem has_cnt : ∀ (l : List Sp) (n : Int), hasS l n = decide (0 < cntS l n)
  | [], n => by rw [has_nil]; rfl
  | s :: l, n => by
    have h0 := cntS_pos l n
    rw [has_cons, has_cnt l n]
    rw [cntS_cons]
    by_cases h : max s.1 0 ≤ n ∧ n < min s.2 farS
    · rw [if_pos h, decide_eq_true (by omega : 0 ≤ n ∧ n < farS), decide_eq_true (by omega : s.1 ≤ n ∧ n < s.2), decide_eq_true (by omega : 0 < 1 + cntS l n)]
      rfl
    · rw [if_neg h, Int.zero_add]
      by_cases h1 : 0 ≤ n ∧ n < farS
      · rw [decide_eq_false (by omega : ¬ (s.1 ≤ n ∧ n < s.2))]; simp
      · rw [decide_eq_false h1]; simp
/-- What lies at or before a byte. -/
def fstE (n : Int) (e : En) : Int := if e.1 ≤ n then e.2.1 else 0
def sndE (n : Int) (e : En) : Int := if e.1 ≤ n then e.2.2 else 0
theorem ends_fst (a b n : Int) : ∀ l : List Sp, sumE (fstE n) (endsP l a b) = a * cntS l n
  | [] => by show (0 : Int) = a * 0; rw [Int.mul_zero]
  | s :: l => by
    unfold endsP
    rw [List.flatMap_cons, sumE_append]
    have ih := ends_fst a b n l
    unfold endsP at ih
    rw [ih]
    rw [cntS_cons]
    rw [Int.mul_add]
    congr 1
    by_cases h : max s.1 0 < min s.2 farS
    · rw [if_pos h]
      show fstE n _ + (fstE n _ + 0) = _
      unfold fstE
      dsimp only
      by_cases h1 : max s.1 0 ≤ n
      · by_cases h2 : min s.2 farS ≤ n
        · rw [if_pos h1, if_pos h2, if_neg (by omega)]; omega
        · rw [if_pos h1, if_neg h2, if_pos (by omega)]; omega
      · rw [if_neg h1, if_neg (by omega), if_neg (by omega)]; omega
    · rw [if_neg h, if_neg (by omega), Int.mul_zero]; rfl
theorem ends_snd (a b n : Int) : ∀ l : List Sp, sumE (sndE n) (endsP l a b) = b * cntS l n
  | [] => by show (0 : Int) = b * 0; rw [Int.mul_zero]
  | s :: l => by
    unfold endsP
    rw [List.flatMap_cons, sumE_append]
    have ih := ends_snd a b n l
    unfold endsP at ih
    rw [ih]
    rw [cntS_cons]
    rw [Int.mul_add]
    congr 1
    by_cases h : max s.1 0 < min s.2 farS
    · rw [if_pos h]
      show sndE n _ + (sndE n _ + 0) = _
      unfold sndE
      dsimp only
      by_cases h1 : max s.1 0 ≤ n
      · by_cases h2 : min s.2 farS ≤ n
        · rw [if_pos h1, if_pos h2, if_neg (by omega)]; omega
        · rw [if_pos h1, if_neg h2, if_pos (by omega)]; omega
      · rw [if_neg h1, if_neg (by omega), if_neg (by omega)]; omega
    · rw [if_neg h, if_neg (by omega), Int.mul_zero]; rfl
theorem ends_in {l : List Sp} {a b : Int} {e : En} (h : e ∈ endsP l a b) : (0 ≤ e.1 ∧ e.1 ≤ farS) ∧ (e.2 = (a, b) ∨ e.2 = (-a, -b)) := by
  unfold endsP at h
  obtain ⟨s, _, h⟩ := List.mem_flatMap.1 h
  split at h
  · rcases List.mem_cons.1 h with rfl | h
    · exact ⟨by dsimp only; omega, .inl rfl⟩
    · obtain rfl := List.mem_singleton.1 h
      exact ⟨by dsimp only; omega, .inr rfl⟩
  · exact absurd h (by simp)
theorem ends_len (a b : Int) : ∀ l : List Sp, (endsP l a b).length ≤ 2 * l.length
  | [] => Nat.le_refl _
  | s :: l => by
    have := ends_len a b l
    unfold endsP at this ⊢
    rw [List.flatMap_cons, List.length_append, List.length_cons]
    split <;> simp only [List.length_cons, List.length_nil] <;> omega
theorem cntS_far (l : List Sp) {n : Int} (h : farS ≤ n) : cntS l n = 0 := by
  induction l with
  | nil => rfl
  | cons s l ih =>
    rw [cntS_cons]
    rw [ih, if_neg (by omega)]; rfl
theorem cntS_low (l : List Sp) {n : Int} (h : n < 0) : cntS l n = 0 := by
  induction l with
  | nil => rfl
  | cons s l ih =>
    rw [cntS_cons]
    rw [ih, if_neg (by omega)]; rfl

/-! ### the running counts -/
/-- All ends of two rows, rising. -/
structure Rise (a b : List Sp) (E : List En) : Prop where
  perm : E.Perm (endsP a 1 0 ++ endsP b 0 1)
  up : E.Pairwise fun x y => x.1 ≤ y.1
theorem Rise.fst {a b : List Sp} {E : List En} (h : Rise a b E) (n : Int) : sumE (fstE n) E = cntS a n := by
  rw [sumE_perm _ h.perm, sumE_append, ends_fst, ends_fst]; omega
theorem Rise.snd {a b : List Sp} {E : List En} (h : Rise a b E) (n : Int) : sumE (sndE n) E = cntS b n := by
  rw [sumE_perm _ h.perm, sumE_append, ends_snd, ends_snd]; omega
theorem Rise.bd {a b : List Sp} {E : List En} (h : Rise a b E) {e : En} (he : e ∈ E) : (0 ≤ e.1 ∧ e.1 ≤ farS) ∧ (-1 ≤ e.2.1 ∧ e.2.1 ≤ 1) ∧ -1 ≤ e.2.2 ∧ e.2.2 ≤ 1 := by
  rcases List.mem_append.1 (h.perm.mem_iff.1 he) with h1 | h1
  · obtain ⟨k, k1 | k1⟩ := ends_in h1 <;> rw [k1] <;> exact ⟨k, by decide, by decide⟩
  · obtain ⟨k, k1 | k1⟩ := ends_in h1 <;> rw [k1] <;> exact ⟨k, by decide, by decide⟩
theorem Rise.len {a b : List Sp} {E : List En} (h : Rise a b E) : E.length ≤ 2 * a.length + 2 * b.length := by
  rw [h.perm.length_eq, List.length_append]
  have := ends_len 1 0 a
  have := ends_len 0 1 b
  omega
/-- The sums of the first ends are the counts at the bytes behind them. -/
theorem sum_take {E : List En} (up : E.Pairwise fun x y => x.1 ≤ y.1) {i : Nat} (hi : i < E.length) {n : Int} (hn : E[i].1 ≤ n) (hn2 : ∀ h : i + 1 < E.length, n < E[i + 1].1) (g : En → Int) :
    sumE (fun e => if e.1 ≤ n then g e else 0) E = sumE g (E.take (i + 1)) := by
  have hup := List.pairwise_iff_getElem.1 up
  conv => lhs; rw [← List.take_append_drop (i + 1) E]
  rw [sumE_append, sumE_zero (E.drop (i + 1)), Int.add_zero]
  · refine sumE_congr _ fun e he => ?_
    obtain ⟨j, hj, rfl⟩ := List.mem_iff_getElem.1 he
    rw [List.length_take] at hj
    rw [List.getElem_take]
    rw [if_pos]
    rcases Nat.lt_or_eq_of_le (by omega : j ≤ i) with h1 | h1
    · have := hup j i (by omega) hi h1; omega
    · subst h1; exact hn
  · intro e he
    obtain ⟨j, hj, rfl⟩ := List.mem_iff_getElem.1 he
    rw [List.length_drop] at hj
    rw [List.getElem_drop, if_neg]
    have h1 : i + 1 < E.length := by omega
    have := hn2 h1
    rcases Nat.eq_zero_or_pos j with h2 | h2
    · subst h2; simpa using this
    · have := hup (i + 1) (i + 1 + j) h1 (by omega) (by omega); omega
def wantP (w : Int → Int → Bool) (a b : List Sp) (n : Int) : Bool := w (cntS a n) (cntS b n)
theorem want_at {w : Int → Int → Bool} {a b : List Sp} {E : List En} (h : Rise a b E) {i : Nat} (hi : i < E.length) {n : Int} (hn : E[i].1 ≤ n) (hn2 : ∀ h : i + 1 < E.length, n < E[i + 1].1) :
    wantP w a b n = w (sumE (fun e => e.2.1) (E.take (i + 1))) (sumE (fun e => e.2.2) (E.take (i + 1))) := by
  unfold wantP
  rw [← h.fst, ← h.snd, ← sum_take h.up hi hn hn2, ← sum_take h.up hi hn hn2]
  rfl
theorem want_far {w : Int → Int → Bool} (hw : w 0 0 = false) (a b : List Sp) {n : Int} (h : n < 0 ∨ farS ≤ n) : wantP w a b n = false := by
  unfold wantP
  rcases h with h | h
  · rw [cntS_low _ h, cntS_low _ h, hw]
  · rw [cntS_far _ h, cntS_far _ h, hw]
theorem of_start {w : Int → Int → Bool} (hw : w 0 0 = false) {a b : List Sp} {E : List En} (h : Rise a b E) (h0 : 0 < E.length) : Upto (wantP w a b) [] E[0].1 := by
  refine Upto.nil fun n hn => ?_
  have hup := List.pairwise_iff_getElem.1 h.up
  have hlow : ∀ e ∈ E, ¬ e.1 ≤ n := fun e he => by
    obtain ⟨j, hj, rfl⟩ := List.mem_iff_getElem.1 he
    rcases Nat.eq_zero_or_pos j with h2 | h2
    · subst h2; omega
    · have := hup 0 j h0 hj h2; omega
  unfold wantP
  rw [← h.fst, ← h.snd, sumE_zero (g := fstE n) _ fun e he => if_neg (hlow e he), sumE_zero (g := sndE n) _ fun e he => if_neg (hlow e he), hw]
theorem of_none {w : Int → Int → Bool} (hw : w 0 0 = false) {a b : List Sp} {E : List En} (h : Rise a b E) (h0 : E.length = 0) : CleanR [] ∧ ∀ n, hasS [] n = wantP w a b n := by
  refine ⟨trivial, fun n => ?_⟩
  have : E = [] := List.eq_nil_of_length_eq_zero h0
  unfold wantP
  rw [← h.fst, ← h.snd, this, has_nil]
  exact hw.symm
theorem of_same {w : Int → Int → Bool} {a b : List Sp} {E : List En} {out : List Sp} {i : Nat} (hi : i + 1 < E.length) (he : E[i + 1].1 = E[i].1) (hU : Upto (wantP w a b) out E[i].1) : Upto (wantP w a b) out E[i + 1].1 := by rw [he]; exact hU
theorem of_skip {w : Int → Int → Bool} {a b : List Sp} {E : List En} (h : Rise a b E) {out : List Sp} {i : Nat} (hi : i + 1 < E.length) (hw : w (sumE (fun e => e.2.1) (E.take (i + 1))) (sumE (fun e => e.2.2) (E.take (i + 1))) = false)
    (hU : Upto (wantP w a b) out E[i].1) : Upto (wantP w a b) out E[i + 1].1 :=
  hU.skip (List.pairwise_iff_getElem.1 h.up i (i + 1) (by omega) hi (by omega)) fun n h1 h2 => by rw [want_at h (by omega) h1 fun _ => h2]; exact hw
theorem of_put {w : Int → Int → Bool} {a b : List Sp} {E : List En} (h : Rise a b E) {out : List Sp} {i : Nat} (hi : i + 1 < E.length) (he : ¬ E[i + 1].1 = E[i].1) (hw : w (sumE (fun e => e.2.1) (E.take (i + 1))) (sumE (fun e => e.2.2) (E.take (i + 1))) = true)
    (hU : Upto (wantP w a b) out E[i].1) : Upto (wantP w a b) (addS out (E[i].1, E[i + 1].1)) E[i + 1].1 := by
  have h1 := List.pairwise_iff_getElem.1 h.up i (i + 1) (by omega) hi (by omega)
  refine hU.put (h.bd (List.getElem_mem (by omega : i < E.length))).1.1 (by omega) (h.bd (List.getElem_mem hi)).1.2 fun n h1 h2 => by rw [want_at h (by omega) h1 fun _ => h2]; exact hw
theorem sum_all {a b : List Sp} {E : List En} (h : Rise a b E) : sumE (fun e => e.2.1) E = 0 ∧ sumE (fun e => e.2.2) E = 0 := by
  have h1 := h.fst farS
  have h2 := h.snd farS
  rw [cntS_far _ (Int.le_refl _)] at h1 h2
  constructor
  · rw [← h1]
    exact sumE_congr _ fun e he => (if_pos (h.bd he).1.2).symm
  · rw [← h2]
    exact sumE_congr _ fun e he => (if_pos (h.bd he).1.2).symm
theorem of_end {w : Int → Int → Bool} (hw : w 0 0 = false) {a b : List Sp} {E : List En} (h : Rise a b E) {out : List Sp} {i : Nat} (hi : i + 1 = E.length) (hU : Upto (wantP w a b) out (E[i]'(by omega)).1) : CleanR out ∧ ∀ n, hasS out n = wantP w a b n := by
  refine hU.end_ fun n hn => ?_
  rw [want_at h (by omega) hn (fun h => by omega), List.take_of_length_le (by omega), (sum_all h).1, (sum_all h).2, hw]
end Go.Proofs.Ytcdodchjgadcoaa
