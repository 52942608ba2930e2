/- Parts of the proof, joined: Sp1 Sp2 Sp3 Sp4 Sp5 Sp6 Sp7 Sp8. -/
import Derived.Test.YthkeoimjjgmppaaDoorRows
import Derived.Test.YthkeoimjjgmppaaDoorQa
import Derived.BigQuiet
/- Sets of bytes as rows of spans: plain. -/
namespace Go.Proofs.YthkeoimjjgmppaaDoor
set_option linter.unusedVariables false

abbrev Sp := Int × Int
def farS : Int := 1099511627776
/-- Is a byte in a row's spans? -/
def hasS (l : List Sp) (n : Int) : Bool := decide (0 ≤ n ∧ n < farS) && l.any fun s => decide (s.1 ≤ n ∧ n < s.2)
/-- A clean row. -/
def CleanR : List Sp → Prop
  | [] => True
  | s :: l => (0 ≤ s.1 ∧ s.1 < s.2 ∧ s.2 ≤ farS) ∧ (∀ t ∈ l, s.2 < t.1) ∧ CleanR l
theorem has_nil (n : Int) : hasS [] n = false := by simp [hasS]
theorem has_cons (s : Sp) (l : List Sp) (n : Int) : hasS (s :: l) n = (decide (0 ≤ n ∧ n < farS) && (decide (s.1 ≤ n ∧ n < s.2)) || hasS l n) := by
  unfold hasS
  rw [List.any_cons]
  cases decide (0 ≤ n ∧ n < farS) <;> cases decide (s.1 ≤ n ∧ n < s.2) <;> simp
theorem has_true {l : List Sp} {n : Int} : hasS l n = true ↔ (0 ≤ n ∧ n < farS) ∧ ∃ s ∈ l, s.1 ≤ n ∧ n < s.2 := by
  unfold hasS
  rw [Bool.and_eq_true, decide_eq_true_eq, List.any_eq_true]
  simp only [decide_eq_true_eq]
theorem has_false {l : List Sp} {n : Int} : hasS l n = false ↔ ¬ ((0 ≤ n ∧ n < farS) ∧ ∃ s ∈ l, s.1 ≤ n ∧ n < s.2) := by
  rw [← has_true, Bool.not_eq_true]
theorem clean_mem : ∀ {l : List Sp}, CleanR l → ∀ s ∈ l, 0 ≤ s.1 ∧ s.1 < s.2 ∧ s.2 ≤ farS
  | [], _, s, hs => absurd hs (by simp)
  | x :: l, h, s, hs => by
    rcases List.mem_cons.1 hs with rfl | hs
    · exact h.1
    · exact clean_mem h.2.2 s hs
theorem clean_one {l : List Sp} (h : CleanR l) {n : Int} : hasS l n = true ↔ ∃ s ∈ l, s.1 ≤ n ∧ n < s.2 := by
  rw [has_true]
  refine ⟨fun h => h.2, fun ⟨s, hs, h1⟩ => ⟨?_, s, hs, h1⟩⟩
  have := clean_mem h s hs
  omega
/-- A clean row is told by its bytes. -/
theorem clean_same : ∀ {l l' : List Sp}, CleanR l → CleanR l' → (∀ n, hasS l n = hasS l' n) → l = l'
  | [], [], _, _, _ => rfl
  | [], s :: l', _, h', he => by
    have h1 := he s.1
    rw [has_nil] at h1
    have h2 : hasS (s :: l') s.1 = true := (clean_one h').2 ⟨s, List.mem_cons_self .., by omega, h'.1.2.1⟩
    rw [h2] at h1
    cases h1
  | s :: l, [], h, _, he => by
    have h1 := he s.1
    rw [has_nil] at h1
    have h2 : hasS (s :: l) s.1 = true := (clean_one h).2 ⟨s, List.mem_cons_self .., by omega, h.1.2.1⟩
    rw [h2] at h1
    cases h1
  | s :: l, t :: l', h, h', he => by
    have low : ∀ {s : Sp} {l : List Sp}, CleanR (s :: l) → ∀ n, hasS (s :: l) n = true → s.1 ≤ n := fun {s l} h n hn => by
      obtain ⟨x, hx, h1⟩ := (clean_one h).1 hn
      rcases List.mem_cons.1 hx with rfl | hx
      · exact h1.1
      · have := h.2.1 x hx
        have := h.1
        omega
    have first : ∀ {s : Sp} {l : List Sp}, CleanR (s :: l) → ∀ n, s.1 ≤ n → n < s.2 → hasS (s :: l) n = true := fun {s l} h n h1 h2 => (clean_one h).2 ⟨s, List.mem_cons_self .., h1, h2⟩
    have gap : ∀ {s : Sp} {l : List Sp}, CleanR (s :: l) → hasS (s :: l) s.2 = false := fun {s l} h => by
      cases hb : hasS (s :: l) s.2
      · rfl
      · obtain ⟨x, hx, h1⟩ := (clean_one h).1 hb
        rcases List.mem_cons.1 hx with rfl | hx
        · omega
        · have := h.2.1 x hx
          omega
    have tail : ∀ {s : Sp} {l : List Sp}, CleanR (s :: l) → ∀ n, hasS l n = (hasS (s :: l) n && decide (s.2 ≤ n)) := fun {s l} h n => by
      rw [has_cons]
      by_cases hn : s.2 ≤ n
      · rw [decide_eq_true hn, decide_eq_false (by omega : ¬ (s.1 ≤ n ∧ n < s.2))]
        simp
      · rw [decide_eq_false hn, Bool.and_false]
        refine has_false.2 fun ⟨_, x, hx, h1⟩ => ?_
        have := h.2.1 x hx
        omega
    have e1 : s.1 = t.1 := by
      have a := low h' s.1 (by rw [← he]; exact first h _ (Int.le_refl _) h.1.2.1)
      have b := low h t.1 (by rw [he]; exact first h' _ (Int.le_refl _) h'.1.2.1)
      omega
    have e2 : s.2 = t.2 := by
      have g1 := gap h
      have g2 := gap h'
      have hs := h.1
      have ht := h'.1
      rcases Int.lt_trichotomy s.2 t.2 with hl | hl | hl
      · rw [he, first h' s.2 (by omega) hl] at g1; cases g1
      · exact hl
      · rw [← he, first h t.2 (by omega) hl] at g2; cases g2
    have est : s = t := Prod.ext e1 e2
    subst est
    rw [clean_same h.2.2 h'.2.2 fun n => by rw [tail h, tail h', he]]

/-! ### a row that grows at its end -/
/-- The last span goes on, or a new one begins. -/
def addS (out : List Sp) (s : Sp) : List Sp := match out.getLast? with
  | some x => if x.2 = s.1 then out.dropLast ++ [(x.1, s.2)] else out ++ [s]
  | none => [s]
/-- A row up to a point. -/
structure Upto (f : Int → Bool) (out : List Sp) (p : Int) : Prop where
  clean : CleanR out
  low : ∀ s ∈ out, s.2 ≤ p
  is : ∀ n, hasS out n = (decide (n < p) && f n)
theorem clean_snoc : ∀ {l : List Sp} {s : Sp}, CleanR l → (0 ≤ s.1 ∧ s.1 < s.2 ∧ s.2 ≤ farS) → (∀ x ∈ l, x.2 < s.1) → CleanR (l ++ [s])
  | [], s, _, h, _ => ⟨h, fun t ht => absurd ht (by simp), trivial⟩
  | x :: l, s, hl, h, hx => by
    refine ⟨hl.1, fun t ht => ?_, clean_snoc hl.2.2 h fun y hy => hx y (List.mem_cons_of_mem _ hy)⟩
    rcases List.mem_append.1 ht with ht | ht
    · exact hl.2.1 t ht
    · obtain rfl : t = s := by simpa using ht
      exact hx x (List.mem_cons_self ..)
theorem clean_init : ∀ {l : List Sp} {s : Sp}, CleanR (l ++ [s]) → CleanR l ∧ (0 ≤ s.1 ∧ s.1 < s.2 ∧ s.2 ≤ farS) ∧ ∀ x ∈ l, x.2 < s.1
  | [], s, h => ⟨trivial, h.1, fun x hx => absurd hx (by simp)⟩
  | y :: l, s, h => by
    obtain ⟨h1, h2, h3⟩ := h
    obtain ⟨i1, i2, i3⟩ := clean_init h3
    refine ⟨⟨h1, fun t ht => h2 t (List.mem_append_left _ ht), i1⟩, i2, fun x hx => ?_⟩
    rcases List.mem_cons.1 hx with rfl | hx
    · exact h2 s (List.mem_append_right _ (List.mem_singleton.2 rfl))
    · exact i3 x hx
theorem has_append (a b : List Sp) (n : Int) : hasS (a ++ b) n = (hasS a n || hasS b n) := by
  unfold hasS
  rw [List.any_append]
  cases decide (0 ≤ n ∧ n < farS) <;> simp
theorem has_single (s : Sp) (hs : 0 ≤ s.1 ∧ s.2 ≤ farS) (n : Int) : hasS [s] n = decide (s.1 ≤ n ∧ n < s.2) := by
  rw [has_cons, has_nil, Bool.or_false]
  by_cases h : s.1 ≤ n ∧ n < s.2
  · rw [decide_eq_true h, decide_eq_true (by omega : 0 ≤ n ∧ n < farS)]; rfl
  · rw [decide_eq_false h, Bool.and_false]
theorem split_last (out : List Sp) : out = [] ∨ ∃ l x, out = l ++ [x] := by
  rcases List.eq_nil_or_concat out with h | ⟨l, x, h⟩
  · exact .inl h
  · exact .inr ⟨l, x, by rw [h, List.concat_eq_append]⟩
theorem addS_nil (s : Sp) : addS [] s = [s] := rfl
theorem addS_snoc (l : List Sp) (x s : Sp) : addS (l ++ [x]) s = if x.2 = s.1 then l ++ [(x.1, s.2)] else l ++ [x] ++ [s] := by
  unfold addS
  rw [List.getLast?_concat, List.dropLast_concat]
theorem Upto.put {f : Int → Bool} {out : List Sp} {p q : Int} (h : Upto f out p) (hp : 0 ≤ p) (hpq : p < q) (hq : q ≤ farS) (hf : ∀ n, p ≤ n → n < q → f n = true) : Upto f (addS out (p, q)) q := by
  have key : ∀ n, (hasS out n || decide (p ≤ n ∧ n < q)) = (decide (n < q) && f n) := fun n => by
    rw [h.is]
    by_cases h1 : n < p
    · rw [decide_eq_true h1, decide_eq_true (by omega : n < q), decide_eq_false (by omega : ¬ (p ≤ n ∧ n < q))]; simp
    · rw [decide_eq_false h1]
      by_cases h2 : n < q
      · rw [decide_eq_true h2, decide_eq_true (by omega : p ≤ n ∧ n < q), hf n (by omega) h2]; rfl
      · rw [decide_eq_false h2, decide_eq_false (by omega : ¬ (p ≤ n ∧ n < q))]; rfl
  rcases split_last out with rfl | ⟨l, x, rfl⟩
  · rw [addS_nil]
    refine ⟨⟨⟨hp, hpq, hq⟩, fun t ht => absurd ht (by simp), trivial⟩, fun s hs => ?_, fun n => ?_⟩
    · obtain rfl : s = (p, q) := by simpa using hs
      exact Int.le_refl _
    · rw [← key, has_nil, Bool.false_or]
      exact has_single (p, q) ⟨hp, hq⟩ n
  · obtain ⟨c1, c2, c3⟩ := clean_init h.clean
    have hx := h.low x (List.mem_append_right _ (List.mem_singleton.2 rfl))
    rw [addS_snoc]
    by_cases he : x.2 = p
    · rw [if_pos he]
      refine ⟨clean_snoc c1 ⟨c2.1, by show x.1 < q; omega, hq⟩ c3, fun s hs => ?_, fun n => ?_⟩
      · rcases List.mem_append.1 hs with hs | hs
        · have := c3 s hs; omega
        · obtain rfl : s = (x.1, q) := by simpa using hs
          exact Int.le_refl _
      · rw [← key, has_append, has_append, has_single (x.1, q) ⟨c2.1, hq⟩, has_single x ⟨c2.1, c2.2.2⟩, Bool.or_assoc]
        congr 1
        by_cases h1 : x.1 ≤ n ∧ n < q
        · rw [decide_eq_true h1]
          by_cases h2 : n < p
          · rw [decide_eq_true (by omega : x.1 ≤ n ∧ n < x.2)]; rfl
          · rw [decide_eq_true (by omega : p ≤ n ∧ n < q)]; simp
        · rw [decide_eq_false h1, decide_eq_false (by omega : ¬ (x.1 ≤ n ∧ n < x.2)), decide_eq_false (by omega : ¬ (p ≤ n ∧ n < q))]; rfl
    · rw [if_neg he]
      refine ⟨clean_snoc h.clean ⟨hp, hpq, hq⟩ fun y hy => ?_, fun s hs => ?_, fun n => ?_⟩
      · show y.2 < p
        rcases List.mem_append.1 hy with hy | hy
        · have := c3 y hy; omega
        · obtain rfl : y = x := by simpa using hy
          omega
      · rcases List.mem_append.1 hs with hs | hs
        · have := h.low s hs; omega
        · obtain rfl : s = (p, q) := by simpa using hs
          exact Int.le_refl _
      · rw [← key, has_append, has_single (p, q) ⟨hp, hq⟩]
theorem Upto.skip {f : Int → Bool} {out : List Sp} {p q : Int} (h : Upto f out p) (hpq : p ≤ q) (hf : ∀ n, p ≤ n → n < q → f n = false) : Upto f out q := by
  refine ⟨h.clean, fun s hs => by have := h.low s hs; omega, fun n => ?_⟩
  rw [h.is]
  by_cases h1 : n < p
  · rw [decide_eq_true h1, decide_eq_true (by omega : n < q)]
  · rw [decide_eq_false h1]
    by_cases h2 : n < q
    · rw [hf n (by omega) h2]; simp
    · rw [decide_eq_false h2]
theorem Upto.nil {f : Int → Bool} {p : Int} (hf : ∀ n, n < p → f n = false) : Upto f [] p := by
  refine ⟨trivial, fun s hs => absurd hs (by simp), fun n => ?_⟩
  rw [has_nil]
  by_cases h1 : n < p
  · rw [hf n h1]; simp
  · rw [decide_eq_false h1]; rfl
theorem Upto.end_ {f : Int → Bool} {out : List Sp} {p : Int} (h : Upto f out p) (hf : ∀ n, p ≤ n → f n = false) : CleanR out ∧ ∀ n, hasS out n = f n := by
  refine ⟨h.clean, fun n => ?_⟩
  rw [h.is]
  by_cases h1 : n < p
  · rw [decide_eq_true h1]; rfl
  · rw [hf n (by omega)]; simp

/-! ### how many bytes -/
def sumS (l : List Sp) : Int := l.foldl (fun n s => n + (s.2 - s.1)) 0
def cntN (f : Int → Bool) : Nat → Int
  | 0 => 0
  | n + 1 => cntN f n + if f (n : Int) = true then 1 else 0
theorem cnt_congr {f g : Int → Bool} : ∀ N : Nat, (∀ n : Nat, n < N → f n = g n) → cntN f N = cntN g N
  | 0, _ => rfl
  | N + 1, h => by
    unfold cntN
    rw [cnt_congr N fun n hn => h n (by omega), h N (by omega)]
theorem cnt_or {f g : Int → Bool} : ∀ N : Nat, (∀ n, f n = true → g n = false) → cntN (fun n => f n || g n) N = cntN f N + cntN g N
  | 0, _ => rfl
  | N + 1, h => by
    unfold cntN
    rw [cnt_or N h]
    have := h N
    cases hf : f (N : Int) <;> cases hg : g (N : Int) <;> simp_all <;> omega
theorem cnt_between (a b : Int) (ha : 0 ≤ a) (hab : a ≤ b) : ∀ N : Nat, cntN (fun n => decide (a ≤ n ∧ n < b)) N = min b (max a N) - a
  | 0 => by unfold cntN; omega
  | N + 1 => by
    unfold cntN
    rw [cnt_between a b ha hab N]
    by_cases h : a ≤ (N : Int) ∧ (N : Int) < b
    · rw [if_pos (decide_eq_true h)]; omega
    · rw [if_neg (by rw [decide_eq_true_eq]; exact h)]; omega
theorem cnt_none : ∀ N : Nat, cntN (fun _ => false) N = 0
  | 0 => rfl
  | N + 1 => by unfold cntN; rw [cnt_none N]; rfl
theorem sum_from (l : List Sp) : ∀ n : Int, l.foldl (fun n s => n + (s.2 - s.1)) n = n + sumS l := by
  unfold sumS
  induction l with
  | nil => intro n; simp
  | cons s l ih =>
    intro n
    rw [List.foldl_cons, List.foldl_cons, ih, ih (0 + _)]
    omega
theorem sum_cons (s : Sp) (l : List Sp) : sumS (s :: l) = (s.2 - s.1) + sumS l := by
  show List.foldl _ _ _ = _
  rw [List.foldl_cons, sum_from]
  omega
theorem sum_is : ∀ {l : List Sp}, CleanR l → sumS l = cntN (hasS l) farS.toNat
  | [], _ => by rw [show hasS [] = fun _ => false from funext has_nil, cnt_none]; rfl
  | s :: l, h => by
    have hs := h.1
    have e : hasS (s :: l) = fun n => decide (s.1 ≤ n ∧ n < s.2) || hasS l n := funext fun n => by
      rw [show s :: l = [s] ++ l from rfl, has_append, has_single s ⟨hs.1, hs.2.2⟩]
    rw [e, cnt_or _ fun n hn => ?_, cnt_between _ _ hs.1 (by omega), sum_cons, sum_is h.2.2]
    · have : ((farS.toNat : Nat) : Int) = farS := by unfold farS; rfl
      rw [this]
      omega
    · have hn := of_decide_eq_true hn
      refine has_false.2 fun ⟨_, x, hx, h1⟩ => ?_
      have := h.2.1 x hx
      omega
end Go.Proofs.YthkeoimjjgmppaaDoor

/- Where spans begin and end, and how many there are at a byte: plain. -/
namespace Go.Proofs.YthkeoimjjgmppaaDoor
set_option linter.unusedVariables false

/-- An end: where, and how many spans of the one and the other row begin there. -/
abbrev En := Int × Int × Int
def endsP (l : List Sp) (a b : Int) : List En := l.flatMap fun s => if max s.1 0 < min s.2 farS then [(max s.1 0, a, b), (min s.2 farS, -a, -b)] else []
def sumE (g : En → Int) : List En → Int
  | [] => 0
  | e :: E => g e + sumE g E
theorem sumE_append (g : En → Int) : ∀ x y : List En, sumE g (x ++ y) = sumE g x + sumE g y
  | [], y => by rw [List.nil_append]; show _ = 0 + _; omega
  | e :: x, y => by rw [List.cons_append]; show g e + sumE g (x ++ y) = g e + sumE g x + _; rw [sumE_append g x y]; omega
theorem sumE_perm (g : En → Int) {x y : List En} (h : x.Perm y) : sumE g x = sumE g y := by
  induction h with
  | nil => rfl
  | cons e _ ih => show g e + _ = g e + _; rw [ih]
  | swap a b l => show g b + (g a + _) = g a + (g b + _); omega
  | trans _ _ h1 h2 => rw [h1, h2]
theorem sumE_congr {g g' : En → Int} : ∀ x : List En, (∀ e ∈ x, g e = g' e) → sumE g x = sumE g' x
  | [], _ => rfl
  | e :: x, h => by show g e + sumE g x = g' e + sumE g' x; rw [h e (List.mem_cons_self ..), sumE_congr x fun y hy => h y (List.mem_cons_of_mem _ hy)]
theorem sumE_zero {g : En → Int} (x : List En) (h : ∀ e ∈ x, g e = 0) : sumE g x = 0 := by
  induction x with
  | nil => rfl
  | cons e x ih => show g e + sumE g x = 0; rw [h e (List.mem_cons_self ..), ih fun y hy => h y (List.mem_cons_of_mem _ hy)]; rfl
theorem sumE_snoc (g : En → Int) (x : List En) (e : En) : sumE g (x ++ [e]) = sumE g x + g e := by
  rw [sumE_append]; show _ + (g e + 0) = _; omega
/-- How many spans are open at a byte. -/
def cntS : List Sp → Int → Int
  | [], _ => 0
  | s :: l, n => (if max s.1 0 ≤ n ∧ n < min s.2 farS then 1 else 0) + cntS l n
theorem cntS_cons (s : Sp) (l : List Sp) (n : Int) : cntS (s :: l) n = (if max s.1 0 ≤ n ∧ n < min s.2 farS then 1 else 0) + cntS l n := rfl
theorem cntS_pos : ∀ (l : List Sp) (n : Int), 0 ≤ cntS l n
  | [], n => Int.le_refl _
  | s :: l, n => by
    have := cntS_pos l n
    rw [cntS_cons]
    split <;> omega
theorem has_cnt : ∀ (l : List Sp) (n : Int), hasS l n = decide (0 < cntS l n)
  | [], n => by rw [has_nil]; rfl
  | s :: l, n => by
    have h0 := cntS_pos l n
    rw [has_cons, has_cnt l n]
    rw [cntS_cons]
    by_cases h : max s.1 0 ≤ n ∧ n < min s.2 farS
    · rw [if_pos h, decide_eq_true (by omega : 0 ≤ n ∧ n < farS), decide_eq_true (by omega : s.1 ≤ n ∧ n < s.2), decide_eq_true (by omega : 0 < 1 + cntS l n)]
      rfl
    · rw [if_neg h, Int.zero_add]
      by_cases h1 : 0 ≤ n ∧ n < farS
      · rw [decide_eq_false (by omega : ¬ (s.1 ≤ n ∧ n < s.2))]; simp
      · rw [decide_eq_false h1]; simp
/-- What lies at or before a byte. -/
def fstE (n : Int) (e : En) : Int := if e.1 ≤ n then e.2.1 else 0
def sndE (n : Int) (e : En) : Int := if e.1 ≤ n then e.2.2 else 0
theorem ends_fst (a b n : Int) : ∀ l : List Sp, sumE (fstE n) (endsP l a b) = a * cntS l n
  | [] => by show (0 : Int) = a * 0; rw [Int.mul_zero]
  | s :: l => by
    unfold endsP
    rw [List.flatMap_cons, sumE_append]
    have ih := ends_fst a b n l
    unfold endsP at ih
    rw [ih]
    rw [cntS_cons]
    rw [Int.mul_add]
    congr 1
    by_cases h : max s.1 0 < min s.2 farS
    · rw [if_pos h]
      show fstE n _ + (fstE n _ + 0) = _
      unfold fstE
      dsimp only
      by_cases h1 : max s.1 0 ≤ n
      · by_cases h2 : min s.2 farS ≤ n
        · rw [if_pos h1, if_pos h2, if_neg (by omega)]; omega
        · rw [if_pos h1, if_neg h2, if_pos (by omega)]; omega
      · rw [if_neg h1, if_neg (by omega), if_neg (by omega)]; omega
    · rw [if_neg h, if_neg (by omega), Int.mul_zero]; rfl
theorem ends_snd (a b n : Int) : ∀ l : List Sp, sumE (sndE n) (endsP l a b) = b * cntS l n
  | [] => by show (0 : Int) = b * 0; rw [Int.mul_zero]
  | s :: l => by
    unfold endsP
    rw [List.flatMap_cons, sumE_append]
    have ih := ends_snd a b n l
    unfold endsP at ih
    rw [ih]
    rw [cntS_cons]
    rw [Int.mul_add]
    congr 1
    by_cases h : max s.1 0 < min s.2 farS
    · rw [if_pos h]
      show sndE n _ + (sndE n _ + 0) = _
      unfold sndE
      dsimp only
      by_cases h1 : max s.1 0 ≤ n
      · by_cases h2 : min s.2 farS ≤ n
        · rw [if_pos h1, if_pos h2, if_neg (by omega)]; omega
        · rw [if_pos h1, if_neg h2, if_pos (by omega)]; omega
      · rw [if_neg h1, if_neg (by omega), if_neg (by omega)]; omega
    · rw [if_neg h, if_neg (by omega), Int.mul_zero]; rfl
theorem ends_in {l : List Sp} {a b : Int} {e : En} (h : e ∈ endsP l a b) : (0 ≤ e.1 ∧ e.1 ≤ farS) ∧ (e.2 = (a, b) ∨ e.2 = (-a, -b)) := by
  unfold endsP at h
  obtain ⟨s, _, h⟩ := List.mem_flatMap.1 h
  split at h
  · rcases List.mem_cons.1 h with rfl | h
    · exact ⟨by dsimp only; omega, .inl rfl⟩
    · obtain rfl := List.mem_singleton.1 h
      exact ⟨by dsimp only; omega, .inr rfl⟩
  · exact absurd h (by simp)
theorem ends_len (a b : Int) : ∀ l : List Sp, (endsP l a b).length ≤ 2 * l.length
  | [] => Nat.le_refl _
  | s :: l => by
    have := ends_len a b l
    unfold endsP at this ⊢
    rw [List.flatMap_cons, List.length_append, List.length_cons]
    split <;> simp only [List.length_cons, List.length_nil] <;> omega
theorem cntS_far (l : List Sp) {n : Int} (h : farS ≤ n) : cntS l n = 0 := by
  induction l with
  | nil => rfl
  | cons s l ih =>
    rw [cntS_cons]
    rw [ih, if_neg (by omega)]; rfl
theorem cntS_low (l : List Sp) {n : Int} (h : n < 0) : cntS l n = 0 := by
  induction l with
  | nil => rfl
  | cons s l ih =>
    rw [cntS_cons]
    rw [ih, if_neg (by omega)]; rfl

/-! ### the running counts -/
/-- All ends of two rows, rising. -/
structure Rise (a b : List Sp) (E : List En) : Prop where
  perm : E.Perm (endsP a 1 0 ++ endsP b 0 1)
  up : E.Pairwise fun x y => x.1 ≤ y.1
theorem Rise.fst {a b : List Sp} {E : List En} (h : Rise a b E) (n : Int) : sumE (fstE n) E = cntS a n := by
  rw [sumE_perm _ h.perm, sumE_append, ends_fst, ends_fst]; omega
theorem Rise.snd {a b : List Sp} {E : List En} (h : Rise a b E) (n : Int) : sumE (sndE n) E = cntS b n := by
  rw [sumE_perm _ h.perm, sumE_append, ends_snd, ends_snd]; omega
theorem Rise.bd {a b : List Sp} {E : List En} (h : Rise a b E) {e : En} (he : e ∈ E) : (0 ≤ e.1 ∧ e.1 ≤ farS) ∧ (-1 ≤ e.2.1 ∧ e.2.1 ≤ 1) ∧ -1 ≤ e.2.2 ∧ e.2.2 ≤ 1 := by
  rcases List.mem_append.1 (h.perm.mem_iff.1 he) with h1 | h1
  · obtain ⟨k, k1 | k1⟩ := ends_in h1 <;> rw [k1] <;> exact ⟨k, by decide, by decide⟩
  · obtain ⟨k, k1 | k1⟩ := ends_in h1 <;> rw [k1] <;> exact ⟨k, by decide, by decide⟩
theorem Rise.len {a b : List Sp} {E : List En} (h : Rise a b E) : E.length ≤ 2 * a.length + 2 * b.length := by
  rw [h.perm.length_eq, List.length_append]
  have := ends_len 1 0 a
  have := ends_len 0 1 b
  omega
/-- The sums of the first ends are the counts at the bytes behind them. -/
theorem sum_take {E : List En} (up : E.Pairwise fun x y => x.1 ≤ y.1) {i : Nat} (hi : i < E.length) {n : Int} (hn : E[i].1 ≤ n) (hn2 : ∀ h : i + 1 < E.length, n < E[i + 1].1) (g : En → Int) :
    sumE (fun e => if e.1 ≤ n then g e else 0) E = sumE g (E.take (i + 1)) := by
  have hup := List.pairwise_iff_getElem.1 up
  conv => lhs; rw [← List.take_append_drop (i + 1) E]
  rw [sumE_append, sumE_zero (E.drop (i + 1)), Int.add_zero]
  · refine sumE_congr _ fun e he => ?_
    obtain ⟨j, hj, rfl⟩ := List.mem_iff_getElem.1 he
    rw [List.length_take] at hj
    rw [List.getElem_take]
    rw [if_pos]
    rcases Nat.lt_or_eq_of_le (by omega : j ≤ i) with h1 | h1
    · have := hup j i (by omega) hi h1; omega
    · subst h1; exact hn
  · intro e he
    obtain ⟨j, hj, rfl⟩ := List.mem_iff_getElem.1 he
    rw [List.length_drop] at hj
    rw [List.getElem_drop, if_neg]
    have h1 : i + 1 < E.length := by omega
    have := hn2 h1
    rcases Nat.eq_zero_or_pos j with h2 | h2
    · subst h2; simpa using this
    · have := hup (i + 1) (i + 1 + j) h1 (by omega) (by omega); omega
def wantP (w : Int → Int → Bool) (a b : List Sp) (n : Int) : Bool := w (cntS a n) (cntS b n)
theorem want_at {w : Int → Int → Bool} {a b : List Sp} {E : List En} (h : Rise a b E) {i : Nat} (hi : i < E.length) {n : Int} (hn : E[i].1 ≤ n) (hn2 : ∀ h : i + 1 < E.length, n < E[i + 1].1) :
    wantP w a b n = w (sumE (fun e => e.2.1) (E.take (i + 1))) (sumE (fun e => e.2.2) (E.take (i + 1))) := by
  unfold wantP
  rw [← h.fst, ← h.snd, ← sum_take h.up hi hn hn2, ← sum_take h.up hi hn hn2]
  rfl
theorem want_far {w : Int → Int → Bool} (hw : w 0 0 = false) (a b : List Sp) {n : Int} (h : n < 0 ∨ farS ≤ n) : wantP w a b n = false := by
  unfold wantP
  rcases h with h | h
  · rw [cntS_low _ h, cntS_low _ h, hw]
  · rw [cntS_far _ h, cntS_far _ h, hw]
theorem of_start {w : Int → Int → Bool} (hw : w 0 0 = false) {a b : List Sp} {E : List En} (h : Rise a b E) (h0 : 0 < E.length) : Upto (wantP w a b) [] E[0].1 := by
  refine Upto.nil fun n hn => ?_
  have hup := List.pairwise_iff_getElem.1 h.up
  have hlow : ∀ e ∈ E, ¬ e.1 ≤ n := fun e he => by
    obtain ⟨j, hj, rfl⟩ := List.mem_iff_getElem.1 he
    rcases Nat.eq_zero_or_pos j with h2 | h2
    · subst h2; omega
    · have := hup 0 j h0 hj h2; omega
  unfold wantP
  rw [← h.fst, ← h.snd, sumE_zero (g := fstE n) _ fun e he => if_neg (hlow e he), sumE_zero (g := sndE n) _ fun e he => if_neg (hlow e he), hw]
theorem of_none {w : Int → Int → Bool} (hw : w 0 0 = false) {a b : List Sp} {E : List En} (h : Rise a b E) (h0 : E.length = 0) : CleanR [] ∧ ∀ n, hasS [] n = wantP w a b n := by
  refine ⟨trivial, fun n => ?_⟩
  have : E = [] := List.eq_nil_of_length_eq_zero h0
  unfold wantP
  rw [← h.fst, ← h.snd, this, has_nil]
  exact hw.symm
theorem of_same {w : Int → Int → Bool} {a b : List Sp} {E : List En} {out : List Sp} {i : Nat} (hi : i + 1 < E.length) (he : E[i + 1].1 = E[i].1) (hU : Upto (wantP w a b) out E[i].1) : Upto (wantP w a b) out E[i + 1].1 := by rw [he]; exact hU
theorem of_skip {w : Int → Int → Bool} {a b : List Sp} {E : List En} (h : Rise a b E) {out : List Sp} {i : Nat} (hi : i + 1 < E.length) (hw : w (sumE (fun e => e.2.1) (E.take (i + 1))) (sumE (fun e => e.2.2) (E.take (i + 1))) = false)
    (hU : Upto (wantP w a b) out E[i].1) : Upto (wantP w a b) out E[i + 1].1 :=
  hU.skip (List.pairwise_iff_getElem.1 h.up i (i + 1) (by omega) hi (by omega)) fun n h1 h2 => by rw [want_at h (by omega) h1 fun _ => h2]; exact hw
theorem of_put {w : Int → Int → Bool} {a b : List Sp} {E : List En} (h : Rise a b E) {out : List Sp} {i : Nat} (hi : i + 1 < E.length) (he : ¬ E[i + 1].1 = E[i].1) (hw : w (sumE (fun e => e.2.1) (E.take (i + 1))) (sumE (fun e => e.2.2) (E.take (i + 1))) = true)
    (hU : Upto (wantP w a b) out E[i].1) : Upto (wantP w a b) (addS out (E[i].1, E[i + 1].1)) E[i + 1].1 := by
  have h1 := List.pairwise_iff_getElem.1 h.up i (i + 1) (by omega) hi (by omega)
  refine hU.put (h.bd (List.getElem_mem (by omega : i < E.length))).1.1 (by omega) (h.bd (List.getElem_mem hi)).1.2 fun n h1 h2 => by rw [want_at h (by omega) h1 fun _ => h2]; exact hw
theorem sum_all {a b : List Sp} {E : List En} (h : Rise a b E) : sumE (fun e => e.2.1) E = 0 ∧ sumE (fun e => e.2.2) E = 0 := by
  have h1 := h.fst farS
  have h2 := h.snd farS
  rw [cntS_far _ (Int.le_refl _)] at h1 h2
  constructor
  · rw [← h1]
    exact sumE_congr _ fun e he => (if_pos (h.bd he).1.2).symm
  · rw [← h2]
    exact sumE_congr _ fun e he => (if_pos (h.bd he).1.2).symm
theorem of_end {w : Int → Int → Bool} (hw : w 0 0 = false) {a b : List Sp} {E : List En} (h : Rise a b E) {out : List Sp} {i : Nat} (hi : i + 1 = E.length) (hU : Upto (wantP w a b) out (E[i]'(by omega)).1) : CleanR out ∧ ∀ n, hasS out n = wantP w a b n := by
  refine hU.end_ fun n hn => ?_
  rw [want_at h (by omega) hn (fun h => by omega), List.take_of_length_le (by omega), (sum_all h).1, (sum_all h).2, hw]
end Go.Proofs.YthkeoimjjgmppaaDoor

/- The document's row of ends, and its clean rows: plain. -/
namespace Go.Proofs.YthkeoimjjgmppaaDoor
set_option linter.unusedVariables false

def clS (n : Int) : Int := min (max n 0) farS
theorem clS_bd (n : Int) : 0 ≤ clS n ∧ clS n ≤ farS := by unfold clS; unfold farS; omega
/-- How many numbers stand below. -/
def belowN (m : Int) : List Int → Nat
  | [] => 0
  | x :: l => if x < m then belowN m l + 1 else 0
def putP (l : List Int) (n : Int) : List Int :=
  if l[belowN (clS n) l]? = some (clS n) then l else l.take (belowN (clS n) l) ++ [clS n] ++ l.drop (belowN (clS n) l)
theorem below_le (m : Int) : ∀ l : List Int, belowN m l ≤ l.length
  | [] => Nat.le_refl _
  | x :: l => by
    have := below_le m l
    unfold belowN
    split <;> simp only [List.length_cons] <;> omega
theorem below_lt (m : Int) : ∀ (l : List Int) (j : Nat) (h : j < l.length), j < belowN m l → l[j] < m
  | [], j, h, _ => absurd h (by simp)
  | x :: l, j, h, hj => by
    unfold belowN at hj
    split at hj
    · cases j with
      | zero => assumption
      | succ j => exact below_lt m l j (by simpa using h) (by omega)
    · omega
theorem below_ge (m : Int) : ∀ (l : List Int) (h : belowN m l < l.length), m ≤ l[belowN m l]
  | [], h => absurd h (by simp [belowN])
  | x :: l, h => by
    by_cases hx : x < m
    · have e : belowN m (x :: l) = belowN m l + 1 := by show (if x < m then _ else _) = _; rw [if_pos hx]
      simp only [e] at h ⊢
      exact below_ge m l (by simpa using h)
    · have e : belowN m (x :: l) = 0 := by show (if x < m then _ else _) = _; rw [if_neg hx]
      simp only [e]
      exact Int.not_lt.1 hx
/-- Where the walk's count stands. -/
theorem below_is (m : Int) (l : List Int) (k : Nat) (hk : k ≤ l.length) (h1 : ∀ j (h : j < l.length), j < k → l[j] < m) (h2 : ∀ h : k < l.length, m ≤ l[k]) : belowN m l = k := by
  have a := below_le m l
  rcases Nat.lt_trichotomy (belowN m l) k with h | h | h
  · have := h1 _ (by omega) h
    have := below_ge m l (by omega)
    omega
  · exact h
  · have := below_lt m l k (by omega) h
    have := h2 (by omega)
    omega
theorem put_mem (l : List Int) (n x : Int) : x ∈ putP l n ↔ x ∈ l ∨ x = clS n := by
  unfold putP
  split
  · rename_i h
    constructor
    · exact .inl
    · rintro (h1 | rfl)
      · exact h1
      · exact List.mem_of_getElem? h
  · rw [List.mem_append, List.mem_append, List.mem_singleton]
    conv => rhs; rw [← List.take_append_drop (belowN (clS n) l) l, List.mem_append]
    constructor
    · rintro ((h | h) | h)
      · exact .inl (.inl h)
      · exact .inr h
      · exact .inl (.inr h)
    · rintro ((h | h) | h)
      · exact .inl (.inl h)
      · exact .inr h
      · exact .inl (.inr h)
theorem put_up {l : List Int} (h : l.Pairwise (· < ·)) (n : Int) : (putP l n).Pairwise (· < ·) := by
  unfold putP
  split
  · exact h
  · rename_i hne
    have hg := List.pairwise_iff_getElem.1 h
    have hlow : ∀ x ∈ l.take (belowN (clS n) l), x < clS n := fun x hx => by
      obtain ⟨j, hj, rfl⟩ := List.mem_iff_getElem.1 hx
      rw [List.length_take] at hj
      rw [List.getElem_take]
      exact below_lt _ l j (by omega) (by omega)
    have hhigh : ∀ x ∈ l.drop (belowN (clS n) l), clS n < x := fun x hx => by
      obtain ⟨j, hj, rfl⟩ := List.mem_iff_getElem.1 hx
      rw [List.length_drop] at hj
      rw [List.getElem_drop]
      have hk : belowN (clS n) l < l.length := by omega
      have h1 := below_ge (clS n) l hk
      have h2 : l[belowN (clS n) l] ≠ clS n := fun e => hne (by rw [List.getElem?_eq_getElem hk, e])
      rcases Nat.eq_zero_or_pos j with h3 | h3
      · subst h3
        simp only [Nat.add_zero]
        omega
      · have := hg (belowN (clS n) l) (belowN (clS n) l + j) hk (by omega) (by omega)
        omega
    rw [List.append_assoc]
    refine List.pairwise_append.2 ⟨h.sublist (List.take_sublist ..), ?_, fun x hx y hy => ?_⟩
    · rw [List.singleton_append]
      exact List.Pairwise.cons hhigh (h.sublist (List.drop_sublist ..))
    · rw [List.singleton_append] at hy
      rcases List.mem_cons.1 hy with rfl | hy
      · exact hlow x hx
      · have := hlow x hx
        have := hhigh y hy
        omega
theorem put_len (l : List Int) (n : Int) : (putP l n).length ≤ l.length + 1 := by
  unfold putP
  split
  · omega
  · rw [List.length_append, List.length_append, List.length_take, List.length_drop, List.length_singleton]
    omega
def putS (l : List Int) (s : Sp) : List Int := putP (putP l s.1) s.2
/-- The ends of a row more. -/
def putL (l : List Int) (a : List Sp) : List Int := a.foldl putS l
theorem putL_up {l : List Int} (h : l.Pairwise (· < ·)) (a : List Sp) : (putL l a).Pairwise (· < ·) := by
  induction a generalizing l with
  | nil => exact h
  | cons s a ih => exact ih (put_up (put_up h _) _)
theorem putL_mem (a : List Sp) : ∀ (l : List Int) (x : Int), x ∈ putL l a ↔ x ∈ l ∨ ∃ s ∈ a, x = clS s.1 ∨ x = clS s.2 := by
  induction a with
  | nil => intro l x; simp [putL]
  | cons s a ih =>
    intro l x
    show x ∈ putL (putS l s) a ↔ _
    rw [ih]
    unfold putS
    rw [put_mem, put_mem]
    constructor
    · rintro (((h | h) | h) | ⟨t, ht, h⟩)
      · exact .inl h
      · exact .inr ⟨s, List.mem_cons_self .., .inl h⟩
      · exact .inr ⟨s, List.mem_cons_self .., .inr h⟩
      · exact .inr ⟨t, List.mem_cons_of_mem _ ht, h⟩
    · rintro (h | ⟨t, ht, h⟩)
      · exact .inl (.inl (.inl h))
      · rcases List.mem_cons.1 ht with rfl | ht
        · rcases h with h | h
          · exact .inl (.inl (.inr h))
          · exact .inl (.inr h)
        · exact .inr ⟨t, ht, h⟩
theorem putL_len (a : List Sp) : ∀ l : List Int, (putL l a).length ≤ l.length + 2 * a.length := by
  induction a with
  | nil => intro l; exact Nat.le_refl _
  | cons s a ih =>
    intro l
    have h1 := ih (putS l s)
    have h2 := put_len (putP l s.1) s.2
    have h3 := put_len l s.1
    show (putL (putS l s) a).length ≤ _
    unfold putS at h1 ⊢
    rw [List.length_cons]
    omega
def docE (a b : List Sp) : List Int := putL (putL [] a) b
theorem docE_up (a b : List Sp) : (docE a b).Pairwise (· < ·) := putL_up (putL_up List.Pairwise.nil a) b
theorem docE_mem (a b : List Sp) (x : Int) : x ∈ docE a b ↔ ∃ s, (s ∈ a ∨ s ∈ b) ∧ (x = clS s.1 ∨ x = clS s.2) := by
  unfold docE
  rw [putL_mem, putL_mem]
  constructor
  · rintro ((h | ⟨s, hs, h⟩) | ⟨s, hs, h⟩)
    · exact absurd h (by simp)
    · exact ⟨s, .inl hs, h⟩
    · exact ⟨s, .inr hs, h⟩
  · rintro ⟨s, hs | hs, h⟩
    · exact .inl (.inr ⟨s, hs, h⟩)
    · exact .inr ⟨s, hs, h⟩
theorem docE_bd {a b : List Sp} {x : Int} (h : x ∈ docE a b) : 0 ≤ x ∧ x ≤ farS := by
  obtain ⟨s, _, h | h⟩ := (docE_mem a b x).1 h <;> rw [h] <;> exact clS_bd _
theorem docE_len (a b : List Sp) : (docE a b).length ≤ 2 * a.length + 2 * b.length := by
  have h1 := putL_len b (putL [] a)
  have h2 := putL_len a []
  unfold docE
  rw [List.length_nil] at h2
  omega
/-- Between two ends that follow one another nothing begins or ends. -/
theorem has_const {l : List Sp} {p q n : Int} (hp : 0 ≤ p) (hq : q ≤ farS) (h1 : p ≤ n) (h2 : n < q) (hno : ∀ s ∈ l, (clS s.1 ≤ p ∨ q ≤ clS s.1) ∧ (clS s.2 ≤ p ∨ q ≤ clS s.2)) : hasS l n = hasS l p := by
  have e : ∀ m, p ≤ m → m < q → hasS l m = l.any fun s => decide (clS s.1 ≤ p ∧ q ≤ clS s.2) := fun m hm1 hm2 => by
    unfold hasS
    rw [decide_eq_true (by omega : 0 ≤ m ∧ m < farS), Bool.true_and]
    rw [Bool.eq_iff_iff, List.any_eq_true, List.any_eq_true]
    constructor <;> rintro ⟨s, hs, h⟩ <;> refine ⟨s, hs, decide_eq_true ?_⟩ <;> have h := of_decide_eq_true h <;> have := hno s hs <;> unfold clS at * <;> unfold farS at * <;> omega
  rw [e n h1 h2, e p (Int.le_refl _) (by omega)]
theorem doc_const {a b : List Sp} {i : Nat} (hi : i + 1 < (docE a b).length) {n : Int} (h1 : (docE a b)[i] ≤ n) (h2 : n < (docE a b)[i + 1]) : hasS a n = hasS a (docE a b)[i] ∧ hasS b n = hasS b (docE a b)[i] := by
  have hg := List.pairwise_iff_getElem.1 (docE_up a b)
  have hno : ∀ x ∈ docE a b, x ≤ (docE a b)[i] ∨ (docE a b)[i + 1] ≤ x := fun x hx => by
    obtain ⟨j, hj, rfl⟩ := List.mem_iff_getElem.1 hx
    rcases Nat.lt_trichotomy j i with h | h | h
    · exact .inl (Int.le_of_lt (hg j i hj (by omega) h))
    · subst h; exact .inl (Int.le_refl _)
    · rcases Nat.lt_or_eq_of_le (by omega : i + 1 ≤ j) with h | h
      · exact .inr (Int.le_of_lt (hg (i + 1) j hi hj h))
      · subst h; exact .inr (Int.le_refl _)
  have b1 := docE_bd (List.getElem_mem (show i < (docE a b).length by omega))
  have b2 := docE_bd (List.getElem_mem hi)
  constructor
  · exact has_const b1.1 b2.2 h1 h2 fun s hs => ⟨hno _ ((docE_mem a b _).2 ⟨s, .inl hs, .inl rfl⟩), hno _ ((docE_mem a b _).2 ⟨s, .inl hs, .inr rfl⟩)⟩
  · exact has_const b1.1 b2.2 h1 h2 fun s hs => ⟨hno _ ((docE_mem a b _).2 ⟨s, .inr hs, .inl rfl⟩), hno _ ((docE_mem a b _).2 ⟨s, .inr hs, .inr rfl⟩)⟩
/-- A byte that is in has an end at or before it, and one behind it. -/
theorem doc_in {a b : List Sp} {n : Int} (h : hasS a n = true ∨ hasS b n = true) : (∃ x ∈ docE a b, x ≤ n) ∧ ∃ x ∈ docE a b, n < x := by
  have go : ∀ l : List Sp, (∀ s ∈ l, s ∈ a ∨ s ∈ b) → hasS l n = true → (∃ x ∈ docE a b, x ≤ n) ∧ ∃ x ∈ docE a b, n < x := fun l hl h => by
    obtain ⟨hn, s, hs, h1, h2⟩ := has_true.1 h
    exact ⟨⟨_, (docE_mem a b _).2 ⟨s, hl s hs, .inl rfl⟩, by unfold clS farS at *; omega⟩, ⟨_, (docE_mem a b _).2 ⟨s, hl s hs, .inr rfl⟩, by unfold clS farS at *; omega⟩⟩
  rcases h with h | h
  · exact go a (fun s hs => .inl hs) h
  · exact go b (fun s hs => .inr hs) h
def docW (w : Bool → Bool → Bool) (a b : List Sp) (n : Int) : Bool := w (hasS a n) (hasS b n)
theorem docW_off {w : Bool → Bool → Bool} (hw : w false false = false) {a b : List Sp} {n : Int} (h : ¬ ((∃ x ∈ docE a b, x ≤ n) ∧ ∃ x ∈ docE a b, n < x)) : docW w a b n = false := by
  unfold docW
  cases ha : hasS a n
  · cases hb : hasS b n
    · exact hw
    · exact absurd (doc_in (.inr hb)) h
  · exact absurd (doc_in (.inl ha)) h
theorem doc_start {w : Bool → Bool → Bool} (hw : w false false = false) {a b : List Sp} (h0 : 0 < (docE a b).length) : Upto (docW w a b) [] (docE a b)[0] := by
  refine Upto.nil fun n hn => docW_off hw fun h => ?_
  obtain ⟨⟨x, hx, h1⟩, _⟩ := h
  obtain ⟨j, hj, rfl⟩ := List.mem_iff_getElem.1 hx
  have hg := List.pairwise_iff_getElem.1 (docE_up a b)
  rcases Nat.eq_zero_or_pos j with h2 | h2
  · subst h2; omega
  · have := hg 0 j h0 hj h2; omega
theorem doc_none {w : Bool → Bool → Bool} (hw : w false false = false) {a b : List Sp} (h0 : (docE a b).length = 0) : CleanR [] ∧ ∀ n, hasS [] n = docW w a b n := by
  refine ⟨trivial, fun n => ?_⟩
  rw [has_nil, docW_off hw fun h => ?_]
  obtain ⟨⟨x, hx, h1⟩, _⟩ := h
  rw [List.eq_nil_of_length_eq_zero h0] at hx
  exact absurd hx (by simp)
theorem doc_skip {w : Bool → Bool → Bool} {a b : List Sp} {out : List Sp} {i : Nat} (hi : i + 1 < (docE a b).length) (hw : docW w a b (docE a b)[i] = false) (hU : Upto (docW w a b) out (docE a b)[i]) : Upto (docW w a b) out (docE a b)[i + 1] :=
  hU.skip (Int.le_of_lt (List.pairwise_iff_getElem.1 (docE_up a b) i (i + 1) (by omega) hi (by omega))) fun n h1 h2 => by
    unfold docW at hw ⊢
    rw [(doc_const hi h1 h2).1, (doc_const hi h1 h2).2]; exact hw
theorem doc_put {w : Bool → Bool → Bool} {a b : List Sp} {out : List Sp} {i : Nat} (hi : i + 1 < (docE a b).length) (hw : docW w a b (docE a b)[i] = true) (hU : Upto (docW w a b) out (docE a b)[i]) : Upto (docW w a b) (addS out ((docE a b)[i], (docE a b)[i + 1])) (docE a b)[i + 1] :=
  hU.put (docE_bd (List.getElem_mem (show i < (docE a b).length by omega))).1 (List.pairwise_iff_getElem.1 (docE_up a b) i (i + 1) (by omega) hi (by omega)) (docE_bd (List.getElem_mem hi)).2 fun n h1 h2 => by
    unfold docW at hw ⊢
    rw [(doc_const hi h1 h2).1, (doc_const hi h1 h2).2]; exact hw
theorem doc_end {w : Bool → Bool → Bool} (hw : w false false = false) {a b : List Sp} {out : List Sp} {i : Nat} (hi : i + 1 = (docE a b).length) (hU : Upto (docW w a b) out ((docE a b)[i]'(by omega))) : CleanR out ∧ ∀ n, hasS out n = docW w a b n := by
  refine hU.end_ fun n hn => docW_off hw fun h => ?_
  obtain ⟨_, x, hx, h1⟩ := h
  obtain ⟨j, hj, rfl⟩ := List.mem_iff_getElem.1 hx
  have hg := List.pairwise_iff_getElem.1 (docE_up a b)
  rcases Nat.lt_or_eq_of_le (by omega : j ≤ i) with h2 | h2
  · have := hg j i hj (by omega) h2; omega
  · subst h2; omega

/-! ### the row of a set -/
structure IsR (f : Int → Bool) (L : List Sp) : Prop where
  clean : CleanR L
  is : ∀ n, hasS L n = f n
theorem IsR.one {f g : Int → Bool} {L M : List Sp} (h : IsR f L) (h' : IsR g M) (e : ∀ n, f n = g n) : L = M := clean_same h.clean h'.clean fun n => by rw [h.is, h'.is, e]
theorem IsR.nil {f : Int → Bool} {L : List Sp} (h : IsR f L) : L = [] ↔ ∀ n, f n = false := by
  constructor
  · rintro rfl n
    rw [← h.is, has_nil]
  · intro hf
    exact h.one ⟨trivial, fun n => has_nil n⟩ hf
theorem want_join (a b : List Sp) (n : Int) : wantP (fun x y => decide (0 < x) || decide (0 < y)) a b n = (hasS a n || hasS b n) := by rw [has_cnt, has_cnt]; rfl
theorem want_meet (a b : List Sp) (n : Int) : wantP (fun x y => decide (0 < x) && decide (0 < y)) a b n = (hasS a n && hasS b n) := by rw [has_cnt, has_cnt]; rfl
theorem want_less (a b : List Sp) (n : Int) : wantP (fun x y => decide (0 < x) && (y == 0)) a b n = (hasS a n && !hasS b n) := by
  rw [has_cnt, has_cnt]
  show (decide (0 < cntS a n) && (cntS b n == 0)) = _
  congr 1
  have := cntS_pos b n
  by_cases h : cntS b n = 0
  · rw [h]; rfl
  · rw [decide_eq_true (by omega : 0 < cntS b n)]
    simp [h]
theorem want_clean (a : List Sp) (n : Int) : wantP (fun x _ => decide (0 < x)) a [] n = hasS a n := by rw [has_cnt]; rfl
end Go.Proofs.YthkeoimjjgmppaaDoor

/- Rows of spans and of ends in memory. -/
namespace Go.Proofs.YthkeoimjjgmppaaDoor
open Go.RowKit
set_option linter.unusedVariables false

/-! ### rows of elements of k one-cell fields, of the call's own -/
section
variable {α : Type} {C : α → List Value} {k : Nat}
def flC (C : α → List Value) (L : List α) : List Value := L.flatMap C
theorem flC_len (hk : ∀ x, (C x).length = k) (L : List α) : (flC C L).length = L.length * k := by
  unfold flC
  induction L with
  | nil => simp
  | cons s L ih => rw [List.flatMap_cons, List.length_append, ih, List.length_cons, hk, Nat.succ_mul]; omega
theorem flC_one (h1 : ∀ x, ∀ v ∈ C x, v.oneCell' = true) (L : List α) : ∀ v ∈ flC C L, v.oneCell' = true := by
  intro v hv
  obtain ⟨s, _, hs⟩ := List.mem_flatMap.1 hv
  exact h1 s v hs
theorem flC_at (hk : ∀ x, (C x).length = k) : ∀ (L : List α) (i : Nat) (s : α), L[i]? = some s → ∀ (j : Nat) (v : Value), (C s)[j]? = some v → (flC C L)[i * k + j]? = some v
  | [], i, s, h, j, v, hv => by simp at h
  | x :: L, 0, s, h, j, v, hv => by
    obtain rfl : x = s := by simpa using h
    have hj : j < (C x).length := (List.getElem?_eq_some_iff.1 hv).1
    unfold flC
    rw [List.flatMap_cons, Nat.zero_mul, Nat.zero_add, List.getElem?_append_left hj]
    exact hv
  | x :: L, i + 1, s, h, j, v, hv => by
    have h' : L[i]? = some s := by simpa using h
    unfold flC
    have e := hk x
    rw [List.flatMap_cons, List.getElem?_append_right (by rw [e, Nat.succ_mul]; omega), show (i + 1) * k + j - (C x).length = i * k + j by rw [e, Nat.succ_mul]; omega]
    exact flC_at hk L i s h' j v hv
theorem flC_app (a b : List α) : flC C (a ++ b) = flC C a ++ flC C b := by unfold flC; rw [List.flatMap_append]
theorem flC_single (s : α) : flC C [s] = C s := by unfold flC; simp
/-- A row of the call's own. -/
def OwnC (T : TypeId) (k : Nat) (C : α → List Value) (w : World) (base : Nat) (v : Value) (L : List α) : Prop := w.ownsRow base T k v L.length (flC C L)
variable {T : TypeId} {w w' : World} {base : Nat} {v : Value} {L : List α}
theorem OwnC.nil : OwnC T k C w base (.slice none 0 0) [] := World.ownsRow_nil _ _ _ _
theorem OwnC.form (h : OwnC T k C w base v L) : ∃ A c, v = .slice A L.length c ∧ L.length ≤ c ∧ c ≤ maxLen := own_form h
theorem OwnC.form' (h : OwnC T k C w base v L) : ∃ A n c, v = .slice A n c ∧ Hid (n = L.length) ∧ n ≤ c ∧ c ≤ maxLen := by
  obtain ⟨A, c, rfl, h1, h2⟩ := h.form
  exact ⟨A, _, c, rfl, Lib.hid rfl, h1, h2⟩
theorem OwnC.below (h : OwnC T k C w base v L) (hb : Below w.heap.size w w') : OwnC T k C w' base v L := own_below h hb
theorem OwnC.low {base' : Nat} (h : OwnC T k C w base v L) (hb : base' ≤ base) : OwnC T k C w base' v L := own_base h hb
theorem OwnC.mod {X : Nat → Prop} (h : OwnC T k C w base v L) (hb : Mod X w w') (hx : ∀ j, v.ownBlock = some j → ¬ X j) : OwnC T k C w' base v L := by
  refine ⟨h.1, ?_⟩
  rcases h.2 with h0 | ⟨g, cap, cur, rfl, hg, hh, r⟩
  · exact .inl h0
  · exact .inr ⟨g, cap, cur, rfl, hg, by rw [hb.block g (Array.getElem?_eq_some_iff.1 hh).1 (hx g rfl)]; exact hh, r⟩
theorem OwnC.rd (hk : ∀ x, (C x).length = k) {A : Option Addr} {n c : Nat} (h : OwnC T k C w base (.slice A n c) L) : RdL w (fun b => base ≤ b ∧ (Value.slice A n c).ownBlock = some b) k C A L := by
  intro hn
  rcases h.2 with ⟨_, h0⟩ | ⟨g, cap, cur, hv, hg, hh, hnc, hcm, hcs, htake⟩
  · omega
  · injection hv with hA _ _
    subst hA
    refine ⟨_, rfl, ⟨hg, rfl⟩, fun i s hs j u hu => ?_⟩
    have h1 := flC_at hk L i s hs j u hu
    have hlt := (List.getElem?_eq_some_iff.1 h1).1
    rw [flC_len hk] at hlt
    rw [← htake, List.getElem?_take, if_pos (by omega)] at h1
    rw [add_head, (show Blk w g _ cur from hh).cell]
    rw [← h1]; simp
theorem RdL.imp (hC : ∀ x, 0 < (C x).length) {D D' : Nat → Prop} {A : Option Addr} (h : RdL w D k C A L) (hd : ∀ b, b < w.heap.size → D b → D' b) : RdL w D' k C A L := fun hn => by
  obtain ⟨ad, e, hb, hc⟩ := h hn
  refine ⟨ad, e, hd _ ?_ hb, hc⟩
  have h1 := hc 0 L[0] (List.getElem?_eq_getElem hn) 0 _ (List.getElem?_eq_getElem (hC _))
  have := World.block_lt_of_cell? w _ h1
  rwa [block_of_add] at this
end
theorem add_at (a : Addr) (n j : Nat) : a.add (n + (j + 1)) = ⟨(a.add n).block, (a.add n).off + (j + 1), none⟩ := by
  rw [← add_of_add]
  generalize a.add n = b
  unfold Addr.add
  rw [if_neg (by omega)]

/-! ### spans -/
def spC (s : Sp) : List Value := [.int .i64 s.1, .int .i64 s.2]
theorem spC_len (s : Sp) : (spC s).length = 2 := rfl
theorem spC_one (s : Sp) : ∀ v ∈ spC s, v.oneCell' = true := by
  intro v hv
  simp only [spC, List.mem_cons, List.not_mem_nil, or_false] at hv
  rcases hv with rfl | rfl <;> rfl
def RdSp (w : World) (D : Nat → Prop) (A : Option Addr) (L : List Sp) : Prop := RdL w D 2 spC A L
def OwnSp (w : World) (base : Nat) (v : Value) (L : List Sp) : Prop := OwnC 84 2 spC w base v L
theorem RdSp.at_ {w : World} {D : Nat → Prop} {A : Option Addr} {L : List Sp} (h : RdSp w D A L) {i : Nat} (hi : i < L.length) :
    ∃ ad, A = some ad ∧ w.cell? (ad.add (i * 2)) = some (.int .i64 L[i].1) ∧ w.cell? ⟨(ad.add (i * 2)).block, (ad.add (i * 2)).off + 1, none⟩ = some (.int .i64 L[i].2) := by
  obtain ⟨ad, e, _, hc⟩ := h (by omega)
  have hL := List.getElem?_eq_getElem hi
  exact ⟨ad, e, hc i _ hL 0 _ rfl, by rw [← add_at _ _ 0]; exact hc i _ hL 1 _ rfl⟩
theorem RdSp.below {w w' : World} {D : Nat → Prop} {A : Option Addr} {L : List Sp} (h : RdSp w D A L) (hb : Below w.heap.size w w') : RdSp w' D A L := RdL.below h hb
theorem OwnSp.rd {w : World} {base n c : Nat} {A : Option Addr} {L : List Sp} (h : OwnSp w base (.slice A n c) L) : RdSp w (base ≤ ·) A L := RdL.imp (fun x => by rw [spC_len]; decide) (OwnC.rd spC_len h) fun _ _ hd => hd.1
theorem infoSp : (Tryd.prog.info? 84).map (fun i => (i.zero, i.size, i.bytes)) = some (some (.agg #[.int .i64 0, .int .i64 0]), 2, 16) := by kernel_rfl

/-! ### ends -/
def enC (e : En) : List Value := [.int .i64 e.1, .int .i64 e.2.1, .int .i64 e.2.2]
theorem enC_len (e : En) : (enC e).length = 3 := rfl
theorem enC_one (e : En) : ∀ v ∈ enC e, v.oneCell' = true := by
  intro v hv
  simp only [enC, List.mem_cons, List.not_mem_nil, or_false] at hv
  rcases hv with rfl | rfl | rfl <;> rfl
def RdEn (w : World) (D : Nat → Prop) (A : Option Addr) (L : List En) : Prop := RdL w D 3 enC A L
def OwnEn (w : World) (base : Nat) (v : Value) (L : List En) : Prop := OwnC 124 3 enC w base v L
theorem RdEn.at_ {w : World} {D : Nat → Prop} {A : Option Addr} {L : List En} (h : RdEn w D A L) {i : Nat} (hi : i < L.length) :
    ∃ ad, A = some ad ∧ w.cell? (ad.add (i * 3)) = some (.int .i64 L[i].1) ∧ w.cell? ⟨(ad.add (i * 3)).block, (ad.add (i * 3)).off + 1, none⟩ = some (.int .i64 L[i].2.1) ∧ w.cell? ⟨(ad.add (i * 3)).block, (ad.add (i * 3)).off + 2, none⟩ = some (.int .i64 L[i].2.2) := by
  obtain ⟨ad, e, _, hc⟩ := h (by omega)
  have hL := List.getElem?_eq_getElem hi
  exact ⟨ad, e, hc i _ hL 0 _ rfl, by rw [← add_at _ _ 0]; exact hc i _ hL 1 _ rfl, by rw [← add_at _ _ 1]; exact hc i _ hL 2 _ rfl⟩
theorem RdEn.below {w w' : World} {D : Nat → Prop} {A : Option Addr} {L : List En} (h : RdEn w D A L) (hb : Below w.heap.size w w') : RdEn w' D A L := RdL.below h hb
theorem OwnEn.rd {w : World} {base n c : Nat} {A : Option Addr} {L : List En} (h : OwnEn w base (.slice A n c) L) : RdEn w (base ≤ ·) A L := RdL.imp (fun x => by rw [enC_len]; decide) (OwnC.rd enC_len h) fun _ _ hd => hd.1
theorem infoEn : (Tryd.prog.info? 124).map (fun i => (i.zero, i.size, i.bytes)) = some (some (.agg #[.int .i64 0, .int .i64 0, .int .i64 0]), 3, 24) := by kernel_rfl

section
variable {w : World} {ops : Array Oper} {rest : List Oper} {o : Oper} {a : Act} {Q : Exit → Act → World → Prop}
theorem wpList_appSp (hgd : o.guard = none) (s x : Operand) (ho : o.op = .call { callee := .builtin .append, args := #[s, x], argTypes := #[80, 80] })
    (base : Nat) (v : Value) (L news : List Sp) (hs : a.eval s = v) (hown : OwnSp w base v L)
    (D : Nat → Prop) (A : Option Addr) (n c : Nat) (hx : a.eval x = .slice A n c) (hn : n = news.length) (hr : Rd w D 2 A n (flC spC news))
    (hlen : L.length + news.length ≤ 1000000) (hbase : base ≤ w.heap.size)
    (h : ∀ v' w', OwnSp w' base v' (L ++ news) → Ext w w' v v' → wpList Tryd.prog ops Q rest (a.put o.dst v') w') :
    wpList Tryd.prog ops Q (o :: rest) a w := by
  subst hn
  refine wpList_plain hgd fun _ hK => wp_app s x _ ho base 84 _ 2 16 Tryd.underlying80 infoSp rfl (by decide) v _ _ hs hown D A _ c _ hx hr (flC_one spC_one news) ?_ ?_ hbase fun v' w' h2 h3 h4 => hK _ _ (h v' w' ?_ ⟨h3, h4.imp id fun e k hk => by rw [e] at hk; injection hk with hk; omega⟩)
  · unfold maxLen; omega
  · omega
  · unfold OwnSp OwnC
    rw [List.length_append, flC_app]
    exact h2
theorem wpList_appEn (hgd : o.guard = none) (s x : Operand) (ho : o.op = .call { callee := .builtin .append, args := #[s, x], argTypes := #[120, 120] })
    (base : Nat) (v : Value) (L news : List En) (hs : a.eval s = v) (hown : OwnEn w base v L)
    (D : Nat → Prop) (A : Option Addr) (n c : Nat) (hx : a.eval x = .slice A n c) (hn : n = news.length) (hr : Rd w D 3 A n (flC enC news))
    (hlen : L.length + news.length ≤ 1000000) (hbase : base ≤ w.heap.size)
    (h : ∀ v' w', OwnEn w' base v' (L ++ news) → Ext w w' v v' → wpList Tryd.prog ops Q rest (a.put o.dst v') w') :
    wpList Tryd.prog ops Q (o :: rest) a w := by
  subst hn
  refine wpList_plain hgd fun _ hK => wp_app s x _ ho base 124 _ 3 24 Tryd.underlying120 infoEn rfl (by decide) v _ _ hs hown D A _ c _ hx hr (flC_one enC_one news) ?_ ?_ hbase fun v' w' h2 h3 h4 => hK _ _ (h v' w' ?_ ⟨h3, h4.imp id fun e k hk => by rw [e] at hk; injection hk with hk; omega⟩)
  · unfold maxLen; omega
  · omega
  · unfold OwnEn OwnC
    rw [List.length_append, flC_app]
    exact h2
end
end Go.Proofs.YthkeoimjjgmppaaDoor

/- The document's Has and Same, put. -/
namespace Go.Proofs.YthkeoimjjgmppaaDoor
open Go.RowKit
set_option linter.unusedVariables false

theorem has_take (L : List Sp) (n : Int) (j : Nat) (h : j < L.length) : hasS (L.take (j + 1)) n = (hasS (L.take j) n || hasS [L[j]] n) := by
  rw [List.take_succ_eq_append_getElem h, has_append]
theorem has_one_no (s : Sp) (n : Int) (h : ¬ ((0 ≤ n ∧ n < 1099511627776) ∧ s.1 ≤ n ∧ n < s.2)) : hasS [s] n = false := by
  refine has_false.2 fun ⟨h1, x, hx, h2⟩ => ?_
  obtain rfl : x = s := by simpa using hx
  exact h ⟨h1, h2⟩

end Go.Proofs.YthkeoimjjgmppaaDoor

/- The document's Same. -/
namespace Go.Proofs.YthkeoimjjgmppaaDoor
open Go.RowKit
set_option linter.unusedVariables false

theorem take_same {L M : List Sp} {j : Nat} (h1 : j < L.length) (h2 : j < M.length) (h : L.take j = M.take j) (e : L[j] = M[j]) : L.take (j + 1) = M.take (j + 1) := by
  rw [List.take_succ_eq_append_getElem h1, List.take_succ_eq_append_getElem h2, h, e]

theorem bqN (w : World) (n : Nat) : Below w.heap.size w (w.drewN n) := ⟨rfl, rfl, rfl, Nat.le_refl _, fun _ _ => rfl⟩
end Go.Proofs.YthkeoimjjgmppaaDoor

/- The document's put: a rising row with one more number. -/
namespace Go.Proofs.YthkeoimjjgmppaaDoor
open Go.RowKit
set_option linter.unusedVariables false

abbrev Any1 : Nat → Prop := fun _ => True
theorem RdI.any {w : World} {D : Nat → Prop} {A : Option Addr} {l : List Int} (h : RdI w D A l) : RdI w Any1 A l := Rd.imp h (fun _ _ _ => trivial) (by decide)
theorem put_at {l : List Int} {n : Int} {j : Nat} (hj : j < l.length) (hlow : ∀ i (h : i < l.length), i < j → l[i] < clS n) (he : l[j] = clS n) : putP l n = l := by
  have hb : belowN (clS n) l = j := below_is _ _ _ (by omega) hlow (fun h => by omega)
  unfold putP
  rw [hb, List.getElem?_eq_getElem hj, he, if_pos rfl]
theorem put_new {l : List Int} {n : Int} {j : Nat} (hj : j ≤ l.length) (hlow : ∀ i (h : i < l.length), i < j → l[i] < clS n) (he : ∀ h : j < l.length, clS n < l[j]) : putP l n = l.take j ++ [clS n] ++ l.drop j := by
  have hb : belowN (clS n) l = j := below_is _ _ _ (by omega) hlow (fun h => by have := he h; omega)
  unfold putP
  rw [hb, if_neg]
  intro h
  obtain ⟨h1, h2⟩ := List.getElem?_eq_some_iff.1 h
  have := he h1
  omega

end Go.Proofs.YthkeoimjjgmppaaDoor

/- A store into the end of a span of one's own row; a row that grows at its end, in memory. -/
namespace Go.Proofs.YthkeoimjjgmppaaDoor
open Go.RowKit
set_option linter.unusedVariables false

theorem spF_set : ∀ (L : List Sp) (k : Nat) (hk : k < L.length) (z : Int), flC spC (L.set k (L[k].1, z)) = (flC spC L).set (k * 2 + 1) (.int .i64 z)
  | x :: L, 0, _, z => by
    unfold flC
    simp [List.flatMap_cons, spC]
  | x :: L, k + 1, hk, z => by
    have := spF_set L k (by simpa using hk) z
    unfold flC at this ⊢
    rw [List.set_cons_succ, List.flatMap_cons, List.flatMap_cons]
    simp only [List.getElem_cons_succ]
    rw [this, List.set_append, if_neg (by simp [spC]; omega)]
    congr 2
    simp [spC]; omega
theorem OwnSp.store {w : World} {base n c : Nat} {A : Option Addr} {L : List Sp} (h : OwnSp w base (.slice A n c) L) {k : Nat} (hk : k < L.length) : ∃ ad, A = some ad ∧ base ≤ ad.block ∧ (Value.slice A n c).ownBlock = some ad.block ∧
    w.cell? ⟨(ad.add (k * 2)).block, (ad.add (k * 2)).off + 1, none⟩ = some (.int .i64 L[k].2) ∧ w.frozen? ⟨(ad.add (k * 2)).block, (ad.add (k * 2)).off + 1, none⟩ = false ∧ (ad.add (k * 2)).block = ad.block ∧
    ∀ z, OwnSp (w.setCell ⟨(ad.add (k * 2)).block, (ad.add (k * 2)).off + 1, none⟩ (.int .i64 z)) base (.slice A n c) (L.set k (L[k].1, z)) := by
  have hl := flC_len spC_len L
  rcases h.2 with ⟨_, h0⟩ | ⟨g, cap, cur, hv, hg, hh, hnc, hcm, hcs, htake⟩
  · omega
  · have hB : Blk w g 84 cur := hh
    have h2 := flC_at spC_len L k L[k] (List.getElem?_eq_getElem hk) 1 _ rfl
    rw [← htake, List.getElem?_take, if_pos (by omega)] at h2
    have e : (⟨((⟨g, 0, none⟩ : Addr).add (k * 2)).block, ((⟨g, 0, none⟩ : Addr).add (k * 2)).off + 1, none⟩ : Addr) = ⟨g, k * 2 + 1, none⟩ := by rw [add_head]
    injection hv with hA hn hc
    subst hA hn hc
    refine ⟨⟨g, 0, none⟩, rfl, hg, rfl, ?_, ?_, by rw [add_head], fun z => ?_⟩
    · rw [e, hB.cell, ← h2]; simp
    · rw [e]; exact hB.frozen _
    · rw [e]
      refine ⟨by rw [flC_len spC_len], .inr ⟨g, c, cur.setIfInBounds (k * 2 + 1) (.int .i64 z), by rw [List.length_set], hg, hB.set_ _ _, by rw [List.length_set]; exact hnc, hcm, by rw [Array.size_setIfInBounds]; exact hcs, ?_⟩⟩
      rw [spF_set L k hk, ← htake, List.length_set, Array.toList_setIfInBounds, List.take_set]
theorem addS_set (L : List Sp) (p q : Int) (k : Nat) (hk : k + 1 = L.length) (he : (L[k]'(by omega)).2 = p) : addS L (p, q) = L.set k ((L[k]'(by omega)).1, q) := by
  rcases split_last L with rfl | ⟨l, x, rfl⟩
  · exact absurd hk (by simp)
  · rw [List.length_append, List.length_singleton] at hk
    obtain rfl : k = l.length := by omega
    have e : (l ++ [x])[l.length]'(by simp) = x := by simp
    rw [e] at he ⊢
    rw [addS_snoc, if_pos he]
    simp
theorem addS_new (L : List Sp) (p q : Int) (h : ∀ (k : Nat) (hk : k + 1 = L.length), (L[k]'(by omega)).2 ≠ p) : addS L (p, q) = L ++ [(p, q)] := by
  rcases split_last L with rfl | ⟨l, x, rfl⟩
  · rfl
  · have h1 := h l.length (by simp)
    have e : (l ++ [x])[l.length]'(by simp) = x := by simp
    rw [e] at h1
    rw [addS_snoc, if_neg h1]
theorem addS_len (L : List Sp) (s : Sp) : (addS L s).length ≤ L.length + 1 := by
  rcases split_last L with rfl | ⟨l, x, rfl⟩
  · exact Nat.le_refl _
  · rw [addS_snoc]
    split <;> simp
theorem mod_fld (w : World) (ad : Addr) (k j : Nat) (u : Value) : Mod (· = ad.block) w (w.setCell ⟨(ad.add k).block, (ad.add k).off + j, none⟩ u) :=
  (Mod.refl (· = ad.block) w).setCell (p := ⟨(ad.add k).block, (ad.add k).off + j, none⟩) (.inl (block_of_add ad k)) u
theorem rd_newSp (w : World) (s : Sp) : Rd (w.alloc (.cells (spC s).toArray 84)) (· = w.heap.size) 2 (some ⟨w.heap.size, 0, none⟩) 1 (flC spC [s]) := by
  rw [flC_single]
  refine ⟨rfl, fun _ => ⟨_, rfl, rfl, fun j u hu => ?_⟩⟩
  rw [add_head, (Blk.new w 84 (spC s).toArray).cell]
  simpa using hu
def RT (_ _ : World) : Prop := True
theorem RT_refl (w : World) : RT w w := trivial
theorem RT_trans (a b c : World) (_ : RT a b) (_ : RT b c) : RT a c := trivial
theorem exec_appSp {ρ : Operand → Value} {o : Oper} {s x : Operand} {w w' : World} {v u v' : Value} (ho : o.op = .call { callee := .builtin .append, args := #[s, x], argTypes := #[80, 80] }) (hs : ρ s = v) (hx : ρ x = u)
    (hrun : (Builtin.append_ #[80, 80] o.type #[v, u]).run Tryd.prog w = .ok v' w') : (execOp ρ o).run Tryd.prog w = .ok (.value v') w' := by
  unfold execOp
  simp only [ho, resolve, invoke, builtin, Sem.run_bind, Sem.run_pure, Result.andThen_ok, List.map_toArray, List.map_cons, List.map_nil, hs, hx, hrun]
/-- One span more behind a row of one's own. -/
theorem run_appSp (w : World) (base : Nat) (ty : TypeId) (v : Value) (L : List Sp) (h : OwnSp w base v L) (s : Sp) (hlen : L.length ≤ 1000000) (hbase : base ≤ w.heap.size) :
    ∃ v' w', (Builtin.append_ #[80, 80] ty #[v, .slice (some ⟨w.heap.size, 0, none⟩) 1 1]).run Tryd.prog (w.alloc (.cells #[.int .i64 s.1, .int .i64 s.2] 84)) = .ok v' w' ∧ OwnSp w' base v' (L ++ [s]) ∧ Below base w w' ∧ Below base (w.alloc (.cells #[.int .i64 s.1, .int .i64 s.2] 84)) w' := by
  have bn := below_new w (.cells #[.int .i64 s.1, .int .i64 s.2] 84)
  have hb := h.below bn
  obtain ⟨v', w', h1, h2, h3, _⟩ := run_app (w.alloc (.cells #[.int .i64 s.1, .int .i64 s.2] 84)) base 80 ty 84 _ 2 16 Tryd.underlying80 infoSp rfl (by decide) v _ _ hb _ _ 1 1 _ (rd_newSp w s) (flC_one spC_one [s]) (by unfold maxLen; omega) (by omega) (Nat.le_trans hbase bn.size)
  refine ⟨v', w', h1, ?_, ?_, below_app (Below.refl _ _) hb h3 (Nat.le_refl _) (Nat.le_trans hbase bn.size)⟩
  · unfold OwnSp OwnC
    rw [List.length_append, flC_app]
    exact h2
  · exact below_app ((Below.refl base w).trans ⟨bn.os, bn.tape, bn.output, bn.size, fun k hk => bn.block k (by omega)⟩) hb h3 (Nat.le_refl _) (Nat.le_trans hbase bn.size)
theorem putL_step (l : List Int) (a : List Sp) (j : Nat) (h : j < a.length) : putL l (a.take (j + 1)) = putP (putP (putL l (a.take j)) a[j].1) a[j].2 := by
  unfold putL
  rw [List.take_succ_eq_append_getElem h, List.foldl_append]
  rfl
end Go.Proofs.YthkeoimjjgmppaaDoor
