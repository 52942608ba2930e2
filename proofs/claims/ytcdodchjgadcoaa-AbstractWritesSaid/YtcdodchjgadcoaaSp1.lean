/- Sets of bytes as rows of spans: plain. -/
import Derived.Test.YtcdodchjgadcoaaRows
namespace Go.Proofs.Ytcdodchjgadcoaa
set_option linter.unusedVariables false

abbrev Sp := Int × Int
def farS : Int := 1099511627776
/-- Is a byte in a row's spans? -/
def hasS (l : List Sp) (n : Int) : Bool := decide (0 ≤ n ∧ n < farS) && l.any fun s => decide (s.1 ≤ n ∧ n < s.2)
/-- A clean row. -/
def CleanR : List Sp → Prop
  | [] => True
  | s :: l => (0 ≤ s.1 ∧ s.1 < s.2 ∧ s.2 ≤ farS) ∧ (∀ t ∈ l, s.2 < t.1) ∧ CleanR l
theorem has_nil (n : Int) : hasS [] n = false := by simp [hasS]
theorem has_cons (s : Sp) (l : List Sp) (n : Int) : hasS (s :: l) n = (decide (0 ≤ n ∧ n < farS) && (decide (s.1 ≤ n ∧ n < s.2)) || hasS l n) := by
  unfold hasS
  rw [List.any_cons]
  cases decide (0 ≤ n ∧ n < farS) <;> cases decide (s.1 ≤ n ∧ n < s.2) <;> simp
theorem has_true {l : List Sp} {n : Int} : hasS l n = true ↔ (0 ≤ n ∧ n < farS) ∧ ∃ s ∈ l, s.1 ≤ n ∧ n < s.2 := by
  unfold hasS
  rw [Bool.and_eq_true, decide_eq_true_eq, List.any_eq_true]
  simp only [decide_eq_true_eq]
theorem has_false {l : List Sp} {n : Int} : hasS l n = false ↔ ¬ ((0 ≤ n ∧ n < farS) ∧ ∃ s ∈ l, s.1 ≤ n ∧ n < s.2) := by
  rw [← has_true, Bool.not_eq_true]
theorem clean_mem : ∀ {l : List Sp}, CleanR l → ∀ s ∈ l, 0 ≤ s.1 ∧ s.1 < s.2 ∧ s.2 ≤ farS
  | [], _, s, hs => absurd hs (by simp)
  | x :: l, h, s, hs => by
    rcases List.mem_cons.1 hs with rfl | hs
    · exact h.1
    · exact clean_mem h.2.2 s hs
theorem clean_one {l : List Sp} (h : CleanR l) {n : Int} : hasS l n = true ↔ ∃ s ∈ l, s.1 ≤ n ∧ n < s.2 := by
  rw [has_true]
  refine ⟨fun h => h.2, fun ⟨s, hs, h1⟩ => ⟨?_, s, hs, h1⟩⟩
  have := clean_mem h s hs
  omega
/-- A clean row is told by its bytes. -/
theorem clean_same : ∀ {l l' : List Sp}, CleanR l → CleanR l' → (∀ n, hasS l n = hasS l' n) → l = l'
  | [], [], _, _, _ => rfl
  | [], s :: l', _, h', he => by
    have h1 := he s.1
    rw [has_nil] at h1
    have h2 : hasS (s :: l') s.1 = true := (clean_one h').2 ⟨s, List.mem_cons_self .., by omega, h'.1.2.1⟩
    rw [h2] at h1
    cases h1
  | s :: l, [], h, _, he => by
    have h1 := he s.1
    rw [has_nil] at h1
    have h2 : hasS (s :: l) s.1 = true := (clean_one h).2 ⟨s, List.mem_cons_self .., by omega, h.1.2.1⟩
    rw [h2] at h1
    cases h1
  | s :: l, t :: l', h, h', he => by
    have low : ∀ {s : Sp} {l : List Sp}, CleanR (s :: l) → ∀ n, hasS (s :: l) n = true → s.1 ≤ n := fun {s l} h n hn => by
      obtain ⟨x, hx, h1⟩ := (clean_one h).1 hn
      rcases List.mem_cons.1 hx with rfl | hx
      · exact h1.1
      · have := h.2.1 x hx
        have := h.1
        omega
    have first : ∀ {s : Sp} {l : List Sp}, CleanR (s :: l) → ∀ n, s.1 ≤ n → n < s.2 → hasS (s :: l) n = true := fun {s l} h n h1 h2 => (clean_one h).2 ⟨s, List.mem_cons_self .., h1, h2⟩
    have gap : ∀ {s : Sp} {l : List Sp}, CleanR (s :: l) → hasS (s :: l) s.2 = false := fun {s l} h => by
      cases hb : hasS (s :: l) s.2
      · rfl
      · obtain ⟨x, hx, h1⟩ := (clean_one h).1 hb
        rcases List.mem_cons.1 hx with rfl | hx
        · omega
        · have := h.2.1 x hx
          omega
    have tail : ∀ {s : Sp} {l : List Sp}, CleanR (s :: l) → ∀ n, hasS l n = (hasS (s :: l) n && decide (s.2 ≤ n)) := fun {s l} h n => by
      rw [has_cons]
      by_cases hn : s.2 ≤ n
      · rw [decide_eq_true hn, decide_eq_false (by omega : ¬ (s.1 ≤ n ∧ n < s.2))]
        simp
      · rw [decide_eq_false hn, Bool.and_false]
        refine has_false.2 fun ⟨_, x, hx, h1⟩ => ?_
        have := h.2.1 x hx
        omega
    have e1 : s.1 = t.1 := by
      have a := low h' s.1 (by rw [← he]; exact first h _ (Int.le_refl _) h.1.2.1)
      have b := low h t.1 (by rw [he]; exact first h' _ (Int.le_refl _) h'.1.2.1)
      omega
    have e2 : s.2 = t.2 := by
      have g1 := gap h
      have g2 := gap h'
      have hs := h.1
      have ht := h'.1
      rcases Int.lt_trichotomy s.2 t.2 with hl | hl | hl
      · rw [he, first h' s.2 (by omega) hl] at g1; cases g1
      · exact hl
      · rw [← he, first h t.2 (by omega) hl] at g2; cases g2
    have est : s = t := Prod.ext e1 e2
    subst est
    rw [clean_same h.2.2 h'.2.2 fun n => by rw [tail h, tail h', he]]

/-! ### a row that grows at its end -/
/-- The last span goes on, or a new one begins. -/
def addS (out : List Sp) (s : Sp) : List Sp := match out.getLast? with
  | some x => if x.2 = s.1 then out.dropLast ++ [(x.1, s.2)] else out ++ [s]
  | none => [s]
/-- A row up to a point. -/
structure Upto (f : Int → Bool) (out : List Sp) (p : Int) : Prop where
  clean : CleanR out
  low : ∀ s ∈ out, s.2 ≤ p
  is : ∀ n, hasS out n = (decide (n < p) && f n)
theorem clean_snoc : ∀ {l : List Sp} {s : Sp}, CleanR l → (0 ≤ s.1 ∧ s.1 < s.2 ∧ s.2 ≤ farS) → (∀ x ∈ l, x.2 < s.1) → CleanR (l ++ [s])
  | [], s, _, h, _ => ⟨h, fun t ht => absurd ht (by simp), trivial⟩
  | x :: l, s, hl, h, hx => by
    refine ⟨hl.1, fun t ht => ?_, clean_snoc hl.2.2 h fun y hy => hx y (List.mem_cons_of_mem _ hy)⟩
    rcases List.mem_append.1 ht with ht | ht
    · exact hl.2.1 t ht
    · obtain rfl : t = s := by simpa using ht
      exact hx x (List.mem_cons_self ..)
theorem clean_init : ∀ {l : List Sp} {s : Sp}, CleanR (l ++ [s]) → CleanR l ∧ (0 ≤ s.1 ∧ s.1 < s.2 ∧ s.2 ≤ farS) ∧ ∀ x ∈ l, x.2 < s.1
  | [], s, h => ⟨trivial, h.1, fun x hx => absurd hx (by simp)⟩
  | y :: l, s, h => by
    obtain ⟨h1, h2, h3⟩ := h
    obtain ⟨i1, i2, i3⟩ := clean_init h3
    refine ⟨⟨h1, fun t ht => h2 t (List.mem_append_left _ ht), i1⟩, i2, fun x hx => ?_⟩
    rcases List.mem_cons.1 hx with rfl | hx
    · exact h2 s (List.mem_append_right _ (List.mem_singleton.2 rfl))
    · exact i3 x hx
theorem has_append (a b : List Sp) (n : Int) : hasS (a ++ b) n = (hasS a n || hasS b n) := by
  unfold hasS
  rw [List.any_append]
  cases decide (0 ≤ n ∧ n < farS) <;> simp
theorem has_single (s : Sp) (hs : 0 ≤ s.1 ∧ s.2 ≤ farS) (n : Int) : hasS [s] n = decide (s.1 ≤ n ∧ n < s.2) := by
  rw [has_cons, has_nil, Bool.or_false]
  by_cases h : s.1 ≤ n ∧ n < s.2
  · rw [decide_eq_true h, decide_eq_true (by omega : 0 ≤ n ∧ n < farS)]; rfl
  · rw [decide_eq_false h, Bool.and_false]
theorem split_last (out : List Sp) : out = [] ∨ ∃ l x, out = l ++ [x] := by
  rcases List.eq_nil_or_concat out with h | ⟨l, x, h⟩
  · exact .inl h
  · exact .inr ⟨l, x, by rw [h, List.concat_eq_append]⟩
theorem addS_nil (s : Sp) : addS [] s = [s] := rfl
theorem addS_snoc (l : List Sp) (x s : Sp) : addS (l ++ [x]) s = if x.2 = s.1 then l ++ [(x.1, s.2)] else l ++ [x] ++ [s] := by
  unfold addS
  rw [List.getLast?_concat, List.dropLast_concat]
theorem Upto.put {f : Int → Bool} {out : List Sp} {p q : Int} (h : Upto f out p) (hp : 0 ≤ p) (hpq : p < q) (hq : q ≤ farS) (hf : ∀ n, p ≤ n → n < q → f n = true) : Upto f (addS out (p, q)) q := by
  have key : ∀ n, (hasS out n || decide (p ≤ n ∧ n < q)) = (decide (n < q) && f n) := fun n => by
    rw [h.is]
    by_cases h1 : n < p
    · rw [decide_eq_true h1, decide_eq_true (by omega : n < q), decide_eq_false (by omega : ¬ (p ≤ n ∧ n < q))]; simp
    · rw [decide_eq_false h1]
      by_cases h2 : n < q
      · rw [decide_eq_true h2, decide_eq_true (by omega : p ≤ n ∧ n < q), hf n (by omega) h2]; rfl
      · rw [decide_eq_false h2, decide_eq_false (by omega : ¬ (p ≤ n ∧ n < q))]; rfl
  rcases split_last out with rfl | ⟨l, x, rfl⟩
  · rw [addS_nil]
    refine ⟨⟨⟨hp, hpq, hq⟩, fun t ht => absurd ht (by simp), trivial⟩, fun s hs => ?_, fun n => ?_⟩
    · obtain rfl : s = (p, q) := by simpa using hs
      exact Int.le_refl _
    · rw [← key, has_nil, Bool.false_or]
      exact has_single (p, q) ⟨hp, hq⟩ n
  · obtain ⟨c1, c2, c3⟩ := clean_init h.clean
    have hx := h.low x (List.mem_append_right _ (List.mem_singleton.2 rfl))
    rw [addS_snoc]
    by_cases he : x.2 = p
    · rw [if_pos he]
      refine ⟨clean_snoc c1 ⟨c2.1, by show x.1 < q; omega, hq⟩ c3, fun s hs => ?_, fun n => ?_⟩
      · rcases List.mem_append.1 hs with hs | hs
        · have := c3 s hs; omega
        · obtain rfl : s = (x.1, q) := by simpa using hs
          exact Int.le_refl _
      · rw [← key, has_append, has_append, has_single (x.1, q) ⟨c2.1, hq⟩, has_single x ⟨c2.1, c2.2.2⟩, Bool.or_assoc]
        congr 1
        by_cases h1 : x.1 ≤ n ∧ n < q
        · rw [decide_eq_true h1]
          by_cases h2 : n < p
          · rw [decide_eq_true (by omega : x.1 ≤ n ∧ n < x.2)]; rfl
          · rw [decide_eq_true (by omega : p ≤ n ∧ n < q)]; simp
        · rw [decide_eq_false h1, decide_eq_false (by omega : ¬ (x.1 ≤ n ∧ n < x.2)), decide_eq_false (by omega : ¬ (p ≤ n ∧ n < q))]; rfl
    · rw [if_neg he]
      refine ⟨clean_snoc h.clean ⟨hp, hpq, hq⟩ fun y hy => ?_, fun s hs => ?_, fun n => ?_⟩
      · show y.2 < p
        rcases List.mem_append.1 hy with hy | hy
        · have := c3 y hy; omega
        · obtain rfl : y = x := by simpa using hy
          omega
      · rcases List.mem_append.1 hs with hs | hs
        · have := h.low s hs; omega
        · obtain rfl : s = (p, q) := by simpa using hs
          exact Int.le_refl _
      · rw [← key, has_append, has_single (p, q) ⟨hp, hq⟩]
theorem Upto.skip {f : Int → Bool} {out : List Sp} {p q : Int} (h : Upto f out p) (hpq : p ≤ q) (hf : ∀ n, p ≤ n → n < q → f n = false) : Upto f out q := by
  refine ⟨h.clean, fun s hs => by have := h.low s hs; omega, fun n => ?_⟩
  rw [h.is]
  by_cases h1 : n < p
  · rw [decide_eq_true h1, decide_eq_true (by omega : n < q)]
  · rw [decide_eq_false h1]
    by_cases h2 : n < q
    · rw [hf n (by omega) h2]; simp
    · rw [decide_eq_false h2]
theorem Upto.nil {f : Int → Bool} {p : Int} (hf : ∀ n, n < p → f n = false) : Upto f [] p := by
  refine ⟨trivial, fun s hs => absurd hs (by simp), fun n => ?_⟩
  rw [has_nil]
  by_cases h1 : n < p
  · rw [hf n h1]; simp
  · rw [decide_eq_false h1]; rfl
theorem Upto.end_ {f : Int → Bool} {out : List Sp} {p : Int} (h : Upto f out p) (hf : ∀ n, p ≤ n → f n = false) : CleanR out ∧ ∀ n, hasS out n = f n := by
  refine ⟨h.clean, fun n => ?_⟩
  rw [h.is]
  by_cases h1 : n < p
  · rw [decide_eq_true h1]; rfl
  · rw [hf n (by omega)]; simp

/-! ### how many bytes -/
def sumS (l : List Sp) : Int := l.foldl (fun n s => n + (s.2 - s.1)) 0
def cntN (f : Int → Bool) : Nat → Int
  | 0 => 0
  | n + 1 => cntN f n + if f (n : Int) = true then 1 else 0
theorem cnt_congr {f g : Int → Bool} : ∀ N : Nat, (∀ n : Nat, n < N → f n = g n) → cntN f N = cntN g N
  | 0, _ => rfl
  | N + 1, h => by
    unfold cntN
    rw [cnt_congr N fun n hn => h n (by omega), h N (by omega)]
theorem cnt_or {f g : Int → Bool} : ∀ N : Nat, (∀ n, f n = true → g n = false) → cntN (fun n => f n || g n) N = cntN f N + cntN g N
  | 0, _ => rfl
  | N + 1, h => by
    unfold cntN
    rw [cnt_or N h]
    have := h N
    cases hf : f (N : Int) <;> cases hg : g (N : Int) <;> simp_all <;> omega
theorem cnt_between (a b : Int) (ha : 0 ≤ a) (hab : a ≤ b) : ∀ N : Nat, cntN (fun n => decide (a ≤ n ∧ n < b)) N = min b (max a N) - a
  | 0 => by unfold cntN; omega
  | N + 1 => by
    unfold cntN
    rw [cnt_between a b ha hab N]
    by_cases h : a ≤ (N : Int) ∧ (N : Int) < b
    · rw [if_pos (decide_eq_true h)]; omega
    · rw [if_neg (by rw [decide_eq_true_eq]; exact h)]; omega
theorem cnt_none : ∀ N : Nat, cntN (fun _ => false) N = 0
  | 0 => rfl
  | N + 1 => by unfold cntN; rw [cnt_none N]; rfl
theorem sum_from (l : List Sp) : ∀ n : Int, l.foldl (fun n s => n + (s.2 - s.1)) n = n + sumS l := by
  unfold sumS
  induction l with
  | nil => intro n; simp
  | cons s l ih =>
    intro n
    rw [List.foldl_cons, List.foldl_cons, ih, ih (0 + _)]
    omega
theorem sum_cons (s : Sp) (l : List Sp) : sumS (s :: l) = (s.2 - s.1) + sumS l := by
  show List.foldl _ _ _ = _
  rw [List.foldl_cons, sum_from]
  omega
theorem sum_is : ∀ {l : List Sp}, CleanR l → sumS l = cntN (hasS l) farS.toNat
  | [], _ => by rw [show hasS [] = fun _ => false from funext has_nil, cnt_none]; rfl
  | s :: l, h => by
    have hs := h.1
    have e : hasS (s :: l) = fun n => decide (s.1 ≤ n ∧ n < s.2) || hasS l n := funext fun n => by
      rw [show s :: l = [s] ++ l from rfl, has_append, has_single s ⟨hs.1, hs.2.2⟩]
    rw [e, cnt_or _ fun n hn => ?_, cnt_between _ _ hs.1 (by omega), sum_cons, sum_is h.2.2]
    · have : ((farS.toNat : Nat) : Int) = farS := by unfold farS; rfl
      rw [this]
      omega
    · have hn := of_decide_eq_true hn
      refine has_false.2 fun ⟨_, x, hx, h1⟩ => ?_
      have := h.2.1 x hx
      omega
end Go.Proofs.Ytcdodchjgadcoaa
