/- Parts of the proof, joined: PtA PtB PtC PtD PtE PuH. -/
import Derived.Test.YthkeoimjjgmppaaDoorQm
import Derived.Test.YthkeoimjjgmppaaDoorQq
import Derived.Deep.MidRow
/- The past: what an image that is meant answers, call by call: plain. -/
namespace Go.Proofs.YthkeoimjjgmppaaDoor
open Go.RowKit
set_option linter.unusedVariables false
set_option maxRecDepth 100000

def callH (x : PL) : PL := ⟨1, x.kind, x.off, x.len, x.snap, x.data⟩
def entH (k : Nat) (x : PL) : E7 := entP ((k : Int) + 1) 3 x
/-- Does a call change the image? -/
def okH (k : Nat) (m : PI) (x : PL) : Bool := decide (x.kind ≠ 0) && decide ((doP m (entH k x)).2.2 = 0)
def comK (k : Nat) (x : PL) : PC := ⟨2 * (k : Int) + 2, 1, entH k x⟩
def recK (k : Nat) (m : PI) (x : PL) : PR :=
  if x.kind = 0 then ⟨3, callH x, 2 * (k : Int) + 1, 2 * (k : Int) + 3, true, readE m x.off x.len x.snap, readD m x.off x.len x.snap, 0, 2 * (k : Int) + 2⟩
  else ⟨3, callH x, 2 * (k : Int) + 1, 2 * (k : Int) + 3, true, (doP m (entH k x)).2.2, [], (doP m (entH k x)).2.1, if (doP m (entH k x)).2.2 = 0 then 2 * (k : Int) + 2 else 0⟩
def nxtK (k : Nat) (m : PI) (x : PL) : PI := if okH k m x = true then (doP m (entH k x)).1 else m
/-- The image, the commits, the records behind so many calls. -/
def stK (m : PI) (xs : List PL) : Nat → PI
  | 0 => m
  | k + 1 => match xs[k]? with
    | none => stK m xs k
    | some x => nxtK k (stK m xs k) x
def csK (m : PI) (xs : List PL) : Nat → List PC
  | 0 => []
  | k + 1 => match xs[k]? with
    | none => csK m xs k
    | some x => csK m xs k ++ if okH k (stK m xs k) x = true then [comK k x] else []
def rsK (m : PI) (xs : List PL) : Nat → List PR
  | 0 => []
  | k + 1 => match xs[k]? with
    | none => rsK m xs k
    | some x => rsK m xs k ++ [recK k (stK m xs k) x]
section
variable {m : PI} {xs : List PL}
theorem stK_at {k : Nat} {x : PL} (h : xs[k]? = some x) : stK m xs (k + 1) = nxtK k (stK m xs k) x := by
  show (match xs[k]? with | none => stK m xs k | some x => nxtK k (stK m xs k) x) = _
  rw [h]
theorem csK_at {k : Nat} {x : PL} (h : xs[k]? = some x) : csK m xs (k + 1) = csK m xs k ++ if okH k (stK m xs k) x = true then [comK k x] else [] := by
  show (match xs[k]? with | none => csK m xs k | some x => csK m xs k ++ if okH k (stK m xs k) x = true then [comK k x] else []) = _
  rw [h]
theorem rsK_at {k : Nat} {x : PL} (h : xs[k]? = some x) : rsK m xs (k + 1) = rsK m xs k ++ [recK k (stK m xs k) x] := by
  show (match xs[k]? with | none => rsK m xs k | some x => rsK m xs k ++ [recK k (stK m xs k) x]) = _
  rw [h]
theorem some_at {n k : Nat} (hn : n ≤ xs.length) (hk : k < n) : ∃ x, xs[k]? = some x := ⟨xs[k]'(by omega), List.getElem?_eq_getElem (by omega)⟩
theorem rsK_len : ∀ n, n ≤ xs.length → (rsK m xs n).length = n
  | 0, _ => rfl
  | n + 1, h => by
    obtain ⟨x, hx⟩ := some_at h (Nat.lt_succ_self n)
    rw [rsK_at hx, List.length_append, rsK_len n (by omega)]
    rfl
theorem rsK_get : ∀ n, n ≤ xs.length → ∀ k x, k < n → xs[k]? = some x → (rsK m xs n)[k]? = some (recK k (stK m xs k) x)
  | 0, _, k, x, hk, _ => absurd hk (by omega)
  | n + 1, h, k, x, hk, hx => by
    obtain ⟨y, hy⟩ := some_at h (Nat.lt_succ_self n)
    have hl := rsK_len (m := m) n (by omega : n ≤ xs.length)
    rw [rsK_at hy]
    by_cases e : k = n
    · subst e
      rw [hx] at hy
      obtain rfl := Option.some.inj hy
      rw [List.getElem?_append_right (by omega), hl, Nat.sub_self]
      rfl
    · rw [List.getElem?_append_left (by omega)]
      exact rsK_get n (by omega) k x (by omega) hx
theorem rsK_mem {n : Nat} (hn : n ≤ xs.length) {r : PR} (h : r ∈ rsK m xs n) : ∃ k x, k < n ∧ xs[k]? = some x ∧ r = recK k (stK m xs k) x := by
  obtain ⟨k, hk⟩ := List.mem_iff_getElem?.1 h
  have hkl : k < n := by rw [← rsK_len (m := m) n hn]; exact (List.getElem?_eq_some_iff.1 hk).1
  obtain ⟨x, hx⟩ := some_at hn hkl
  rw [rsK_get n hn k x hkl hx] at hk
  exact ⟨k, x, hkl, hx, (Option.some.inj hk).symm⟩
theorem csK_mem : ∀ n, n ≤ xs.length → ∀ c, c ∈ csK m xs n ↔ ∃ k x, k < n ∧ xs[k]? = some x ∧ okH k (stK m xs k) x = true ∧ c = comK k x
  | 0, _, c => by
    constructor
    · intro h; cases h
    · rintro ⟨k, _, hk, _⟩; omega
  | n + 1, h, c => by
    obtain ⟨y, hy⟩ := some_at h (Nat.lt_succ_self n)
    rw [csK_at hy, List.mem_append, csK_mem n (by omega) c]
    constructor
    · rintro (⟨k, x, hk, r⟩ | hc)
      · exact ⟨k, x, by omega, r⟩
      · by_cases ho : okH n (stK m xs n) y = true
        · rw [if_pos ho] at hc
          exact ⟨n, y, by omega, hy, ho, List.mem_singleton.1 hc⟩
        · rw [if_neg ho] at hc
          cases hc
    · rintro ⟨k, x, hk, hx, ho, rfl⟩
      by_cases e : k = n
      · subst e
        rw [hx] at hy
        obtain rfl := Option.some.inj hy
        exact .inr (by rw [if_pos ho]; exact List.mem_singleton.2 rfl)
      · exact .inl ⟨k, x, by omega, hx, ho, rfl⟩
theorem csK_ix {n : Nat} (hn : n ≤ xs.length) {c : PC} (h : c ∈ csK m xs n) : c.im = 1 ∧ 0 < c.ix ∧ c.ix ≤ 2 * (n : Int) := by
  obtain ⟨k, x, hk, _, _, rfl⟩ := (csK_mem n hn c).1 h
  refine ⟨rfl, ?_, ?_⟩
  · show (0 : Int) < 2 * (k : Int) + 2; omega
  · show 2 * (k : Int) + 2 ≤ 2 * (n : Int); omega
theorem csK_pw : ∀ n, n ≤ xs.length → (csK m xs n).Pairwise (fun a b => a.ix < b.ix)
  | 0, _ => List.Pairwise.nil
  | n + 1, h => by
    obtain ⟨y, hy⟩ := some_at h (Nat.lt_succ_self n)
    rw [csK_at hy, List.pairwise_append]
    refine ⟨csK_pw n (by omega), ?_, fun a ha b hb => ?_⟩
    · split
      · exact List.pairwise_singleton _ _
      · exact List.Pairwise.nil
    · have h1 := (csK_ix (by omega) ha).2.2
      by_cases ho : okH n (stK m xs n) y = true
      · rw [if_pos ho] at hb
        obtain rfl := List.mem_singleton.1 hb
        show a.ix < 2 * (n : Int) + 2
        omega
      · rw [if_neg ho] at hb
        cases hb
end
/-! ### images behind commits -/
theorem ris_iff : ∀ (cs : List PC) (a : Int), risO a cs = true ↔ (∀ c ∈ cs, a < c.ix) ∧ cs.Pairwise (fun a b => a.ix < b.ix)
  | [], a => by simp [risO]
  | c :: cs, a => by
    unfold risO
    rw [Bool.and_eq_true, decide_eq_true_iff, ris_iff cs c.ix, List.pairwise_cons]
    constructor
    · rintro ⟨h1, h2, h3⟩
      refine ⟨fun d hd => ?_, h2, h3⟩
      rcases List.mem_cons.1 hd with rfl | hd
      · exact h1
      · have := h2 d hd; omega
    · rintro ⟨h1, h2, h3⟩
      exact ⟨h1 c (List.mem_cons_self ..), h2, h3⟩
theorem atF_app (im ix : Int) : ∀ (a b : List PC) (m : PI), atF im ix (a ++ b) m = (atF im ix a m).bind (atF im ix b)
  | [], b, m => rfl
  | c :: a, b, m => by
    show (if c.im = im ∧ c.ix ≤ ix then (if (doP m c.e).2.2 = 0 then atF im ix (a ++ b) (doP m c.e).1 else none) else atF im ix (a ++ b) m) = (if c.im = im ∧ c.ix ≤ ix then (if (doP m c.e).2.2 = 0 then atF im ix a (doP m c.e).1 else none) else atF im ix a m).bind _
    rw [atF_app im ix a b, atF_app im ix a b]
    split
    · split <;> rfl
    · rfl
theorem atF_none (im ix : Int) : ∀ (a : List PC) (m : PI), (∀ c ∈ a, ¬ (c.im = im ∧ c.ix ≤ ix)) → atF im ix a m = some m
  | [], m, _ => rfl
  | c :: a, m, h => by
    show (if c.im = im ∧ c.ix ≤ ix then (if (doP m c.e).2.2 = 0 then atF im ix a (doP m c.e).1 else none) else atF im ix a m) = _
    rw [if_neg (h c (List.mem_cons_self ..))]
    exact atF_none im ix a m fun d hd => h d (List.mem_cons_of_mem _ hd)
theorem atF_K {m : PI} {xs : List PL} (ix : Int) : ∀ n, n ≤ xs.length → ∀ k, k ≤ n → (∀ j, j < n → (2 * (j : Int) + 2 ≤ ix ↔ j < k)) → atF 1 ix (csK m xs n) m = some (stK m xs k)
  | 0, _, k, hk, _ => by obtain rfl : k = 0 := by omega
                         rfl
  | n + 1, h, k, hk, hj => by
    obtain ⟨y, hy⟩ := some_at h (Nat.lt_succ_self n)
    rw [csK_at hy, atF_app]
    by_cases e : k = n + 1
    · subst e
      rw [atF_K ix n (by omega) n (Nat.le_refl _) fun j hjn => ⟨fun _ => hjn, fun _ => (hj j (by omega)).2 (by omega)⟩, stK_at hy]
      show atF 1 ix _ (stK m xs n) = _
      unfold nxtK
      by_cases ho : okH n (stK m xs n) y = true
      · rw [if_pos ho, if_pos ho]
        have hd : (doP (stK m xs n) (entH n y)).2.2 = 0 := by
          unfold okH at ho
          rw [Bool.and_eq_true, decide_eq_true_iff, decide_eq_true_iff] at ho
          exact ho.2
        have hix := (hj n (by omega)).2 (by omega)
        show (if (comK n y).im = 1 ∧ (comK n y).ix ≤ ix then (if (doP (stK m xs n) (comK n y).e).2.2 = 0 then atF 1 ix [] (doP (stK m xs n) (comK n y).e).1 else none) else atF 1 ix [] (stK m xs n)) = _
        rw [if_pos ⟨rfl, hix⟩, if_pos (show (doP (stK m xs n) (comK n y).e).2.2 = 0 from hd)]
        rfl
      · rw [if_neg ho, if_neg ho]
        rfl
    · rw [atF_K ix n (by omega) k (by omega) fun j hjn => hj j (by omega)]
      show atF 1 ix _ (stK m xs k) = _
      refine atF_none 1 ix _ _ fun c hc => ?_
      by_cases ho : okH n (stK m xs n) y = true
      · rw [if_pos ho] at hc
        obtain rfl := List.mem_singleton.1 hc
        have := hj n (by omega)
        rintro ⟨_, h2⟩
        have := this.1 h2
        omega
      · rw [if_neg ho] at hc
        cases hc
/-! ### the owner of a commit -/
theorem free_exact (c : PC) : ∀ (rs : List PR) (t : List Bool) (p : Nat), t.length = rs.length → t[p]? = some false → (∀ q r, rs[q]? = some r → (matchP r c = true ↔ q = p)) → freeO c rs t = some p
  | [], t, p, hl, ht, _ => by
    have := (List.getElem?_eq_some_iff.1 ht).1
    rw [hl] at this
    exact absurd this (by simp)
  | r :: rs, [], p, hl, _, _ => absurd hl (by simp)
  | r :: rs, b :: t, 0, hl, ht, h => by
    have hb : b = false := by simpa using ht
    have hm := (h 0 r rfl).2 rfl
    unfold freeO
    rw [if_pos ⟨hb, hm⟩]
  | r :: rs, b :: t, p + 1, hl, ht, h => by
    have hm : ¬ matchP r c = true := fun e => absurd ((h 0 r rfl).1 e) (by omega)
    unfold freeO
    rw [if_neg (fun e => hm e.2), free_exact c rs t p (by simpa using hl) (by simpa using ht) fun q r' hq => by
      rw [h (q + 1) r' (by simpa using hq)]; omega]
    rfl
theorem free_no (c : PC) : ∀ (rs : List PR) (t : List Bool), (∀ r ∈ rs, matchP r c = false) → freeO c rs t = none
  | [], t, _ => by cases t <;> rfl
  | r :: rs, [], _ => rfl
  | r :: rs, b :: t, h => by
    unfold freeO
    rw [if_neg (fun e => by rw [h r (List.mem_cons_self ..)] at e; exact absurd e.2 (by decide)), free_no c rs t fun q hq => h q (List.mem_cons_of_mem _ hq)]
    rfl
theorem own_exact (rs : List PR) (p : PC → Nat) : ∀ (cs : List PC) (t : List Bool), t.length = rs.length → (∀ c ∈ cs, t[p c]? = some false ∧ ∀ q r, rs[q]? = some r → (matchP r c = true ↔ q = p c)) → cs.Pairwise (fun a b => p a ≠ p b) → ownO rs cs t = true
  | [], _, _, _, _ => rfl
  | c :: cs, t, hl, h, hp => by
    obtain ⟨h1, h2⟩ := h c (List.mem_cons_self ..)
    rw [List.pairwise_cons] at hp
    unfold ownO
    rw [free_exact c rs t (p c) hl h1 h2]
    refine own_exact rs p cs _ (by rw [List.length_set]; exact hl) (fun d hd => ?_) hp.2
    obtain ⟨h3, h4⟩ := h d (List.mem_cons_of_mem _ hd)
    exact ⟨by rw [List.getElem?_set_ne (hp.1 d hd)]; exact h3, h4⟩
theorem own_no (rs : List PR) (c : PC) (hc : ∀ r ∈ rs, matchP r c = false) : ∀ (cs : List PC) (t : List Bool), c ∈ cs → ownO rs cs t = false
  | [], _, h => by cases h
  | d :: cs, t, h => by
    unfold ownO
    rcases List.mem_cons.1 h with rfl | h
    · rw [free_no c rs t hc]
    · cases freeO d rs t with
      | none => rfl
      | some k => exact own_no rs c hc cs _ h
theorem find_one {α : Type} (p : α → Bool) (cs : List α) (c : α) (h : c ∈ cs) (hp : p c = true) (hu : ∀ d ∈ cs, p d = true → d = c) : cs.find? p = some c := by
  cases hf : cs.find? p with
  | none => exact absurd hp (by simpa using List.find?_eq_none.1 hf c h)
  | some d => rw [hu d (List.mem_of_find?_eq_some hf) (List.find?_some hf)]
/-! ### matches -/
theorem ok_parts {k : Nat} {m : PI} {x : PL} (h : okH k m x = true) : x.kind ≠ 0 ∧ (doP m (entH k x)).2.2 = 0 := by
  unfold okH at h
  rwa [Bool.and_eq_true, decide_eq_true_iff, decide_eq_true_iff] at h
theorem do_kind {m : PI} {e : E7} (h : (doP m e).2.2 = 0) : 1 ≤ e.kind ∧ e.kind ≤ 6 := by
  have hm : mayE e = true := by
    cases hm : mayE e with
    | true => rfl
    | false =>
      unfold doP at h
      cases hi : mayI m <;> simp [hi, hm] at h
  have := of_decide_eq_true hm
  unfold mayP at this
  omega
theorem ok_mut {k : Nat} {m : PI} {x : PL} (h : okH k m x = true) : mutP x = true := by
  have := do_kind (ok_parts h).2
  unfold mutP
  exact decide_eq_true this
theorem recK_ok {k : Nat} {m : PI} {x : PL} (h : okH k m x = true) : recK k m x = ⟨3, callH x, 2 * (k : Int) + 1, 2 * (k : Int) + 3, true, 0, [], (doP m (entH k x)).2.1, 2 * (k : Int) + 2⟩ := by
  obtain ⟨h1, h2⟩ := ok_parts h
  unfold recK
  rw [if_neg h1, if_pos h2, h2]
theorem recK_done (k : Nat) (m : PI) (x : PL) : (recK k m x).done = true ∧ (recK k m x).fr = 2 * (k : Int) + 1 ∧ (recK k m x).tt = 2 * (k : Int) + 3 ∧ (recK k m x).call = callH x ∧ (recK k m x).cl = 3 := by
  unfold recK
  split <;> exact ⟨rfl, rfl, rfl, rfl, rfl⟩
theorem same_refl (e : E7) : sameO e e = true := sameO_iff.2 rfl
theorem match_parts {r : PR} {c : PC} (h : matchP r c = true) : mutP r.call = true ∧ r.call.image = c.im ∧ r.fr < c.ix ∧ (r.done = false ∨ (r.E = 0 ∧ r.rx = c.ix ∧ c.ix ≤ r.tt)) := by
  unfold matchP at h
  simp only [Bool.and_eq_true, Bool.or_eq_true, decide_eq_true_eq, Bool.not_eq_true'] at h
  exact ⟨h.1.1.1.1, h.1.1.1.2, h.1.1.2, by rcases h.1.2 with h | h; exact .inl h; exact .inr ⟨h.1.1, h.1.2, h.2⟩⟩
theorem match_of {r : PR} {c : PC} (h1 : mutP r.call = true) (h2 : r.call.image = c.im) (h3 : r.fr < c.ix) (h4 : r.done = false ∨ (r.E = 0 ∧ r.rx = c.ix ∧ c.ix ≤ r.tt)) (h5 : entP c.e.seq r.cl r.call = c.e) : matchP r c = true := by
  unfold matchP
  simp only [Bool.and_eq_true, Bool.or_eq_true, decide_eq_true_eq, Bool.not_eq_true']
  refine ⟨⟨⟨⟨h1, h2⟩, h3⟩, ?_⟩, by rw [h5]; exact same_refl _⟩
  rcases h4 with h | ⟨a, b, c⟩
  · exact .inl h
  · exact .inr ⟨⟨a, b⟩, c⟩
theorem match_K {m : PI} {k j : Nat} {x y : PL} (h : matchP (recK k m x) (comK j y) = true) : k = j ∧ okH k m x = true := by
  obtain ⟨h1, _, _, h4⟩ := match_parts h
  obtain ⟨d1, d2, d3, d4, _⟩ := recK_done k m x
  rw [d4] at h1
  have hk : ¬ x.kind = 0 := fun e => by
    unfold mutP at h1
    have := of_decide_eq_true h1
    have hc : (callH x).kind = x.kind := rfl
    omega
  rw [d1] at h4
  rcases h4 with h4 | ⟨h4, h5, _⟩
  · exact absurd h4 (by decide)
  · unfold recK at h4 h5
    rw [if_neg hk] at h4 h5
    have h4 : (doP m (entH k x)).2.2 = 0 := h4
    have h5 : (if (doP m (entH k x)).2.2 = 0 then 2 * (k : Int) + 2 else 0) = 2 * (j : Int) + 2 := h5
    rw [if_pos h4] at h5
    refine ⟨by omega, ?_⟩
    unfold okH
    rw [decide_eq_true hk, decide_eq_true h4]
    rfl
theorem match_self {m : PI} {k : Nat} {x : PL} (h : okH k m x = true) : matchP (recK k m x) (comK k x) = true := by
  rw [recK_ok h]
  refine match_of (ok_mut (k := k) (m := m) h) rfl ?_ (.inr ⟨rfl, rfl, ?_⟩) rfl
  · show 2 * (k : Int) + 1 < 2 * (k : Int) + 2; omega
  · show 2 * (k : Int) + 2 ≤ 2 * (k : Int) + 3; omega
theorem match_late {m : PI} {k : Nat} {x : PL} {c : PC} (h : 2 * (k : Int) + 3 < c.ix) : matchP (recK k m x) c = false := by
  cases hm : matchP (recK k m x) c with
  | false => rfl
  | true =>
    obtain ⟨_, _, _, h4⟩ := match_parts hm
    obtain ⟨d1, d2, d3, d4, _⟩ := recK_done k m x
    rw [d1, d3] at h4
    rcases h4 with h4 | ⟨_, _, h4⟩
    · exact absurd h4 (by decide)
    · omega
theorem match_early {r : PR} {c : PC} (h : c.ix ≤ r.fr) : matchP r c = false := by
  cases hm : matchP r c with
  | false => rfl
  | true => have := (match_parts hm).2.2.1; omega
end Go.Proofs.YthkeoimjjgmppaaDoor

/- The past: what is right of what an image that is meant answers: plain laws. -/
namespace Go.Proofs.YthkeoimjjgmppaaDoor
open Go.RowKit
set_option linter.unusedVariables false
set_option maxRecDepth 100000

section
variable {size : Int} {xs : List PL} {n : Nat}
theorem stK_keep {m : PI} {k : Nat} {x : PL} (hx : xs[k]? = some x) (h : okH k (stK m xs k) x = false) : stK m xs (k + 1) = stK m xs k := by
  rw [stK_at hx]
  unfold nxtK
  rw [h, if_neg (by decide)]
/-- The image up to an index: the indices of what follows lie behind. -/
theorem at_K (m : PI) (hn : n ≤ xs.length) (ys : List PC) {k : Nat} (hk : k ≤ n) {ix : Int} (hj : ∀ j, j < n → (2 * (j : Int) + 2 ≤ ix ↔ j < k)) (hy : ∀ y ∈ ys, ix < y.ix) : atF 1 ix (csK m xs n ++ ys) m = some (stK m xs k) := by
  rw [atF_app, atF_K ix n hn k hk hj]
  exact atF_none 1 ix ys _ fun y h e => by have := hy y h; omega
theorem ris_K1 {m : PI} (hn : n ≤ xs.length) {y : PC} (hy : 2 * (n : Int) + 2 ≤ y.ix) : risO 0 (csK m xs n ++ [y]) = true := by
  rw [ris_iff, List.pairwise_append]
  refine ⟨fun c hc => ?_, csK_pw n hn, List.pairwise_singleton _ _, fun a ha b hb => ?_⟩
  · rcases List.mem_append.1 hc with hc | hc
    · exact (csK_ix hn hc).2.1
    · obtain rfl := List.mem_singleton.1 hc; omega
  · have := (csK_ix hn ha).2.2
    obtain rfl := List.mem_singleton.1 hb; omega
theorem ris_K {m : PI} (hn : n ≤ xs.length) : risO 0 (csK m xs n) = true := by
  rw [ris_iff]
  exact ⟨fun c hc => (csK_ix hn hc).2.1, csK_pw n hn⟩
/-! ### answers -/
theorem ans_K (hn : n ≤ xs.length) (hb : n ≤ 1000) (ys : List PC) (hr : risO 0 (csK (newP size) xs n ++ ys) = true) (hy : ∀ y ∈ ys, 2 * (n : Int) + 2 ≤ y.ix) {k : Nat} {x : PL} (hk : k < n) (hx : xs[k]? = some x) (N : Int) (d : List UInt8) :
    answeredP size (csK (newP size) xs n ++ ys) { recK k (stK (newP size) xs k) x with N := N, rd := d } =
      (decide ((recK k (stK (newP size) xs k) x).E ≠ 0) || if x.kind = 0 then decide (d = readD (stK (newP size) xs k) x.off x.len x.snap) else decide (N = (recK k (stK (newP size) xs k) x).N) && decide (d = [])) := by
  have hat : ∀ {q : Nat} {ix : Int}, q ≤ n → (∀ j, j < n → (2 * (j : Int) + 2 ≤ ix ↔ j < q)) → ix < 2 * (n : Int) + 2 → imO size (csK (newP size) xs n ++ ys) 1 ix = some (stK (newP size) xs q) := fun {q ix} hq hj hi => by
    unfold imO
    rw [if_pos hr]
    exact at_K _ hn ys hq hj fun y h => by have := hy y h; omega
  by_cases h0 : x.kind = 0
  · have ek : okH k (stK (newP size) xs k) x = false := by unfold okH; rw [h0]; rfl
    have hk1 := stK_keep hx ek
    have hi : imO size (csK (newP size) xs n ++ ys) 1 (2 * (k : Int) + 2) = some (stK (newP size) xs k) := by rw [← hk1]; exact hat (by omega) (fun j hj => by omega) (by omega)
    generalize stK (newP size) xs k = m at *
    have e : { recK k m x with N := N, rd := d } = (⟨3, callH x, 2 * (k : Int) + 1, 2 * (k : Int) + 3, true, readE m x.off x.len x.snap, d, N, 2 * (k : Int) + 2⟩ : PR) := by unfold recK; rw [if_pos h0]
    have eE : (recK k m x).E = readE m x.off x.len x.snap := by unfold recK; rw [if_pos h0]
    rw [e, eE, if_pos h0]
    unfold answeredP
    by_cases hE : readE m x.off x.len x.snap = 0
    · rw [if_neg (by simp [hE]), if_neg (show ¬ mutP (callH x) = true by unfold mutP callH; simp [h0])]
      have hki : (callH x).kind = 0 := h0
      rw [if_neg (show ¬ (((callH x).kind ≠ 0 ∧ (callH x).kind ≠ 7) ∨ 2 * (k : Int) + 2 < 2 * (k : Int) + 1 ∨ 2 * (k : Int) + 3 < 2 * (k : Int) + 2) by omega)]
      show (match imO size _ 1 (2 * (k : Int) + 2) with | none => false | some m => toldP m _) = _
      rw [hi]
      show toldP m _ = _
      unfold toldP
      rw [if_pos hki]
      show (decide (readE m x.off x.len x.snap = 0) && decide (readD m x.off x.len x.snap = d)) = _
      rw [hE]
      simp [eq_comm]
    · rw [if_pos (.inr hE), decide_eq_true hE]; rfl
  · rw [if_neg h0]
    have hi : imO size (csK (newP size) xs n ++ ys) 1 (2 * (k : Int) + 1) = some (stK (newP size) xs k) := hat (by omega) (fun j hj => by omega) (by omega)
    by_cases hE : (doP (stK (newP size) xs k) (entH k x)).2.2 = 0
    · have ho : okH k (stK (newP size) xs k) x = true := by unfold okH; rw [decide_eq_true h0, decide_eq_true hE]; rfl
      have hc : comK k x ∈ csK (newP size) xs n := (csK_mem n hn _).2 ⟨k, x, hk, hx, ho, rfl⟩
      have hms : matchP { recK k (stK (newP size) xs k) x with N := N, rd := d } (comK k x) = true := match_self ho
      have hf : (csK (newP size) xs n ++ ys).find? (matchP { recK k (stK (newP size) xs k) x with N := N, rd := d }) = some (comK k x) := find_one _ _ _ (List.mem_append_left _ hc) hms fun c hc' hm => by
        have hm : matchP (recK k (stK (newP size) xs k) x) c = true := hm
        rcases List.mem_append.1 hc' with hc' | hc'
        · obtain ⟨j, y, _, hy', _, rfl⟩ := (csK_mem n hn _).1 hc'
          obtain ⟨rfl, _⟩ := match_K hm
          rw [hx] at hy'
          rw [Option.some.inj hy']
        · rw [match_late (by have := hy c hc'; omega)] at hm
          exact absurd hm (by decide)
      have hw : wrap64 ((comK k x).ix - 1) = 2 * (k : Int) + 1 := by
        show wrap64 (2 * (k : Int) + 2 - 1) = _
        unfold wrap64; omega
      generalize stK (newP size) xs k = m at *
      unfold answeredP
      have eE : (recK k m x).E = 0 := by rw [recK_ok ho]
      have eN : (recK k m x).N = (doP m (entH k x)).2.1 := by rw [recK_ok ho]
      have hmu : mutP (recK k m x).call = true := by rw [recK_ok ho]; exact ok_mut ho
      rw [if_neg (show ¬ ((recK k m x).done = false ∨ (recK k m x).E ≠ 0) by rw [(recK_done k m x).1, eE]; simp), if_pos hmu]
      unfold changedP
      rw [hf]
      show (match imO size _ 1 (wrap64 ((comK k x).ix - 1)) with | none => false | some m' => decide ((doP m' (entH k x)).2.2 = 0) && decide (N = (doP m' (entH k x)).2.1) && decide (d.length = 0)) = _
      rw [hw, hi, eE, eN]
      show (decide ((doP m (entH k x)).2.2 = 0) && decide (N = (doP m (entH k x)).2.1) && decide (d.length = 0)) = _
      rw [hE]
      simp
    · have eE : (recK k (stK (newP size) xs k) x).E = (doP (stK (newP size) xs k) (entH k x)).2.2 := by unfold recK; rw [if_neg h0]
      unfold answeredP
      rw [if_pos (show _ ∨ (recK k (stK (newP size) xs k) x).E ≠ 0 from .inr (by rw [eE]; exact hE)), eE, decide_eq_true hE]
      rfl
theorem ans_K1 (hn : n ≤ xs.length) (hb : n ≤ 1000) (ys : List PC) (hr : risO 0 (csK (newP size) xs n ++ ys) = true) (hy : ∀ y ∈ ys, 2 * (n : Int) + 2 ≤ y.ix) {r : PR} (h : r ∈ rsK (newP size) xs n) : answeredP size (csK (newP size) xs n ++ ys) r = true := by
  obtain ⟨k, x, hk, hx, rfl⟩ := rsK_mem hn h
  have e := ans_K hn hb ys hr hy hk hx (recK k (stK (newP size) xs k) x).N (recK k (stK (newP size) xs k) x).rd
  rw [show { recK k (stK (newP size) xs k) x with N := (recK k (stK (newP size) xs k) x).N, rd := (recK k (stK (newP size) xs k) x).rd } = recK k (stK (newP size) xs k) x from rfl] at e
  rw [e, Bool.or_eq_true]
  by_cases hE : (recK k (stK (newP size) xs k) x).E = 0
  · right
    by_cases h0 : x.kind = 0
    · rw [if_pos h0]
      refine decide_eq_true ?_
      unfold recK
      rw [if_pos h0]
    · rw [if_neg h0, decide_eq_true rfl, Bool.true_and]
      refine decide_eq_true ?_
      unfold recK
      rw [if_neg h0]
  · exact .inl (decide_eq_true hE)
theorem ans_open {cs : List PC} {z : PR} (h : z.done = false) : answeredP size cs z = true := by unfold answeredP; rw [if_pos (.inl h)]
/-! ### owners -/
def posK (n : Nat) (c : PC) : Nat := min n ((c.ix - 2) / 2).toNat
theorem ownK_base {m : PI} (hn : n ≤ xs.length) (zs : List PR) (hz : ∀ z ∈ zs, ∀ c ∈ csK m xs n, matchP z c = false) {c : PC} (hc : c ∈ csK m xs n) : posK n c < n ∧ ∀ q r, (rsK m xs n ++ zs)[q]? = some r → (matchP r c = true ↔ q = posK n c) := by
  have hc0 := hc
  obtain ⟨k, x, hk, hx, ho, rfl⟩ := (csK_mem n hn c).1 hc
  have hp : posK n (comK k x) = k := by
    show min n ((2 * (k : Int) + 2 - 2) / 2).toNat = k
    omega
  rw [hp]
  refine ⟨hk, fun q r hq => ?_⟩
  by_cases hqn : q < n
  · obtain ⟨y, hy⟩ := some_at hn hqn
    rw [List.getElem?_append_left (by rw [rsK_len n hn]; exact hqn), rsK_get n hn q y hqn hy] at hq
    obtain rfl := Option.some.inj hq
    refine ⟨fun h => (match_K h).1, fun e => ?_⟩
    subst e
    rw [hx] at hy
    obtain rfl := Option.some.inj hy
    exact match_self ho
  · rw [List.getElem?_append_right (by rw [rsK_len n hn]; omega)] at hq
    have := hz r (List.mem_of_getElem? hq) _ hc0
    rw [this]
    exact ⟨fun h => absurd h (by decide), fun h => absurd h (by omega)⟩
theorem pos_ne {a b : PC} {m : PI} (hn : n ≤ xs.length) (ha : a ∈ csK m xs n) (hb : b ∈ csK m xs n) (h : a.ix < b.ix) : posK n a ≠ posK n b := by
  obtain ⟨k, x, hk, _, _, rfl⟩ := (csK_mem n hn a).1 ha
  obtain ⟨j, y, hj, _, _, rfl⟩ := (csK_mem n hn b).1 hb
  have h : 2 * (k : Int) + 2 < 2 * (j : Int) + 2 := h
  show min n ((2 * (k : Int) + 2 - 2) / 2).toNat ≠ min n ((2 * (j : Int) + 2 - 2) / 2).toNat
  omega
theorem owned_K {m : PI} (hn : n ≤ xs.length) (zs : List PR) (hz : ∀ z ∈ zs, ∀ c ∈ csK m xs n, matchP z c = false) : ownedP (csK m xs n) (rsK m xs n ++ zs) = true := by
  unfold ownedP
  have hl : (rsK m xs n ++ zs).length = n + zs.length := by rw [List.length_append, rsK_len n hn]
  refine own_exact _ (posK n) _ _ (by rw [List.length_replicate]) (fun c hc => ?_) ?_
  · obtain ⟨h1, h2⟩ := ownK_base hn zs hz hc
    exact ⟨by rw [List.getElem?_replicate, if_pos (by omega)], h2⟩
  · exact (csK_pw n hn).imp_of_mem fun ha hb h => pos_ne hn ha hb h
theorem owned_K1 {m : PI} (hn : n ≤ xs.length) {y : PC} {z : PR} (hy : 2 * (n : Int) + 2 ≤ y.ix) (hz : ∀ c ∈ csK m xs n, matchP z c = false) (hm : matchP z y = true) : ownedP (csK m xs n ++ [y]) (rsK m xs n ++ [z]) = true := by
  unfold ownedP
  have hl : (rsK m xs n ++ [z]).length = n + 1 := by rw [List.length_append, rsK_len n hn]; rfl
  have hp : posK n y = n := by unfold posK; omega
  refine own_exact _ (posK n) _ _ (by rw [List.length_replicate]) (fun c hc => ?_) ?_
  · rcases List.mem_append.1 hc with hc | hc
    · obtain ⟨h1, h2⟩ := ownK_base hn [z] (fun z' h c hc => by obtain rfl := List.mem_singleton.1 h; exact hz c hc) hc
      exact ⟨by rw [List.getElem?_replicate, if_pos (by omega)], h2⟩
    · obtain rfl := List.mem_singleton.1 hc
      refine ⟨by rw [List.getElem?_replicate, if_pos (by omega)], fun q r hq => ?_⟩
      rw [hp]
      by_cases hqn : q < n
      · obtain ⟨x, hx⟩ := some_at hn hqn
        rw [List.getElem?_append_left (by rw [rsK_len n hn]; exact hqn), rsK_get n hn q x hqn hx] at hq
        obtain rfl := Option.some.inj hq
        rw [match_late (by omega)]
        exact ⟨fun h => absurd h (by decide), fun h => absurd h (by omega)⟩
      · rw [List.getElem?_append_right (by rw [rsK_len n hn]; omega), rsK_len n hn] at hq
        have hq1 := (List.getElem?_eq_some_iff.1 hq).1
        have hq0 : q = n := by simp only [List.length_singleton] at hq1; omega
        subst hq0
        rw [Nat.sub_self] at hq
        obtain rfl : z = r := by simpa using hq
        exact ⟨fun _ => rfl, fun _ => hm⟩
  · rw [List.pairwise_append]
    refine ⟨(csK_pw n hn).imp_of_mem fun ha hb h => pos_ne hn ha hb h, List.pairwise_singleton _ _, fun a ha b hb => ?_⟩
    obtain rfl := List.mem_singleton.1 hb
    have := (ownK_base hn [] (fun z h => absurd h (by simp)) ha).1
    omega
theorem owned_none {cs : List PC} {rs : List PR} {c : PC} (h : c ∈ cs) (hc : ∀ r ∈ rs, matchP r c = false) : ownedP cs rs = false := own_no rs c hc cs _ h
/-! ### right -/
theorem last_app : ∀ (cs : List PC) (a : Int) (y : PC), lastO a (cs ++ [y]) = max (lastO a cs) y.ix
  | [], a, y => rfl
  | c :: cs, a, y => last_app cs (max a c.ix) y
theorem atK_any (m : PI) (hn : n ≤ xs.length) (ix : Int) : (atF 1 ix (csK m xs n) m).isSome = true := by
  rw [atF_K ix n hn (min n (ix / 2).toNat) (by omega) fun j hj => by omega]
  rfl
theorem right_no1 {cs : List PC} {rs : List PR} (h : ownedP cs rs = false) : rightP size cs rs = false := by
  unfold rightP
  rw [h, Bool.and_false, Bool.false_and]
theorem right_no2 {cs : List PC} {rs : List PR} {r : PR} (h : r ∈ rs) (ha : answeredP size cs r = false) : rightP size cs rs = false := by
  unfold rightP
  rw [show rs.all (answeredP size cs) = false from by
    cases e : rs.all (answeredP size cs) with
    | false => rfl
    | true => rw [List.all_eq_true.1 e r h] at ha; exact absurd ha (by decide), Bool.and_false]
/-- With records that may match nothing. -/
theorem right_K (hn : n ≤ xs.length) (hb : n ≤ 1000) (zs : List PR) (hz : ∀ z ∈ zs, z.done = false ∧ 2 * (n : Int) ≤ z.fr) : rightP size (csK (newP size) xs n) (rsK (newP size) xs n ++ zs) = true := by
  have hr : risO 0 (csK (newP size) xs n) = true := ris_K hn
  have h1 : ∀ ix, (imO size (csK (newP size) xs n) 1 ix).isSome = true := fun ix => by unfold imO; rw [if_pos hr]; exact atK_any _ hn ix
  have h0 : ∀ im ix, im ≠ 1 → (imO size (csK (newP size) xs n) im ix).isSome = true := fun im ix hi => by
    unfold imO
    rw [if_pos hr, atF_none im ix _ _ fun c hc e => hi (by rw [← e.1]; exact (csK_ix hn hc).1)]
    rfl
  unfold rightP
  rw [h0 0 _ (by decide), h1, h0 2 _ (by decide), h0 3 _ (by decide), owned_K hn zs fun z h c hc => match_early (by have := (hz z h).2; have := (csK_ix hn hc).2.2; omega)]
  simp only [Bool.true_and]
  refine List.all_eq_true.2 fun r hr' => ?_
  rcases List.mem_append.1 hr' with h | h
  · have := ans_K1 hn hb [] (by rw [List.append_nil]; exact hr) (fun y h => absurd h (by simp)) h
    rwa [List.append_nil] at this
  · exact ans_open (hz r h).1
/-- With one commit more, and its record. -/
theorem right_K1 (hn : n ≤ xs.length) (hb : n ≤ 1000) {y : PC} {z : PR} (hy : 2 * (n : Int) + 2 ≤ y.ix) (hi : y.im = 1) (hd : z.done = false) (hf : 2 * (n : Int) ≤ z.fr) (hm : matchP z y = true) :
    rightP size (csK (newP size) xs n ++ [y]) (rsK (newP size) xs n ++ [z]) = decide ((doP (stK (newP size) xs n) y.e).2.2 = 0) := by
  have hr : risO 0 (csK (newP size) xs n ++ [y]) = true := ris_K1 hn hy
  have h0 : ∀ im ix, im ≠ 1 → (imO size (csK (newP size) xs n ++ [y]) im ix).isSome = true := fun im ix hi' => by
    unfold imO
    rw [if_pos hr, atF_none im ix _ _ fun c hc e => hi' (by
      rw [← e.1]
      rcases List.mem_append.1 hc with hc | hc
      · exact (csK_ix hn hc).1
      · obtain rfl := List.mem_singleton.1 hc; exact hi)]
    rfl
  have h1 : (imO size (csK (newP size) xs n ++ [y]) 1 (lastO 0 (csK (newP size) xs n ++ [y]))).isSome = decide ((doP (stK (newP size) xs n) y.e).2.2 = 0) := by
    unfold imO
    rw [if_pos hr, last_app]
    generalize hix : max (lastO 0 (csK (newP size) xs n)) y.ix = ix
    rw [atF_app, atF_K ix n hn n (Nat.le_refl _) fun j hj => ⟨fun _ => hj, fun _ => by omega⟩]
    show (if y.im = 1 ∧ y.ix ≤ ix then (if (doP (stK (newP size) xs n) y.e).2.2 = 0 then atF 1 ix [] (doP (stK (newP size) xs n) y.e).1 else none) else atF 1 ix [] (stK (newP size) xs n)).isSome = _
    rw [if_pos ⟨hi, by omega⟩]
    by_cases h : (doP (stK (newP size) xs n) y.e).2.2 = 0
    · rw [if_pos h, decide_eq_true h]; rfl
    · rw [if_neg h, decide_eq_false h]; rfl
  unfold rightP
  rw [h0 0 _ (by decide), h1, h0 2 _ (by decide), h0 3 _ (by decide), owned_K1 hn hy (fun c hc => match_early (by have := (csK_ix hn hc).2.2; omega)) hm]
  have ha : (rsK (newP size) xs n ++ [z]).all (answeredP size (csK (newP size) xs n ++ [y])) = true := List.all_eq_true.2 fun r hr' => by
    rcases List.mem_append.1 hr' with h | h
    · exact ans_K1 hn hb [y] hr (fun c h => by obtain rfl := List.mem_singleton.1 h; exact hy) h
    · obtain rfl := List.mem_singleton.1 h; exact ans_open hd
  rw [ha]
  simp
/-! ### spoilt -/
/-- Other answers. -/
theorem right_turned (hn : n ≤ xs.length) (hb : n ≤ 1000) {k : Nat} {x : PL} (hk : k < n) (hx : xs[k]? = some x) (hE : (recK k (stK (newP size) xs k) x).E = 0) (N : Int) (d : List UInt8)
    (h : (x.kind = 0 ∧ d ≠ (recK k (stK (newP size) xs k) x).rd) ∨ (x.kind ≠ 0 ∧ N ≠ (recK k (stK (newP size) xs k) x).N)) :
    rightP size (csK (newP size) xs n) ((rsK (newP size) xs n).set k { recK k (stK (newP size) xs k) x with N := N, rd := d }) = false := by
  refine right_no2 (List.mem_set (by rw [rsK_len n hn]; exact hk) _) ?_
  have e := ans_K (size := size) hn hb [] (by rw [List.append_nil]; exact ris_K hn) (fun y h => absurd h (by simp)) hk hx N d
  rw [List.append_nil] at e
  rw [e, hE]
  rcases h with ⟨h0, h1⟩ | ⟨h0, h1⟩
  · rw [if_pos h0]
    have : (recK k (stK (newP size) xs k) x).rd = readD (stK (newP size) xs k) x.off x.len x.snap := by unfold recK; rw [if_pos h0]
    rw [this] at h1
    simp [h1]
  · rw [if_neg h0]
    simp [h1]
theorem recK_mut {k : Nat} {m : PI} {x : PL} (h0 : x.kind ≠ 0) (hE : (recK k m x).E = 0) : okH k m x = true ∧ (recK k m x).rx = 2 * (k : Int) + 2 := by
  have e : (doP m (entH k x)).2.2 = 0 := by
    unfold recK at hE
    rw [if_neg h0] at hE
    exact hE
  have ho : okH k m x = true := by unfold okH; rw [decide_eq_true h0, decide_eq_true e]; rfl
  exact ⟨ho, by rw [recK_ok ho]⟩
/-- A commit left out. -/
theorem right_less (hn : n ≤ xs.length) {k : Nat} {x : PL} (hk : k < n) (hx : xs[k]? = some x) (h0 : x.kind ≠ 0) (hE : (recK k (stK (newP size) xs k) x).E = 0) {less : List PC} (hl : ∀ c ∈ less, c ∈ csK (newP size) xs n ∧ c.ix ≠ (recK k (stK (newP size) xs k) x).rx) :
    rightP size less (rsK (newP size) xs n) = false := by
  obtain ⟨ho, hrx⟩ := recK_mut h0 hE
  refine right_no2 (List.mem_of_getElem? (rsK_get n hn k x hk hx)) ?_
  unfold answeredP
  have hmu : mutP (recK k (stK (newP size) xs k) x).call = true := by rw [recK_ok ho]; exact ok_mut ho
  rw [if_neg (show ¬ ((recK k (stK (newP size) xs k) x).done = false ∨ (recK k (stK (newP size) xs k) x).E ≠ 0) by rw [(recK_done _ _ _).1, hE]; simp), if_pos hmu]
  unfold changedP
  rw [List.find?_eq_none.2 fun c hc hm => by
    obtain ⟨_, h2⟩ := hl c hc
    obtain ⟨_, _, _, h4⟩ := match_parts hm
    rw [(recK_done _ _ _).1] at h4
    rcases h4 with h4 | ⟨_, h4, _⟩
    · exact absurd h4 (by decide)
    · exact h2 h4.symm]
/-- A record left out. -/
theorem right_fewer (hn : n ≤ xs.length) {k : Nat} {x : PL} (hk : k < n) (hx : xs[k]? = some x) (h0 : x.kind ≠ 0) (hE : (recK k (stK (newP size) xs k) x).E = 0) :
    rightP size (csK (newP size) xs n) ((rsK (newP size) xs n).eraseIdx k) = false := by
  obtain ⟨ho, hrx⟩ := recK_mut h0 hE
  refine right_no1 (owned_none ((csK_mem n hn _).2 ⟨k, x, hk, hx, ho, rfl⟩) fun r hr => ?_)
  obtain ⟨i, hi, hri⟩ := List.mem_eraseIdx_iff_getElem?.1 hr
  have hin : i < n := by rw [← rsK_len (m := newP size) n hn]; exact (List.getElem?_eq_some_iff.1 hri).1
  obtain ⟨y, hy⟩ := some_at hn hin
  rw [rsK_get n hn i y hin hy] at hri
  obtain rfl := Option.some.inj hri
  cases hm : matchP (recK i (stK (newP size) xs i) y) (comK k x) with
  | false => rfl
  | true => exact absurd (match_K hm).1 hi
end
end Go.Proofs.YthkeoimjjgmppaaDoor

/- The past: rows of commits and of records of the call's own: appends, stores; a store into the middle of a variable. -/
namespace Go.Proofs.YthkeoimjjgmppaaDoor
open Go.RowKit
set_option linter.unusedVariables false
set_option maxRecDepth 100000

theorem infoCm9 : (Tryd.prog.info? 50).map (fun i => (i.zero, i.size, i.bytes)) = some (some (.agg #[.int .i64 0, .int .i64 0, .int .i64 0, .int .i64 0, .int .i64 0, .int .i64 0, .int .i64 0, .int .i64 0, .slice none 0 0]), 9, 88) := by kernel_rfl
theorem infoRc14 : (Tryd.prog.info? 44).map (fun i => (i.zero, i.size, i.bytes)) = some (some (.agg #[.int .i64 0, .int .i64 0, .int .i64 0, .int .i64 0, .int .i64 0, .int .i64 0, .slice none 0 0, .int .i64 0, .int .i64 0, .bool false, .int .i64 0, .slice none 0 0, .int .i64 0, .int .i64 0]), 14, 144) := by kernel_rfl
def OwnCm (w : World) (base : Nat) (v : Value) (L : List CmV) : Prop := OwnC 50 9 cmC w base v L
def OwnRc (w : World) (base : Nat) (v : Value) (L : List RcV) : Prop := OwnC 44 14 rcC w base v L
section
variable {α : Type} {C : α → List Value} {k : Nat} {T : TypeId}
theorem OwnC.lt {w : World} {base : Nat} {v : Value} {L : List α} (h : OwnC T k C w base v L) : ∀ b, v.ownBlock = some b → base ≤ b ∧ b < w.heap.size := fun b hb => World.ownsRow.lt h b hb
theorem rd_newC {w : World} (s : α) (hl : (C s).length = k) : Rd (w.alloc (.cells (C s).toArray T)) (· = w.heap.size) k (some ⟨w.heap.size, 0, none⟩) 1 (flC C [s]) := by
  rw [flC_single]
  refine ⟨by rw [hl, Nat.one_mul], fun _ => ⟨_, rfl, rfl, fun j u hu => ?_⟩⟩
  rw [add_head, (Blk.new w T (C s).toArray).cell]
  simpa using hu
/-- What a literal of one, appended, leaves. -/
structure App1 (T : TypeId) (k : Nat) (C : α → List Value) (w : World) (base : Nat) (v v' : Value) (L : List α) (w' : World) : Prop where
  own : OwnC T k C w' base v' L
  mod : Mod (fun b => v.ownBlock = some b) w w'
  lies : v'.ownBlock = v.ownBlock ∨ ∀ b, v'.ownBlock = some b → w.heap.size ≤ b
theorem run_app1 (hk : ∀ x, (C x).length = k) (h1 : ∀ x, ∀ v ∈ C x, v.oneCell' = true) (hk0 : 0 < k) (t ty : TypeId) (z : Value) (bytes : Nat) (ht : Tryd.prog.underlying t = some (.slice T)) (hinfo : (Tryd.prog.info? T).map (fun i => (i.zero, i.size, i.bytes)) = some (some z, k, bytes)) (hz : z.cells.size = k) (hby : bytes ≤ 1000)
    (w : World) (base : Nat) (v : Value) (L : List α) (h : OwnC T k C w base v L) (s : α) (hlen : L.length ≤ 1000000) (hbase : base ≤ w.heap.size) :
    ∃ v' w', (Builtin.append_ #[t, t] ty #[v, .slice (some ⟨w.heap.size, 0, none⟩) 1 1]).run Tryd.prog (w.alloc (.cells (C s).toArray T)) = .ok v' w' ∧ App1 T k C w base v v' (L ++ [s]) w' := by
  have bn := below_new w (.cells (C s).toArray T)
  have hb := h.below bn
  obtain ⟨v', w', h1, h2, h3, h4⟩ := run_app (w.alloc (.cells (C s).toArray T)) base t ty T z k bytes ht hinfo hz hk0 v _ _ hb _ _ 1 1 _ (rd_newC s (hk s)) (flC_one h1 [s]) (by unfold maxLen; omega) (by have : (L.length + 1) * bytes ≤ 1000001 * 1000 := Nat.mul_le_mul (by omega) hby; omega) (Nat.le_trans hbase bn.size)
  have hm : Mod (fun b => v.ownBlock = some b) w w' := (Mod.of_below bn _).then_ (Mod.of_grown h3 fun k hk => .inl hk) fun i hi hx => hx
  refine ⟨v', w', h1, ⟨?_, hm, h4.imp id fun e b hb => ?_⟩⟩
  · unfold OwnC
    rw [List.length_append, flC_app]
    exact h2
  · rw [e] at hb
    obtain rfl := Option.some.inj hb
    exact bn.size
theorem exec_app1 {ρ : Operand → Value} {o : Oper} {s x : Operand} {t : TypeId} {w w' : World} {v u v' : Value} (ho : o.op = .call { callee := .builtin .append, args := #[s, x], argTypes := #[t, t] }) (hs : ρ s = v) (hx : ρ x = u)
    (hrun : (Builtin.append_ #[t, t] o.type #[v, u]).run Tryd.prog w = .ok v' w') : (execOp ρ o).run Tryd.prog w = .ok (.value v') w' := by
  unfold execOp
  simp only [ho, resolve, invoke, builtin, Sem.run_bind, Sem.run_pure, Result.andThen_ok, List.map_toArray, List.map_cons, List.map_nil, hs, hx, hrun]
end
section
variable {w : World} {ops : Array Oper} {rest : List Oper} {o : Oper} {a : Act} {Q : Exit → Act → World → Prop}
/-- At the walk: a literal of one record that was laid just now. -/
theorem wpList_app1 {α : Type} {C : α → List Value} {k : Nat} {T : TypeId} (hgd : o.guard = none) (s x : Operand) (t : TypeId) (ho : o.op = .call { callee := .builtin .append, args := #[s, x], argTypes := #[t, t] })
    (hk : ∀ x, (C x).length = k) (h1 : ∀ x, ∀ v ∈ C x, v.oneCell' = true) (hk0 : 0 < k) (z : Value) (bytes : Nat) (ht : Tryd.prog.underlying t = some (.slice T)) (hinfo : (Tryd.prog.info? T).map (fun i => (i.zero, i.size, i.bytes)) = some (some z, k, bytes)) (hz : z.cells.size = k) (hby : bytes ≤ 1000)
    (w0 : World) (base : Nat) (v : Value) (L : List α) (e : α) (hs : a.eval s = v) (hx : a.eval x = .slice (some ⟨w0.heap.size, 0, none⟩) 1 1) (hw : w = w0.alloc (.cells (C e).toArray T)) (h : OwnC T k C w0 base v L) (hlen : L.length ≤ 1000000) (hbase : base ≤ w0.heap.size)
    (hgo : ∀ v' w', App1 T k C w0 base v v' (L ++ [e]) w' → wpList Tryd.prog ops Q rest (a.put o.dst v') w') : wpList Tryd.prog ops Q (o :: rest) a w := by
  subst hw
  refine wpList_plain hgd fun _ hK => ?_
  obtain ⟨v', w', hrun, r⟩ := run_app1 hk h1 hk0 t o.type z bytes ht hinfo hz hby w0 base v L h e hlen hbase
  unfold Oper.wp execOp
  simp only [ho, resolve, invoke, builtin, Sem.run_bind, Sem.run_pure, Result.andThen_ok, List.map_toArray, List.map_cons, List.map_nil, hs, hx, hrun]
  exact hK _ _ (hgo v' w' r)
end
/-! ### a store into the middle of a block -/
theorem there_blk {w : World} {g : Nat} {T : TypeId} {cs : Array Value} (h : Blk w g T cs) {o n : Nat} (hn : o + n ≤ cs.size) : w.there g o n := fun j hj => by
  refine ⟨?_, h.frozen _⟩
  rw [h.cell, Array.getElem?_eq_getElem (by omega)]
  rfl
/-- The cells behind a store of many. -/
def putA : Array Value → Nat → List Value → Array Value
  | cs, _, [] => cs
  | cs, o, v :: r => putA (cs.setIfInBounds o v) (o + 1) r
theorem putA_size : ∀ (vs : List Value) (cs : Array Value) (o : Nat), (putA cs o vs).size = cs.size
  | [], _, _ => rfl
  | v :: r, cs, o => by rw [putA, putA_size r, Array.size_setIfInBounds]
theorem putA_list : ∀ (vs : List Value) (cs : Array Value) (o : Nat), o + vs.length ≤ cs.size → (putA cs o vs).toList = cs.toList.take o ++ vs ++ cs.toList.drop (o + vs.length)
  | [], cs, o, _ => by rw [putA, List.append_nil, List.length_nil, Nat.add_zero, List.take_append_drop]
  | v :: r, cs, o, h => by
    rw [List.length_cons] at h
    rw [putA, putA_list r _ _ (by rw [Array.size_setIfInBounds]; omega), Array.toList_setIfInBounds]
    have hl : o < cs.toList.length := by rw [Array.length_toList]; omega
    rw [List.take_set, List.take_succ_eq_append_getElem hl, List.set_append_right _ _ (by rw [List.length_take]; omega), List.length_take, Nat.min_eq_left (by omega), Nat.sub_self, List.set_cons_zero, List.drop_set_of_lt (by omega), List.length_cons]
    simp only [List.append_assoc, List.cons_append, List.nil_append]
    rw [show o + 1 + r.length = o + (r.length + 1) by omega]
theorem blk_setCells {g : Nat} {T : TypeId} : ∀ (vs : List Value) (w : World) (cs : Array Value) (o : Nat), Blk w g T cs → Blk (w.setCells g o vs) g T (putA cs o vs) ∧ Mod (· = g) w (w.setCells g o vs)
  | [], w, cs, o, h => ⟨h, Mod.refl _ _⟩
  | v :: r, w, cs, o, h => by
    obtain ⟨h1, h2⟩ := blk_setCells r _ _ (o + 1) (h.set_ o v)
    exact ⟨h1, ((Mod.refl (· = g) w).setG o v).trans h2⟩
section
variable {w : World} {ops : Array Oper} {rest : List Oper} {o : Oper} {a : Act} {Q : Exit → Act → World → Prop}
theorem wpList_partB (hgd : o.guard = none) (ty : TypeId) (x y : Operand) (ho : o.op = .store ty x y)
    (g i : Nat) (T : TypeId) (cs cells : Array Value) (hx : a.eval x = .pointer (some ⟨g, i, none⟩)) (hy : a.eval y = .agg cells)
    (hB : Blk w g T cs) (hi : (Tryd.prog.info? ty).map (·.size) = some cells.size) (hn : i + cells.size ≤ cs.size) (h1 : cells.all (·.oneCell') = true)
    (h : ∀ w', Blk w' g T (putA cs i cells.toList) → Mod (· = g) w w' → wpList Tryd.prog ops Q rest (a.put o.dst undef) w') : wpList Tryd.prog ops Q (o :: rest) a w :=
  wpList_store_mid hgd ty x y ho g i cells hx hy (there_blk hB hn) hi h1 (by
    obtain ⟨h2, h3⟩ := blk_setCells cells.toList w cs i hB
    exact h _ h2 h3)
end
/-! ### a store into a row of one's own -/
section
variable {α : Type} {C : α → List Value} {k : Nat} {T : TypeId}
theorem flC_set (hk : ∀ x, (C x).length = k) : ∀ (L : List α) (i : Nat) (hi : i < L.length) (s : α), flC C (L.set i s) = (flC C L).take (i * k) ++ C s ++ (flC C L).drop (i * k + k)
  | x :: L, 0, _, s => by
    unfold flC
    rw [List.set_cons_zero, List.flatMap_cons, List.flatMap_cons, Nat.zero_mul, List.take_zero, List.nil_append, Nat.zero_add, List.drop_append, hk x]
    simp [List.drop_of_length_le, hk]
  | x :: L, i + 1, hi, s => by
    have ih := flC_set hk L i (by simpa using hi) s
    have e : ∀ L' : List α, flC C (x :: L') = C x ++ flC C L' := fun L' => by unfold flC; rw [List.flatMap_cons]
    have hl := hk x
    have e1 : List.take (i * k + k) (C x) = C x := List.take_of_length_le (by omega)
    have e2 : List.drop (i * k + k + k) (C x) = [] := List.drop_of_length_le (by omega)
    rw [List.set_cons_succ, e, e, ih, Nat.succ_mul, List.take_append, List.drop_append, hl, e1, e2, show i * k + k - k = i * k by omega, show i * k + k + k - k = i * k + k by omega]
    simp only [List.append_assoc, List.nil_append]
/-- Cells of an element are stored. -/
theorem OwnC.upd (hk : ∀ x, (C x).length = k) {w : World} {base n c : Nat} {A : Option Addr} {L : List α} (h : OwnC T k C w base (.slice A n c) L) {i : Nat} (hi : i < L.length) (j : Nat) (vs : List Value) (s : α) (hj : j + vs.length ≤ k) (hs : C s = (C L[i]).take j ++ vs ++ (C L[i]).drop (j + vs.length)) :
    ∃ g, A = some ⟨g, 0, none⟩ ∧ base ≤ g ∧ w.there g (i * k + j) vs.length ∧ OwnC T k C (w.setCells g (i * k + j) vs) base (.slice A n c) (L.set i s) ∧ Mod (· = g) w (w.setCells g (i * k + j) vs) := by
  have hl := flC_len hk L
  rcases h.2 with ⟨_, h0⟩ | ⟨g, cap, cur, hv, hg, hh, hnc, hcm, hcs, htake⟩
  · omega
  · have hB : Blk w g T cur := hh
    injection hv with hA hn hc
    subst hA hn hc
    have hik : i * k + k ≤ L.length * k := by rw [← Nat.succ_mul]; exact Nat.mul_le_mul_right k hi
    have hcap : L.length * k ≤ c * k := Nat.mul_le_mul_right k hnc
    obtain ⟨h2, h3⟩ := blk_setCells vs w cur (i * k + j) hB
    refine ⟨g, rfl, hg, there_blk hB (by omega), ⟨by rw [flC_len hk], .inr ⟨g, c, _, by rw [List.length_set], hg, h2, by rw [List.length_set]; exact hnc, hcm, by rw [putA_size]; exact hcs, ?_⟩⟩, h3⟩
    rw [putA_list _ _ _ (by omega), List.length_set, flC_set hk L i hi, hs, ← htake]
    have hC : C L[i] = (cur.toList.drop (i * k)).take k := by
      refine List.ext_getElem? fun q => ?_
      by_cases hq : q < k
      · have h4 := flC_at hk L i L[i] (List.getElem?_eq_getElem hi) q _ (List.getElem?_eq_getElem (by rw [hk]; exact hq))
        rw [← htake, List.getElem?_take, if_pos (by omega)] at h4
        rw [List.getElem?_eq_getElem (by rw [hk]; exact hq), List.getElem?_take, if_pos hq, List.getElem?_drop, h4]
      · rw [List.getElem?_eq_none (by rw [hk]; omega), List.getElem?_eq_none (by rw [List.length_take]; omega)]
    rw [hC]
    have hcl : cur.toList.length = c * k := by rw [Array.length_toList]; exact hcs
    generalize cur.toList = l at *
    refine List.ext_getElem? fun q => ?_
    simp only [List.getElem?_append, List.length_append, List.getElem?_take, List.getElem?_drop, List.length_take, List.length_drop]
    have e1 : min (i * k + j) l.length = i * k + j := by omega
    have e2 : min (i * k) (min (L.length * k) l.length) = i * k := by omega
    have e3 : min j (min k (l.length - i * k)) = j := by omega
    simp only [e1, e2, e3]
    repeat' split
    all_goals first
      | rfl
      | (exfalso; omega)
      | (congr 1; omega)
end
end Go.Proofs.YthkeoimjjgmppaaDoor

/- The past: what an image that is meant answers, call by call: the walk of honest. -/
namespace Go.Proofs.YthkeoimjjgmppaaDoor
open Go.RowKit
set_option linter.unusedVariables false
set_option maxRecDepth 100000

theorem modOf {B : Nat} {a b : World} (h : Below B a b) : Mod (fun i => B ≤ i) a b := ⟨h.os, h.tape, h.output, h.size, fun i hi hx => h.block i (by omega)⟩
/-- Beside a variable and two rows. -/
def Off3 (g : Nat) (vc vr : Value) (b : Nat) : Prop := b ≠ g ∧ vc.ownBlock ≠ some b ∧ vr.ownBlock ≠ some b
/-- Rows of commits and of records of the call's own, apart; what they hold lies elsewhere. -/
structure Hon (w : World) (base g : Nat) (vc vr : Value) (L : List CmV) (R : List RcV) : Prop where
  oc : OwnCm w base vc L
  ow : OwnRc w base vr R
  apt : ∀ b, vc.ownBlock = some b → vr.ownBlock ≠ some b
  al : ∀ s ∈ L, CmR w (Off3 g vc vr) s
  ar : ∀ s ∈ R, RcR w (Off3 g vc vr) s
section
variable {w w' : World} {base g : Nat} {vc vr : Value} {L : List CmV} {R : List RcV}
theorem RcR.imp {D D' : Nat → Prop} {s : RcV} (h : RcR w D s) (hd : ∀ b, b < w.heap.size → D b → D' b) : RcR w D' s := ⟨RdC.imp h.1 hd, RdC.imp h.2 hd⟩
theorem RcR.mod {X D : Nat → Prop} {s : RcV} (h : RcR w D s) (m : Mod X w w') (hd : ∀ b, D b → ¬ X b) : RcR w' D s := ⟨RdC.mod h.1 m hd, RdC.mod h.2 m hd⟩
theorem RcR.below {D : Nat → Prop} {s : RcV} (h : RcR w D s) (b : Below w.heap.size w w') : RcR w' D s := ⟨h.1.below b, h.2.below b⟩
theorem Hon.below (h : Hon w base g vc vr L R) (b : Below w.heap.size w w') : Hon w' base g vc vr L R := ⟨OwnC.below h.oc b, OwnC.below h.ow b, h.apt, fun s hs => RdC.below (h.al s hs) b, fun s hs => (h.ar s hs).below b⟩
theorem Hon.low {base' : Nat} (h : Hon w base g vc vr L R) (b : base' ≤ base) : Hon w base' g vc vr L R := ⟨OwnC.low h.oc b, OwnC.low h.ow b, h.apt, h.al, h.ar⟩
theorem Hon.mod {X : Nat → Prop} (h : Hon w base g vc vr L R) (m : Mod X w w') (hx : ∀ b, b < w.heap.size → X b → b = g ∧ b < base) : Hon w' base g vc vr L R :=
  ⟨OwnC.mod h.oc m fun j hj hX => by have h1 := OwnC.lt h.oc j hj; have := (hx j h1.2 hX).2; omega, OwnC.mod h.ow m fun j hj hX => by have h1 := OwnC.lt h.ow j hj; have := (hx j h1.2 hX).2; omega, h.apt,
    fun s hs => (RdC.mod (RdC.imp (D' := fun b => Off3 g vc vr b ∧ b < w.heap.size) (h.al s hs) fun b hb h => ⟨h, hb⟩) m fun b hb hX => hb.1.1 (hx b hb.2 hX).1).imp fun b _ hb => hb.1,
    fun s hs => (((h.ar s hs).imp (D' := fun b => Off3 g vc vr b ∧ b < w.heap.size) fun b hb h => ⟨h, hb⟩).mod m fun b hb hX => hb.1.1 (hx b hb.2 hX).1).imp fun b _ hb => hb.1⟩
theorem off_addR {vr' : Value} {R' : List RcV} (a : App1 44 14 rcC w base vr vr' R' w') : ∀ b, b < w.heap.size → Off3 g vc vr b → Off3 g vc vr' b := fun b hb h => ⟨h.1, h.2.1, by
  rcases a.lies with e | e
  · rw [e]; exact h.2.2
  · intro he; have := e b he; omega⟩
theorem off_addL {vc' : Value} {L' : List CmV} (a : App1 50 9 cmC w base vc vc' L' w') : ∀ b, b < w.heap.size → Off3 g vc vr b → Off3 g vc' vr b := fun b hb h => ⟨h.1, by
  rcases a.lies with e | e
  · rw [e]; exact h.2.1
  · intro he; have := e b he; omega, h.2.2⟩
theorem Hon.addR {vr' : Value} {r : RcV} (h : Hon w base g vc vr L R) (hr : RcR w (Off3 g vc vr) r) (a : App1 44 14 rcC w base vr vr' (R ++ [r]) w') : Hon w' base g vc vr' L (R ++ [r]) := by
  have hx : ∀ b, Off3 g vc vr b → ¬ vr.ownBlock = some b := fun b hb => hb.2.2
  refine ⟨OwnC.mod h.oc a.mod fun j hj e => h.apt j hj e, a.own, fun b hb => ?_, fun s hs => RdC.mod (RdC.imp (D' := fun b => Off3 g vc vr b ∧ Off3 g vc vr' b) (h.al s hs) fun b hb h => ⟨h, off_addR a b hb h⟩) a.mod (fun b hb => hx b hb.1) |>.imp fun b _ hb => hb.2, fun s hs => ?_⟩
  · rcases a.lies with e | e
    · rw [e]; exact h.apt b hb
    · intro he; have := e b he; have := (OwnC.lt h.oc b hb).2; omega
  · have hs' : RcR w (Off3 g vc vr) s := by
      rcases List.mem_append.1 hs with hs | hs
      · exact h.ar s hs
      · obtain rfl := List.mem_singleton.1 hs; exact hr
    exact ((hs'.imp (D' := fun b => Off3 g vc vr b ∧ Off3 g vc vr' b) fun b hb h => ⟨h, off_addR a b hb h⟩).mod a.mod fun b hb => hx b hb.1).imp fun b _ hb => hb.2
theorem Hon.addL {vc' : Value} {r : CmV} (h : Hon w base g vc vr L R) (hr : CmR w (Off3 g vc vr) r) (a : App1 50 9 cmC w base vc vc' (L ++ [r]) w') : Hon w' base g vc' vr (L ++ [r]) R := by
  have hx : ∀ b, Off3 g vc vr b → ¬ vc.ownBlock = some b := fun b hb => hb.2.1
  refine ⟨a.own, OwnC.mod h.ow a.mod fun j hj e => h.apt j e hj, fun b hb => ?_, fun s hs => ?_, fun s hs => ((h.ar s hs).imp (D' := fun b => Off3 g vc vr b ∧ Off3 g vc' vr b) (fun b hb h => ⟨h, off_addL a b hb h⟩) |>.mod a.mod fun b hb => hx b hb.1).imp fun b _ hb => hb.2⟩
  · rcases a.lies with e | e
    · rw [e] at hb; exact h.apt b hb
    · intro he; have := e b hb; have := (OwnC.lt h.ow b he).2; omega
  · have hs' : CmR w (Off3 g vc vr) s := by
      rcases List.mem_append.1 hs with hs | hs
      · exact h.al s hs
      · obtain rfl := List.mem_singleton.1 hs; exact hr
    exact (RdC.mod (RdC.imp (D' := fun b => Off3 g vc vr b ∧ Off3 g vc' vr b) hs' fun b hb h => ⟨h, off_addL a b hb h⟩) a.mod fun b hb => hx b hb.1).imp fun b _ hb => hb.2
theorem ImR.addR {vr' : Value} {R' : List RcV} {i : ImV} (h : ImR w (Off3 g vc vr) i) (a : App1 44 14 rcC w base vr vr' R' w') : ImR w' (Off3 g vc vr') i :=
  ((h.imp (D' := fun b => Off3 g vc vr b ∧ Off3 g vc vr' b) fun b hb h => ⟨h, off_addR a b hb h⟩).mod a.mod fun b hb => hb.1.2.2).imp fun b _ hb => hb.2
theorem ImR.addL {vc' : Value} {L' : List CmV} {i : ImV} (h : ImR w (Off3 g vc vr) i) (a : App1 50 9 cmC w base vc vc' L' w') : ImR w' (Off3 g vc' vr) i :=
  ((h.imp (D' := fun b => Off3 g vc vr b ∧ Off3 g vc' vr b) fun b hb h => ⟨h, off_addL a b hb h⟩).mod a.mod fun b hb => hb.1.2.1).imp fun b _ hb => hb.2
theorem RcR.addL {vc' : Value} {L' : List CmV} {i : RcV} (h : RcR w (Off3 g vc vr) i) (a : App1 50 9 cmC w base vc vc' L' w') : RcR w' (Off3 g vc' vr) i :=
  ((h.imp (D' := fun b => Off3 g vc vr b ∧ Off3 g vc' vr b) fun b hb h => ⟨h, off_addL a b hb h⟩).mod a.mod fun b hb => hb.1.2.1).imp fun b _ hb => hb.2
end
theorem CasR.at2 {w : World} {D : Nat → Prop} {A : Option Addr} {c : Nat} {L : List CaV} (h : CasR w D A c L) {i : Nat} (hi : i < L.length) :
    ∃ ad, A = some ad ∧ w.cell? (ad.add (i * 6)) = some (.int .i64 L[i].x.image) ∧ w.cell? ⟨(ad.add (i * 6)).block, (ad.add (i * 6)).off + 1, none⟩ = some (.int .i64 L[i].x.kind) ∧ w.cell? ⟨(ad.add (i * 6)).block, (ad.add (i * 6)).off + 2, none⟩ = some (.int .i64 L[i].x.off) ∧ w.cell? ⟨(ad.add (i * 6)).block, (ad.add (i * 6)).off + 3, none⟩ = some (.int .i64 L[i].x.len) ∧ w.cell? ⟨(ad.add (i * 6)).block, (ad.add (i * 6)).off + 4, none⟩ = some (.int .i64 L[i].x.snap) ∧ w.cell? ⟨(ad.add (i * 6)).block, (ad.add (i * 6)).off + 5, none⟩ = some (.slice L[i].A L[i].x.data.length L[i].c) := by
  obtain ⟨ad, e, _, h0, h1⟩ := h.rd.cells hi
  exact ⟨ad, e, h0 _ rfl, h1 0 _ rfl, h1 1 _ rfl, h1 2 _ rfl, h1 3 _ rfl, h1 4 _ rfl⟩
theorem infoRe4 : (Tryd.prog.info? 42).map (·.size) = some 4 := by kernel_rfl
theorem rc_ok (r : RcV) : (rcC r).toArray.all (·.oneCell') = true := all_oneCell_toArray (rcC_one r)
theorem prs_app (R : List RcV) (r : RcV) : prs (R ++ [r]) = prs R ++ [r.p] := by unfold prs; rw [List.map_append]; rfl
theorem pcs_app (L : List CmV) (r : CmV) : pcs (L ++ [r]) = pcs L ++ [r.p] := by unfold pcs; rw [List.map_append]; rfl
theorem csK_len {m : PI} {xs : List PL} : ∀ n, (csK m xs n).length ≤ n
  | 0 => Nat.le_refl _
  | n + 1 => by
    have := csK_len (m := m) (xs := xs) n
    cases h : xs[n]? with
    | none => rw [show csK m xs (n + 1) = csK m xs n by show (match xs[n]? with | none => _ | some x => _) = _; rw [h]]; omega
    | some x =>
      rw [csK_at h, List.length_append]
      split
      · rw [List.length_singleton]; omega
      · rw [List.length_nil]; omega
set_option maxHeartbeats 8000000 in
theorem honest_any (size : Int) (A : Option Addr) (c : Nat) (X : List CaV) (w : World) (h : CasR w (Old w) A c X) (hn : X.length ≤ 15) :
    Calls Tryd.prog 10 #[.int .i64 size, .slice A X.length c] w fun e w' => ∃ (g : Nat) (vc vr : Value) (L : List CmV) (R : List RcV), e = .returned (.tuple #[vc, vr]) ∧ Hon w' w.heap.size g vc vr L R ∧ pcs L = csK (newP size) (X.map CaV.x) X.length ∧ prs R = rsK (newP size) (X.map CaV.x) X.length ∧ Below w.heap.size w w' := by
  have hc := h.cap
  have hm := h.max
  have hnew := rNew18_any size w
  go_enter Tryd.func10, Tryd.ntmps10
  go_wp2_with fail
  refine hnew.mono ?_
  clear hnew
  rintro e w1 ⟨i0, rfl, hp0, oI, b1⟩
  have rI : ImR w1 (fun b => b < w1.heap.size) i0 := (oI.rd).imp fun b hb _ => hb
  have HP0 := Lib.hid hp0
  clear oI hp0
  go_wp2_with first
    | (with_reducible show wpList _ _ _ _ _ _
       refine wpList_rowB rfl 35 (.tmp 6) (.tmp 20) rfl w1.heap.size 35 _ (imA i0) rfl rfl (Blk.new w1 35 #[.slice none 0 0, .slice none 0 0, .int .i64 0]) infoIm rfl (imA_ok _) ?_
       intro w2 hM mm
       have nn := im_new mm
       have rI := rI.below nn
       have bb := b1.thenB' nn
       have hwg := b1.size
       clear nn mm b1)
  generalize w1.heap.size = g6 at *
  have rI : ImR w2 (Off3 g6 (.slice none 0 0) (.slice none 0 0)) i0 := rI.imp fun b _ h => ⟨by omega, by simp [Value.ownBlock], by simp [Value.ownBlock]⟩
  go_loopw [7, 8, 9] (fun s7 s8 s9 wr => ∃ (j : Nat) (i : ImV) (vc vr : Value) (L : List CmV) (R : List RcV), vc = s7 ∧ vr = s8 ∧ s9 = .int .i64 (j : Int) ∧ j ≤ X.length ∧ Blk wr g6 35 (imA i) ∧ Hid (i.p = stK (newP size) (X.map CaV.x) j) ∧ ImR wr (Off3 g6 vc vr) i ∧ Hon wr (g6 + 1) g6 vc vr L R ∧ Hid (pcs L = csK (newP size) (X.map CaV.x) j) ∧ Hid (prs R = rsK (newP size) (X.map CaV.x) j) ∧ Below w.heap.size w wr) (fun _ _ s9 _ => X.length - (intOf s9).toNat)
  case atStart => exact ⟨0, i0, _, _, [], [], rfl, rfl, rfl, Nat.zero_le _, hM, Lib.hid HP0.out, rI, ⟨OwnC.nil, OwnC.nil, fun b hb => by simp [Value.ownBlock] at hb, fun s hs => absurd hs (by simp), fun s hs => absurd hs (by simp)⟩, Lib.hid rfl, Lib.hid rfl, bb⟩
  case round =>
    clear hM rI bb HP0
    obtain ⟨j, i, vc, vr, L, R, rfl, rfl, rfl, hj, hM, HI, rI, hH, HL, HR, bb⟩ := hrel
    by_cases hlt : j < X.length
    · have hgM := hM.lt
      have hX := h.below bb
      obtain ⟨ad, hA, c0, c1, c2, c3, c4, c5⟩ := hX.at2 hlt
      subst hA
      have hd := hX.all _ (List.getElem_mem hlt)
      have hxs : (X.map CaV.x)[j]? = some X[j].x := by rw [List.getElem?_map, List.getElem?_eq_getElem hlt]; rfl
      obtain ⟨s, hs⟩ : ∃ s, X[j] = s := ⟨_, rfl⟩
      rw [hs] at c0 c1 c2 c3 c4 c5 hd hxs
      have HXS := Lib.hid hxs
      clear hs hxs hX
      go_upto_if 45 with fail
      have e1 : (wr.alloc (.cells #[.int .i64 1, .int .i64 s.x.kind, .int .i64 s.x.off, .int .i64 s.x.len, .int .i64 s.x.snap, .slice s.A s.x.data.length s.c] 25)).heap.size = wr.heap.size + 1 := Array.size_push ..
      have bn1 := below_new wr (.cells #[.int .i64 1, .int .i64 s.x.kind, .int .i64 s.x.off, .int .i64 s.x.len, .int .i64 s.x.snap, .slice s.A s.x.data.length s.c] 25)
      have bn2 := below_new (wr.alloc (.cells #[.int .i64 1, .int .i64 s.x.kind, .int .i64 s.x.off, .int .i64 s.x.len, .int .i64 s.x.snap, .slice s.A s.x.data.length s.c] 25)) (.cells #[.int .i64 3, .int .i64 1, .int .i64 s.x.kind, .int .i64 s.x.off, .int .i64 s.x.len, .int .i64 s.x.snap, .slice s.A s.x.data.length s.c, .int .i64 (2 * (j : Int) + 1), .int .i64 (2 * (j : Int) + 3), .bool true, .int .i64 0, .slice none 0 0, .int .i64 0, .int .i64 0] 44)
      have hX4 := (Blk.new wr 25 #[.int .i64 1, .int .i64 s.x.kind, .int .i64 s.x.off, .int .i64 s.x.len, .int .i64 s.x.snap, .slice s.A s.x.data.length s.c]).below bn2
      have hO := Blk.new (wr.alloc (.cells #[.int .i64 1, .int .i64 s.x.kind, .int .i64 s.x.off, .int .i64 s.x.len, .int .i64 s.x.snap, .slice s.A s.x.data.length s.c] 25)) 44 #[.int .i64 3, .int .i64 1, .int .i64 s.x.kind, .int .i64 s.x.off, .int .i64 s.x.len, .int .i64 s.x.snap, .slice s.A s.x.data.length s.c, .int .i64 (2 * (j : Int) + 1), .int .i64 (2 * (j : Int) + 3), .bool true, .int .i64 0, .slice none 0 0, .int .i64 0, .int .i64 0]
      have n4 := bn1.thenB' bn2
      rw [e1] at hO
      generalize hw4 : (wr.alloc (.cells #[.int .i64 1, .int .i64 s.x.kind, .int .i64 s.x.off, .int .i64 s.x.len, .int .i64 s.x.snap, .slice s.A s.x.data.length s.c] 25)).alloc (.cells #[.int .i64 3, .int .i64 1, .int .i64 s.x.kind, .int .i64 s.x.off, .int .i64 s.x.len, .int .i64 s.x.snap, .slice s.A s.x.data.length s.c, .int .i64 (2 * (j : Int) + 1), .int .i64 (2 * (j : Int) + 3), .bool true, .int .i64 0, .slice none 0 0, .int .i64 0, .int .i64 0] 44) = w4 at *
      have hO : Blk w4 (wr.heap.size + 1) 44 (rcC (⟨3, callH s.x, s.A, s.c, 2 * (j : Int) + 1, 2 * (j : Int) + 3, true, 0, none, [], 0, 0, 0⟩ : RcV)).toArray := hO
      have l1 : w4.cell? ⟨wr.heap.size, 1, none⟩ = some (.int .i64 s.x.kind) := (hX4.cell 1).trans rfl
      have l2 : w4.cell? ⟨wr.heap.size, 2, none⟩ = some (.int .i64 s.x.off) := (hX4.cell 2).trans rfl
      have l3 : w4.cell? ⟨wr.heap.size, 3, none⟩ = some (.int .i64 s.x.len) := (hX4.cell 3).trans rfl
      have l4 : w4.cell? ⟨wr.heap.size, 4, none⟩ = some (.int .i64 s.x.snap) := (hX4.cell 4).trans rfl
      have l5 : w4.cell? ⟨wr.heap.size, 5, none⟩ = some (.slice s.A s.x.data.length s.c) := (hX4.cell 5).trans rfl
      have hgx := hX4.lt
      have hgO := hO.lt
      have hM4 := hM.below n4
      have hd4 := hd.below n4
      have r0 : RdC wr (Off3 g6 vc vr) s.A s.x.data s.c := hd.imp fun b hb h => ⟨by have : b < w.heap.size := h; omega, fun e => by have := (OwnC.lt hH.oc b e).1; have : b < w.heap.size := h; omega, fun e => by have := (OwnC.lt hH.ow b e).1; have : b < w.heap.size := h; omega⟩
      have rI0 : ImR wr (fun b => Off3 g6 vc vr b ∧ b < wr.heap.size) i := rI.imp fun b hb h => ⟨h, hb⟩
      have rI4 := rI0.below n4
      have hvr : ∀ b, vr.ownBlock = some b → b < wr.heap.size := fun b hb => (OwnC.lt hH.ow b hb).2
      have hvc : ∀ b, vc.ownBlock = some b → b < wr.heap.size := fun b hb => (OwnC.lt hH.oc b hb).2
      have hlL : L.length ≤ 1000000 := by rw [← pcs_len, HL.out]; have := csK_len (m := newP size) (xs := X.map CaV.x) j; omega
      have hlR : R.length ≤ 1000000 := by rw [← prs_len, HR.out, rsK_len _ (by rw [List.length_map]; exact hj)]; omega
      clear c0 c1 c2 c3 c4 c5 h e1 bn1 bn2 hw4 hd
      obtain ⟨g10, hg10⟩ : ∃ g, wr.heap.size = g := ⟨_, rfl⟩
      rw [hg10] at n4 hO hX4 l1 l2 l3 l4 l5 hgx hgO hvr hvc rI4 rI0 hgM
      rw [hg10]
      have HG : Hid (wr.heap.size = g10) := Lib.hid hg10
      clear hg10
      go_cut [7, 13, 14, 15, 16, 17, 18] from 21 to 97 (fun s7 _ _ _ _ _ _ wx => ∃ (vc' : Value) (L' : List CmV) (i' : ImV) (r : RcV), vc' = s7 ∧ Blk wx (g10 + 1) 44 (rcC r).toArray ∧ Blk wx g6 35 (imA i') ∧ Hid (i'.p = stK (newP size) (X.map CaV.x) (j + 1)) ∧ ImR wx (Off3 g6 vc' vr) i' ∧ Hon wx (g6 + 1) g6 vc' vr L' R ∧ Hid (pcs L' = csK (newP size) (X.map CaV.x) (j + 1)) ∧ Hid (r.p = recK j (stK (newP size) (X.map CaV.x) j) s.x) ∧ RcR wx (Off3 g6 vc' vr) r ∧ Below w.heap.size w wx)
      case first =>
        by_cases h0 : s.x.kind = 0
        · have hkb : (s.x.kind == 0) = true := by simp [h0]
          have hok : okH j (stK (newP size) (X.map CaV.x) j) s.x = false := by unfold okH; rw [h0]; rfl
          have HI1 : Hid (i.p = stK (newP size) (X.map CaV.x) (j + 1)) := Lib.hid (by rw [stK_keep HXS.out hok]; exact HI.out)
          have HL1 : Hid (pcs L = csK (newP size) (X.map CaV.x) (j + 1)) := Lib.hid (by rw [csK_at HXS.out, hok, HL.out]; simp)
          have hrd := rRead_any (fun b => Off3 g6 vc vr b ∧ b < g10) i s.x.off s.x.len s.x.snap w4 rI4
          unfold Told at hrd
          have HP1 : Hid (∀ A c, (⟨3, callH s.x, s.A, s.c, 2 * (j : Int) + 1, 2 * (j : Int) + 3, true, readE i.p s.x.off s.x.len s.x.snap, A, readD i.p s.x.off s.x.len s.x.snap, c, 0, 2 * (j : Int) + 2⟩ : RcV).p = recK j (stK (newP size) (X.map CaV.x) j) s.x) := Lib.hid (fun A c => by rw [← HI.out]; unfold recK; rw [if_pos h0]; rfl)
          generalize readD i.p s.x.off s.x.len s.x.snap = xd at *
          generalize readE i.p s.x.off s.x.len s.x.snap = xe at *
          clear hok h0
          go_wp2_with first
            | (with_reducible show wpList _ _ _ _ _ _
               refine wpList_load_row rfl 35 (.tmp 6) rfl g6 rfl 35 _ (0, 0) _ hM4 Tryd.underlying35 rfl infoIm ?_)
          refine hrd.mono ?_
          clear hrd
          rintro e w5 ⟨A', c', rfl, rb, lb, mb, b5⟩
          have hO5 := hO.below b5
          have hs5 := b5.size
          go_wp2_with first
            | (with_reducible show wpList _ _ _ _ _ _
               refine wpList_partB rfl 42 (.tmp 61) (.tmp 60) rfl (g10 + 1) 10 44 _ #[.int .i64 xe, .slice A' xd.length c', .int .i64 0, .int .i64 (2 * (j : Int) + 2)] rfl rfl hO5 infoRe4 (show 10 + 4 ≤ 14 by decide) (by simp [Value.oneCell']) ?_
               intro w6 hO6 m6
               have hO6 : Blk w6 (g10 + 1) 44 (rcC ⟨3, callH s.x, s.A, s.c, 2 * (j : Int) + 1, 2 * (j : Int) + 3, true, xe, A', xd, c', 0, 2 * (j : Int) + 2⟩).toArray := hO6)
          have n6 : Below wr.heap.size wr w6 := by rw [HG.out]; exact (n4.thenB b5 (by omega)).thenM m6 (by omega) fun i hi e => by omega
          go_meet
          case rel => exact ⟨vc, L, i, ⟨3, callH s.x, s.A, s.c, 2 * (j : Int) + 1, 2 * (j : Int) + 3, true, xe, A', xd, c', 0, 2 * (j : Int) + 2⟩, rfl, hO6, hM.below n6, HI1, rI.below n6, hH.below n6, HL1, Lib.hid (HP1.out A' c'), ⟨r0.below n6, (Rd.imp (Rd.mod rb m6 fun b hb e => by have := hb.2; omega) (fun b _ hb => hb.1) (by decide)), lb, mb⟩, bb.thenB' n6⟩
        · have hkb : (s.x.kind == 0) = false := by simp [h0]
          simp only [hkb]
          go_upto_region 15 with fail
          have bn := below_new w4 (.cells #[.int .i64 ((j : Int) + 1), .int .i64 3, .int .i64 s.x.kind, .int .i64 s.x.off, .int .i64 s.x.len, .int .i64 s.x.snap, .slice s.A s.x.data.length s.c] 32)
          have hE5 := Blk.new w4 32 #[.int .i64 ((j : Int) + 1), .int .i64 3, .int .i64 s.x.kind, .int .i64 s.x.off, .int .i64 s.x.len, .int .i64 s.x.snap, .slice s.A s.x.data.length s.c]
          have hM5 := hM4.below bn
          have rI5 := rI4.below bn
          have hd5 := hd4.below bn
          have hO5 := hO.below bn
          have hs5 := hE5.lt
          generalize hw5 : w4.alloc (.cells #[.int .i64 ((j : Int) + 1), .int .i64 3, .int .i64 s.x.kind, .int .i64 s.x.off, .int .i64 s.x.len, .int .i64 s.x.snap, .slice s.A s.x.data.length s.c] 32) = w5 at *
          have n5 := n4.thenB bn (by omega)
          generalize w4.heap.size = gE at *
          have hE5 : Blk w5 gE 32 (enA (entH j s.x) s.A s.c) := hE5
          have HK0 := Lib.hid h0
          clear hw5 bn h0 hM4 rI4 hd4 hO hX4 l1 l2 l3 l4 l5 hkb
          go_cut [16, 17, 18] from 75 to 81 (fun s16 s17 s18 wx => ∃ (gN : Nat) (k : ImV), s16 = .pointer (some ⟨gN, 0, none⟩) ∧ s17 = .int .i64 (doP i.p (entH j s.x)).2.1 ∧ s18 = .int .i64 (doP i.p (entH j s.x)).2.2 ∧ Blk wx gN 35 (imA k) ∧ k.p = (doP i.p (entH j s.x)).1 ∧ ImR wx (fun b => ((Off3 g6 vc vr b ∧ b < g10) ∨ w5.heap.size ≤ b) ∧ b ≠ gN) k ∧ w5.heap.size ≤ gN ∧ Below w5.heap.size w5 wx)
          case first =>
            have hdo := rDo_at (fun b => Off3 g6 vc vr b ∧ b < g10) (Old w) i (entH j s.x) s.A s.c w5 rI5 hd5.1 hd5.2.1 hd5.2.2
            have hE5l : Blk w5 gE 32 #[.int .i64 ((j : Int) + 1), .int .i64 3, .int .i64 s.x.kind, .int .i64 s.x.off, .int .i64 s.x.len, .int .i64 s.x.snap, .slice s.A s.x.data.length s.c] := hE5
            go_wp2_with first
              | (with_reducible show wpList _ _ _ _ _ _
                 refine wpList_load_row rfl 35 (.tmp 6) rfl g6 rfl 35 _ (0, 0) _ hM5 Tryd.underlying35 rfl infoIm ?_)
              | (with_reducible show wpList _ _ _ _ _ _
                 refine wpList_load_row rfl 32 (.tmp 15) rfl gE rfl 32 _ (0, 0) _ hE5l Tryd.underlying32 rfl infoEn7 ?_)
            refine hdo.mono ?_
            clear hdo
            rintro e' w9 ⟨k, rfl, hk, oK, b9⟩
            have rK : ImR w9 (fun b => ((Off3 g6 vc vr b ∧ b < g10) ∨ w5.heap.size ≤ b) ∧ b < w9.heap.size) k := oK.imp fun b hb h => ⟨h, hb⟩
            have hs9 := b9.size
            go_wp2_with first
              | (with_reducible show wpList _ _ _ _ _ _
                 refine wpList_rowB rfl 35 (.tmp 16) (.tmp 79) rfl w9.heap.size 35 _ (imA k) rfl rfl (Blk.new w9 35 #[.slice none 0 0, .slice none 0 0, .int .i64 0]) infoIm rfl (imA_ok _) ?_
                 intro wx hN mm
                 have nn := im_new mm
                 clear mm)
            go_meet
            case rel => exact ⟨w9.heap.size, k, rfl, rfl, rfl, hN, hk, (rK.below nn).imp fun b _ hb => ⟨hb.1, by have := hb.2; omega⟩, hs9, b9.thenB' nn⟩
          case rest =>
            obtain ⟨gN, k, rfl, rfl, rfl, hN, hk, rK, hgN, bq⟩ := hcut
            have hO7 := hO5.below bq
            have hM7 := hM5.below bq
            have hE7 := hE5.below bq
            have n7 := n5.thenB bq (by omega)
            have hs7 := bq.size
            have HK := Lib.hid hk
            clear hk hO5 hM5 hE5 n5 bq rI5 hd5
            by_cases hz : (doP i.p (entH j s.x)).2.2 = 0
            · have hok : okH j (stK (newP size) (X.map CaV.x) j) s.x = true := by unfold okH; rw [decide_eq_true HK0.out, ← HI.out, decide_eq_true hz]; rfl
              have HI1 : Hid (k.p = stK (newP size) (X.map CaV.x) (j + 1)) := Lib.hid (by rw [HK.out, stK_at HXS.out]; unfold nxtK; rw [if_pos hok, HI.out])
              have HL1 : Hid (∀ A c, pcs (L ++ [⟨2 * (j : Int) + 2, 1, entH j s.x, A, c⟩]) = csK (newP size) (X.map CaV.x) (j + 1)) := Lib.hid (fun A c => by rw [csK_at HXS.out, hok, pcs_app, HL.out]; rfl)
              have HP1 : Hid ((⟨3, callH s.x, s.A, s.c, 2 * (j : Int) + 1, 2 * (j : Int) + 3, true, 0, none, [], 0, (doP i.p (entH j s.x)).2.1, 2 * (j : Int) + 2⟩ : RcV).p = recK j (stK (newP size) (X.map CaV.x) j) s.x) := Lib.hid (by rw [recK_ok hok, ← HI.out]; rfl)
              rw [hz]
              generalize (doP i.p (entH j s.x)).2.1 = id at *
              clear hok hz
              go_wp2_with first
                | (with_reducible show wpList _ _ _ _ _ _
                   refine wpList_partB rfl 42 (.tmp 85) (.tmp 84) rfl (g10 + 1) 10 44 _ #[.int .i64 0, .slice none 0 0, .int .i64 id, .int .i64 0] rfl rfl hO7 infoRe4 (show 10 + 4 ≤ 14 by decide) (by simp [Value.oneCell']) ?_
                   intro w8 hO8 m8
                   have hO8 : Blk w8 (g10 + 1) 44 (rcC ⟨3, callH s.x, s.A, s.c, 2 * (j : Int) + 1, 2 * (j : Int) + 3, true, 0, none, [], 0, id, 0⟩).toArray := hO8
                   have hN8 := hN.mod m8 (by omega)
                   have hM8 := hM7.mod m8 (by omega))
                | (with_reducible show wpList _ _ _ _ _ _
                   refine wpList_load_row rfl 35 (.tmp 16) rfl gN rfl 35 _ (0, 0) _ hN8 Tryd.underlying35 rfl infoIm ?_)
                | (with_reducible show wpList _ _ _ _ _ _
                   refine wpList_rowB rfl 35 (.tmp 6) (.tmp 88) rfl g6 35 _ (imA k) rfl rfl hM8 infoIm rfl (imA_ok _) ?_
                   intro w9 hM9 m9
                   have hO9 := hO8.mod m9 (by omega))
                | (with_reducible show wpList _ _ _ _ _ _
                   refine wpList_fldB rfl 3 (.tmp 91) _ rfl (g10 + 1) 13 44 _ (.int .i64 (2 * (j : Int) + 2)) rfl rfl rfl infoN1 hO9 14 rfl (by decide) ?_
                   intro w10 hO10 m10
                   have hO10 : Blk w10 (g10 + 1) 44 (rcC ⟨3, callH s.x, s.A, s.c, 2 * (j : Int) + 1, 2 * (j : Int) + 3, true, 0, none, [], 0, id, 2 * (j : Int) + 2⟩).toArray := hO10
                   have hE10 : Blk w10 gE 32 #[.int .i64 ((j : Int) + 1), .int .i64 3, .int .i64 s.x.kind, .int .i64 s.x.off, .int .i64 s.x.len, .int .i64 s.x.snap, .slice s.A s.x.data.length s.c] := ((hE7.mod m8 (by omega)).mod m9 (by omega)).mod m10 (by omega)
                   have mA : Mod (fun b => b = g6 ∨ g10 ≤ b) wr w10 := (((modOf n7).mono fun b _ h => .inr h).trans (((m8.mono fun b _ h => .inr (by omega)).trans (m9.mono fun b _ h => .inl h)).trans (m10.mono fun b _ h => .inr (by omega))))
                   have hHA := hH.mod mA fun b hb h => by rw [HG.out] at hb; omega
                   have hsA : g6 < w10.heap.size := by have := mA.size; rw [HG.out] at this; omega)
                | (with_reducible show wpList _ _ _ _ _ _
                   refine wpList_load_row rfl 32 (.tmp 15) rfl gE rfl 32 _ (0, 0) _ hE10 Tryd.underlying32 rfl infoEn7 ?_)
                | (with_reducible show wpList _ _ _ _ _ _
                   refine wpList_app1 rfl (.tmp 92) (.tmp 96) 27 rfl cmC_len cmC_one (by decide) _ 88 Tryd.underlying27 infoCm9 rfl (by decide) w10 (g6 + 1) vc L ⟨2 * (j : Int) + 2, 1, entH j s.x, s.A, s.c⟩ rfl rfl rfl hHA.oc hlL (by omega) ?_
                   intro vc' w11 ap)
              have hr1 : RcR w10 (Off3 g6 vc vr) ⟨3, callH s.x, s.A, s.c, 2 * (j : Int) + 1, 2 * (j : Int) + 3, true, 0, none, [], 0, id, 2 * (j : Int) + 2⟩ := ⟨RdC.imp (RdC.mod (RdC.imp (D' := fun b => Off3 g6 vc vr b ∧ b < wr.heap.size) r0 fun b hb h => ⟨h, hb⟩) mA fun b hb e => by rw [HG.out] at hb; rcases e with e | e; exact hb.1.1 e; omega) (fun b _ hb => hb.1), RdC.nil⟩
              have rK' : ImR w10 (Off3 g6 vc vr) k := (((rK.mod m8 fun b hb e => by rcases hb.1 with h | h <;> omega).mod m9 fun b hb e => by rcases hb.1 with h | h; exact h.1.1 e; omega).mod m10 fun b hb e => by rcases hb.1 with h | h <;> omega).imp fun b _ hb => by
                rcases hb.1 with h | h
                · exact h.1
                · exact ⟨by omega, fun e => by have := hvc b e; omega, fun e => by have := hvr b e; omega⟩
              have hM10 := hM9.mod m10 (by omega)
              go_meet
              case rel => exact ⟨vc', _, k, _, rfl, hO10.mod ap.mod (fun e => by have := hvc _ e; omega), hM10.mod ap.mod (fun e => by have := (OwnC.lt hHA.oc _ e).1; omega), HI1, rK'.addL ap, hHA.addL (RdC.imp hr1.1 fun _ _ h => h) ap, Lib.hid (HL1.out _ _), HP1, hr1.addL ap, (bb.thenM mA bb.size fun b hb e => by rcases e with e | e <;> omega).thenM ap.mod (Nat.le_trans bb.size mA.size) fun b hb e => by have := (OwnC.lt hHA.oc _ e).1; omega⟩
            · have hzb : ((doP i.p (entH j s.x)).2.2 == 0) = false := by simp [hz]
              have hok : okH j (stK (newP size) (X.map CaV.x) j) s.x = false := by unfold okH; rw [← HI.out, decide_eq_false hz, Bool.and_false]
              have HI1 : Hid (i.p = stK (newP size) (X.map CaV.x) (j + 1)) := Lib.hid (by rw [stK_keep HXS.out hok]; exact HI.out)
              have HL1 : Hid (pcs L = csK (newP size) (X.map CaV.x) (j + 1)) := Lib.hid (by rw [csK_at HXS.out, hok, HL.out]; simp)
              have HP1 : Hid ((⟨3, callH s.x, s.A, s.c, 2 * (j : Int) + 1, 2 * (j : Int) + 3, true, (doP i.p (entH j s.x)).2.2, none, [], 0, (doP i.p (entH j s.x)).2.1, 0⟩ : RcV).p = recK j (stK (newP size) (X.map CaV.x) j) s.x) := Lib.hid (by rw [← HI.out]; unfold recK; rw [if_neg HK0.out, if_neg hz]; rfl)
              generalize (doP i.p (entH j s.x)).2.1 = id at *
              generalize (doP i.p (entH j s.x)).2.2 = ee at *
              clear hok hz
              go_wp2_with first
                | (with_reducible show wpList _ _ _ _ _ _
                   refine wpList_partB rfl 42 (.tmp 85) (.tmp 84) rfl (g10 + 1) 10 44 _ #[.int .i64 ee, .slice none 0 0, .int .i64 id, .int .i64 0] rfl rfl hO7 infoRe4 (show 10 + 4 ≤ 14 by decide) (by simp [Value.oneCell']) ?_
                   intro w8 hO8 m8
                   have hO8 : Blk w8 (g10 + 1) 44 (rcC ⟨3, callH s.x, s.A, s.c, 2 * (j : Int) + 1, 2 * (j : Int) + 3, true, ee, none, [], 0, id, 0⟩).toArray := hO8)
              have n8 : Below wr.heap.size wr w8 := by rw [HG.out]; exact n7.thenM m8 (by omega) fun i hi e => by omega
              go_meet
              case rel => exact ⟨vc, L, i, _, rfl, hO8, hM.below n8, HI1, rI.below n8, hH.below n8, HL1, HP1, ⟨r0.below n8, RdC.nil⟩, bb.thenB' n8⟩
      case rest =>
        obtain ⟨vc', L', i', r, rfl, hO', hM', HI', rI', hH', HL', HP, hrr, b'⟩ := hcut
        have hb1 := hM'.lt
        have hbo := hO'.lt
        have hOl : Blk _ (g10 + 1) 44 #[.int .i64 r.cl, .int .i64 r.call.image, .int .i64 r.call.kind, .int .i64 r.call.off, .int .i64 r.call.len, .int .i64 r.call.snap, .slice r.A r.call.data.length r.c, .int .i64 r.fr, .int .i64 r.tt, .bool r.done, .int .i64 r.E, .slice r.rA r.rd.length r.rc, .int .i64 r.N, .int .i64 r.rx] := hO'
        have irc : (Tryd.prog.info? 44).map (·.size) = some 14 := infoRc r
        clear hM rI hH r0 rI0 hM4 hd4 rI4 bb
        go_wp2_with first
          | (with_reducible show wpList _ _ _ _ _ _
             refine wpList_load_row rfl 44 (.tmp 12) rfl (g10 + 1) rfl 44 _ (0, 0) _ hOl Tryd.underlying44 rfl irc ?_)
          | (with_reducible show wpList _ _ _ _ _ _
             refine wpList_app1 rfl (.tmp 98) (.tmp 100) 28 rfl rcC_len rcC_one (by decide) _ 144 Tryd.underlying28 infoRc14 rfl (by decide) _ (g6 + 1) vr R r rfl rfl rfl hH'.ow hlR (by omega) ?_
             intro vr' w12 ap)
        have HRn : Hid (prs (R ++ [r]) = rsK (newP size) (X.map CaV.x) (j + 1)) := Lib.hid (by rw [rsK_at HXS.out, prs_app, HR.out, HP.out])
        go_roundw
        case rel => exact ⟨j + 1, i', vc', vr', L', R ++ [r], rfl, rfl, by go_num, by omega, hM'.mod ap.mod (fun e => by have := (OwnC.lt hH'.ow _ e).1; omega), HI', rI'.addR ap, hH'.addR hrr ap, HL', HRn, b'.thenM ap.mod b'.size fun b hb e => by have := (OwnC.lt hH'.ow _ e).1; omega⟩
        case measure => simp only [intOf]; omega
    · obtain rfl : j = X.length := by omega
      go_wp2_with fail
      (try simp only [Exit.inBlock, Exit.then])
      go_ret2
      exact ⟨g6, vc, vr, L, R, rfl, hH.low (by omega), HL.out, HR.out, bb⟩
end Go.Proofs.YthkeoimjjgmppaaDoor

/- The past: what the four laws of an honest image share. -/
namespace Go.Proofs.YthkeoimjjgmppaaDoor
open Go.RowKit
set_option linter.unusedVariables false
set_option maxRecDepth 100000

theorem CaV_pos (s : CaV) : 0 < s.C.length := by show 0 < 6; decide
theorem CasR.imp {w : World} {D D' : Nat → Prop} {A : Option Addr} {c : Nat} {L : List CaV} (h : CasR w D A c L) (hd : ∀ b, b < w.heap.size → D b → D' b) : CasR w D' A c L := ⟨h.rd.imp CaV_pos hd, h.cap, h.max, fun s hs => RdC.imp (h.all s hs) hd⟩
section
variable {w w' : World} {base g : Nat} {vc vr : Value} {L : List CmV} {R : List RcV}
theorem own_cms {A : Option Addr} {c n : Nat} {D : Nat → Prop} (h : OwnCm w base (.slice A n c) L) (hn : n = L.length) (ha : ∀ s ∈ L, CmR w D s) : CmsR w (fun _ => True) A c L := by
  subst hn
  obtain ⟨A', c', e, h1, h2⟩ := OwnC.form h
  injection e with e1 _ e3
  subst e3
  exact ⟨(OwnC.rd cmC_len h).imp cmC_pos fun _ _ _ => trivial, h1, by unfold maxLen at h2; omega, fun s hs => RdC.imp (ha s hs) fun _ _ _ => trivial⟩
theorem own_rcs {A : Option Addr} {c n : Nat} {D : Nat → Prop} (h : OwnRc w base (.slice A n c) R) (hn : n = R.length) (ha : ∀ s ∈ R, RcR w D s) : RcsR w (fun _ => True) A c R := by
  subst hn
  obtain ⟨A', c', e, h1, h2⟩ := OwnC.form h
  injection e with e1 _ e3
  subst e3
  exact ⟨(OwnC.rd rcC_len h).imp rcC_pos fun _ _ _ => trivial, h1, by unfold maxLen at h2; omega, fun s hs => (ha s hs).imp fun _ _ _ => trivial⟩
theorem Hon.form (h : Hon w base g vc vr L R) : ∃ A c A' c', vc = .slice A L.length c ∧ vr = .slice A' R.length c' ∧ CmsR w (fun _ => True) A c L ∧ RcsR w (fun _ => True) A' c' R := by
  obtain ⟨A, c, rfl, _, _⟩ := OwnC.form h.oc
  obtain ⟨A', c', rfl, _, _⟩ := OwnC.form h.ow
  exact ⟨A, c, A', c', rfl, rfl, own_cms h.oc rfl h.al, own_rcs h.ow rfl h.ar⟩
end
/-- What is asked of the records' calls. -/
def RBd (r : PR) : Prop := r.call.data.length ≤ big ∧ r.call.len ≤ 9223372036854775807
def LBd (x : PL) : Prop := x.data.length ≤ 200 ∧ x.len ≤ 9223372036854775807
theorem big_of {n : Nat} (h : n ≤ 200) : n ≤ big := by unfold big; omega
theorem rsK_bd {m : PI} {xs : List PL} {n : Nat} (hn : n ≤ xs.length) (h : ∀ x ∈ xs, LBd x) : ∀ r ∈ rsK m xs n, RBd r := fun r hr => by
  obtain ⟨k, x, _, hx, rfl⟩ := rsK_mem hn hr
  have hb := h x (List.mem_of_getElem? hx)
  unfold RBd
  rw [(recK_done k (stK m xs k) x).2.2.2.1]
  exact ⟨big_of hb.1, hb.2⟩
theorem csK_bd {m : PI} {xs : List PL} {n : Nat} (hn : n ≤ xs.length) (h : ∀ x ∈ xs, LBd x) : ∀ c ∈ csK m xs n, c.e.data.length ≤ big := fun c hc => by
  obtain ⟨k, x, _, hx, _, rfl⟩ := (csK_mem n hn c).1 hc
  exact big_of (h x (List.mem_of_getElem? hx)).1
theorem right_of {D D' : Nat → Prop} {A A' : Option Addr} {c c' : Nat} {L : List CmV} {R : List RcV} {w : World} (hL : CmsR w D A c L) (hR : RcsR w D' A' c' R) (ht : TabE w) {cs : List PC} {rs : List PR} (e1 : pcs L = cs) (e2 : prs R = rs) {size : Int} {z : Bool} (hz : rightP size cs rs = z) (h1 : ∀ r ∈ rs, RBd r) (h2 : ∀ c ∈ cs, c.e.data.length ≤ big) (hn : rs.length ≤ 1000) :
    Calls Tryd.prog 13 #[.agg #[.int .i64 4, .int .i64 2, .int .i64 16], .int .i64 size, .slice A L.length c, .slice A' R.length c'] w fun e w' => e = .returned (.bool z) ∧ Below w.heap.size w w' := by
  subst e1 e2 hz
  exact Right_any D D' A A' c c' L R size w hL hR ht (fun s hs => (h1 s.p (List.mem_map.2 ⟨s, hs, rfl⟩)).1) (fun s hs => h2 s.p (List.mem_map.2 ⟨s, hs, rfl⟩)) (fun s hs => (h1 s.p (List.mem_map.2 ⟨s, hs, rfl⟩)).2) (by rw [← prs_len]; exact hn)
/-- The same with the lengths behind words of their own. -/
theorem right_of2 {D D' : Nat → Prop} {A A' : Option Addr} {c c' n n' : Nat} {L : List CmV} {R : List RcV} {w : World} (hL : CmsR w D A c L) (hR : RcsR w D' A' c' R) (en : n = L.length) (en' : n' = R.length) (ht : TabE w) {cs : List PC} {rs : List PR} (e1 : pcs L = cs) (e2 : prs R = rs) {size : Int} (z : Bool) (hz : rightP size cs rs = z) (h1 : ∀ r ∈ rs, RBd r) (h2 : ∀ c ∈ cs, c.e.data.length ≤ big) (hn : rs.length ≤ 1000) :
    Calls Tryd.prog 13 #[.agg #[.int .i64 4, .int .i64 2, .int .i64 16], .int .i64 size, .slice A n c, .slice A' n' c'] w fun e w' => e = .returned (.bool z) ∧ Below w.heap.size w w' := by
  subst en en'
  exact right_of hL hR ht e1 e2 hz h1 h2 hn
theorem take_step {X : List CaV} {k : Nat} (hk : k < X.length) (h : ∀ s ∈ X.take k, s.x.data.length ≤ 200) (h2 : X[k].x.data.length ≤ 200) : ∀ s ∈ X.take (k + 1), s.x.data.length ≤ 200 := by
  intro s hs
  rw [List.take_succ_eq_append_getElem hk] at hs
  rcases List.mem_append.1 hs with hs | hs
  · exact h s hs
  · obtain rfl := List.mem_singleton.1 hs; exact h2
theorem all_LBd {X : List CaV} (h : ∀ s ∈ X.take X.length, s.x.data.length ≤ 200) (h2 : ∀ s ∈ X, CaI s.x) : ∀ x ∈ X.map CaV.x, LBd x := by
  intro x hx
  obtain ⟨s, hs, rfl⟩ := List.mem_map.1 hx
  rw [List.take_length] at h
  exact ⟨h s hs, (h2 s hs).2.2.2.1.2⟩
theorem map_len (X : List CaV) : (X.map CaV.x).length = X.length := List.length_map ..
theorem map_le (X : List CaV) : X.length ≤ (X.map CaV.x).length := Nat.le_of_eq (map_len X).symm
end Go.Proofs.YthkeoimjjgmppaaDoor

/- PastHonest: the walk. -/
namespace Go.Proofs.YthkeoimjjgmppaaDoor
open Go.RowKit
set_option linter.unusedVariables false
set_option maxRecDepth 100000

set_option maxHeartbeats 8000000 in
theorem honest_walk (W : World) (ht : TabE W) (a0 : Int) (i0 : I64 a0) (A : Option Addr) (X : List CaV) (c : Nat) (hX : CasR W (Old W) A c X) (iX : ∀ s ∈ X, CaI s.x) :
    Calls Tryd.prog 7 #[.int .i64 a0, .slice A X.length c] W fun e w' => e = .returned (.bool true) ∧ Below W.heap.size W w' := by
  have haw := awake23 W ht
  have hc := hX.cap
  have hm := hX.max
  go_enter Tryd.func7, Tryd.ntmps7
  go_wp2_with fail
  refine haw.mono ?_
  clear haw
  rintro e w1 ⟨rfl, bb⟩
  by_cases hn : X.length ≤ 15
  rotate_left
  focus
    have hg : (15 : Int) < (X.length : Int) := by omega
    go_wp2_with fail
    go_ret
    exact ⟨rfl, bb⟩
  have hg : ¬ (15 : Int) < (X.length : Int) := by omega
  go_wp2_with fail
  go_loopw [6] (fun sk wr => ∃ k : Nat, sk = .int .i64 (k : Int) ∧ k ≤ X.length ∧ Hid (∀ s ∈ X.take k, s.x.data.length ≤ 200) ∧ Below W.heap.size W wr) (fun sk _ => X.length - (intOf sk).toNat)
  case atStart => exact ⟨0, rfl, Nat.zero_le _, Lib.hid (fun s hs => absurd hs (by simp)), bb⟩
  case round =>
    clear bb
    obtain ⟨k, rfl, hk, HB, bb⟩ := hrel
    by_cases hlt : k < X.length
    · obtain ⟨ad, hA, _, _, _, _, _, c5⟩ := (hX.below bb).at2 hlt
      subst hA
      have HS := Lib.hid (fun h => take_step hlt HB.out h)
      generalize X[k] = s at *
      by_cases hs : s.x.data.length ≤ 200
      · have hs' : ¬ (200 : Int) < (s.x.data.length : Int) := by omega
        have H2 := Lib.hid (HS.out hs)
        clear HB HS
        go_wp2_with fail
        go_roundw
        case rel => exact ⟨k + 1, by go_num, hlt, H2, bb⟩
        case measure => simp only [intOf]; omega
      · have hs' : (200 : Int) < (s.x.data.length : Int) := by omega
        clear HB HS
        go_wp2_with fail
        go_ret
        exact ⟨rfl, bb⟩
    · obtain rfl : k = X.length := by omega
      have HX := Lib.hid (all_LBd HB.out iX)
      clear HB
      have hon := honest_any a0 A c X wr ((hX.below bb).imp fun b hb h => by have : b < W.heap.size := h; have := bb.size; show b < wr.heap.size; omega) hn
      go_wp2_with fail
      refine hon.mono ?_
      clear hon
      rintro e w3 ⟨g, vc, vr, L, R, rfl, hH, eL, eR, b3⟩
      have HEL := Lib.hid eL
      have HER := Lib.hid eR
      have hwb := bb.size
      have bb := bb.thenB' b3
      clear b3 eL eR
      obtain ⟨A1, c1, A2, c2, rfl, rfl, hL, hR⟩ := hH.form
      go_wp2_with fail
      refine (layout_any _).mono ?_
      rintro e w4 ⟨rfl, b4⟩
      have bb := bb.thenB' b4
      have hr := right_of (size := a0) (z := true) (hL.below b4) (hR.below b4) (ht.below bb) HEL.out HER.out (by have := right_K (size := a0) (n := X.length) (xs := X.map CaV.x) (map_le X) (by omega) [] (fun z hz => absurd hz (by simp)); rw [List.append_nil] at this; exact this) (rsK_bd (map_le X) HX.out) (csK_bd (map_le X) HX.out) (by rw [rsK_len _ (map_le X)]; omega)
      go_wp2_with fail
      refine hr.mono ?_
      clear hr
      rintro e w5 ⟨rfl, b5⟩
      go_wp2_with fail
      go_ret
      exact ⟨rfl, bb.thenB' b5⟩
end Go.Proofs.YthkeoimjjgmppaaDoor
