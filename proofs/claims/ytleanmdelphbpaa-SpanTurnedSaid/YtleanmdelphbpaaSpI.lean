/- What the laws of span need: how an argument reads; plain laws of sets. -/
import Derived.Test.YtleanmdelphbpaaSpH
namespace Go.Proofs.Ytleanmdelphbpaa
open Go.ChangeShapes Go.WideShapes Go.ChangeAt Go.RowKit
set_option linter.unusedVariables false

theorem openSp {H : Type} {enc : TypeId × Value → H} {W : World} {base : Nat} {v : Value} {d : DataW H} {p : List MemPlace}
    (hv : Value.okWide Try.prog W .any base 22 v) (h : DataW.Trod enc Try.prog W 0 (fun _ => true) true 22 v d p) :
    ∃ A L c, v = .slice A L.length c ∧ RdSp W (Old W) A L ∧ L.length ≤ c ∧ c ≤ 9223372036854775807 ∧ (A = none → c = 0) ∧ ∀ s ∈ L, I64 s.1 ∧ I64 s.2 := by
  obtain ⟨a, l, c, rfl⟩ := okWide_slice Try.underlying22 hv
  obtain ⟨fuel, hf⟩ := h
  obtain ⟨A, L, c', hcs, r⟩ := readL Try.underlying22 Try.underlying34 (by kernel_rfl) (by kernel_rfl) spC (fun s => I64 s.1 ∧ I64 s.2) (by
    intro b o hj
    obtain ⟨v0, n0, y0, c0, h0⟩ := hj 0 _ rfl
    obtain ⟨v1, n1, y1, c1, h1⟩ := hj 1 _ rfl
    obtain ⟨a0, e0, i0⟩ := readN h0
    obtain ⟨a1, e1, i1⟩ := readN h1
    simp only [List.cons.injEq, and_true] at e0 e1
    subst e0 e1
    refine ⟨(a0, a1), ⟨i0, i1⟩, fun j v hv => ?_⟩
    match j, hv with
    | 0, hv => injection hv with hv; subst hv; exact c0
    | 1, hv => injection hv with hv; subst hv; exact c1
    | j + 2, hv => simp [spC] at hv) hf (by decide) (fun _ => rfl)
  simp [Value.cells] at hcs
  obtain ⟨rfl, rfl, rfl⟩ := hcs
  exact ⟨_, _, _, rfl, r⟩

section
variable (D D' : Nat → Prop) (A A' : Option Addr) (c c' : Nat) (a b : List Sp) (w : World) (ha : RdSp w D A a) (hb : RdSp w D' A' b)
include ha hb
theorem rSame_yes (hl : a.length ≤ 1000000) (e : a = b) : Calls Try.prog 11 #[.slice A a.length c, .slice A' b.length c'] w fun e w' => e = .returned (.bool true) ∧ Below w.heap.size w w' := by
  have h := rSame_any D D' A A' c c' a b w ha hb hl
  rwa [decide_eq_true e] at h
variable (la : a.length ≤ 100) (lb : b.length ≤ 100)
include la lb
theorem rJoin_any : Calls Try.prog 19 #[.slice A a.length c, .slice A' b.length c', .int .i64 1] w fun e w' => ∃ v L, e = .returned v ∧ OwnSp w' w.heap.size v L ∧ IsR (joinF a b) L ∧ Below w.heap.size w w' :=
  (rOf_any D D' A A' c c' a b 1 w ha hb la lb).mono fun e w' ⟨v, L, h1, h2, h3, h4⟩ => ⟨v, L, h1, h2, h3.to (docW_join a b), h4⟩
theorem rMeet_any : Calls Try.prog 19 #[.slice A a.length c, .slice A' b.length c', .int .i64 2] w fun e w' => ∃ v L, e = .returned v ∧ OwnSp w' w.heap.size v L ∧ IsR (meetF a b) L ∧ Below w.heap.size w w' :=
  (rOf_any D D' A A' c c' a b 2 w ha hb la lb).mono fun e w' ⟨v, L, h1, h2, h3, h4⟩ => ⟨v, L, h1, h2, h3.to (docW_meet a b), h4⟩
theorem rLess_any : Calls Try.prog 19 #[.slice A a.length c, .slice A' b.length c', .int .i64 3] w fun e w' => ∃ v L, e = .returned v ∧ OwnSp w' w.heap.size v L ∧ IsR (lessF a b) L ∧ Below w.heap.size w w' :=
  (rOf_any D D' A A' c c' a b 3 w ha hb la lb).mono fun e w' ⟨v, L, h1, h2, h3, h4⟩ => ⟨v, L, h1, h2, h3.to (docW_less a b), h4⟩
end

/-! ### plain laws of sets -/
section
variable {a b c M L J K : List Sp}
theorem join_parts (hM : IsR (meetF a b) M) (hL : IsR (lessF a b) L) (n : Int) : joinF M L n = hasS a n := by
  unfold joinF
  rw [hM.is, hL.is]
  unfold meetF lessF
  cases hasS a n <;> cases hasS b n <;> rfl
theorem meet_parts (hM : IsR (meetF a b) M) (hL : IsR (lessF a b) L) (n : Int) : meetF M L n = false := by
  unfold meetF
  rw [hM.is, hL.is]
  unfold meetF lessF
  cases hasS a n <;> cases hasS b n <;> rfl
theorem within_meet (hM : IsR (meetF a b) M) (n : Int) : lessF M b n = false := by
  unfold lessF
  rw [hM.is]
  unfold meetF
  cases hasS a n <;> cases hasS b n <;> rfl
theorem within_less (hL : IsR (lessF a b) L) (n : Int) : lessF L a n = false := by
  unfold lessF
  rw [hL.is]
  unfold lessF
  cases hasS a n <;> cases hasS b n <;> rfl
theorem sum_parts {M' L' A' : List Sp} (hM : IsR (meetF a b) M) (hL : IsR (lessF a b) L) (hM' : IsR (hasS M) M') (hL' : IsR (hasS L) L') (hA : IsR (hasS a) A') : sumS M' + sumS L' = sumS A' := by
  rw [sum_is hM'.clean, sum_is hL'.clean, sum_is hA.clean, ← cnt_or]
  · refine cnt_congr _ fun n _ => ?_
    show (hasS M' n || hasS L' n) = hasS A' n
    rw [hM'.is, hL'.is, hA.is]
    exact join_parts hM hL n
  · intro n hn
    rw [hM'.is, hM.is] at hn
    rw [hL'.is, hL.is]
    unfold meetF at hn
    unfold lessF
    cases h1 : hasS a n <;> cases h2 : hasS b n <;> simp_all
theorem sum_clean_bd {L : List Sp} (h : CleanR L) : 0 ≤ sumS L ∧ sumS L ≤ 1099511627776 := by
  have := sum_bd h L.length
  rwa [List.take_of_length_le (Nat.le_refl _)] at this
theorem has_perm {a b : List Sp} (h : a.Perm b) (n : Int) : hasS a n = hasS b n := by
  unfold hasS
  rw [h.any_eq]
theorem has_rev (a : List Sp) (n : Int) : hasS a.reverse n = hasS a n := has_perm (List.reverse_perm a) n
theorem join_turn (a b : List Sp) (n : Int) : joinF b a n = joinF a b n := by unfold joinF; rw [Bool.or_comm]
theorem meet_turn (a b : List Sp) (n : Int) : meetF b a n = meetF a b n := by unfold meetF; rw [Bool.and_comm]
theorem join_rev (a : List Sp) (n : Int) : joinF a a.reverse n = hasS a n := by unfold joinF; rw [has_rev, Bool.or_self]
theorem less_rev (a : List Sp) (n : Int) : lessF a a.reverse n = false := by unfold lessF; rw [has_rev]; cases hasS a n <;> rfl
/-- A lies within b. -/
def inS' (a b : List Sp) : Prop := ∀ n, hasS a n = true → hasS b n = true
theorem within_is {L : List Sp} (h : IsR (lessF a b) L) : ((L.length : Int) == 0) = true ↔ inS' a b := by
  rw [beq_iff_eq]
  have e : (L.length : Int) = 0 ↔ L = [] := by
    rw [← List.length_eq_zero_iff]; omega
  rw [e, h.nil]
  unfold lessF inS'
  refine forall_congr' fun n => ?_
  cases hasS a n <;> cases hasS b n <;> simp
theorem within_trans {X Y Z : List Sp} (hX : IsR (lessF a b) X) (hY : IsR (lessF b c) Y) (hZ : IsR (lessF a c) Z) : (!((X.length : Int) == 0) || !((Y.length : Int) == 0) || ((Z.length : Int) == 0)) = true := by
  have h1 := within_is hX
  have h2 := within_is hY
  have h3 := within_is hZ
  have h4 : inS' a b → inS' b c → inS' a c := fun h k n hn => k n (h n hn)
  cases e1 : ((X.length : Int) == 0) <;> cases e2 : ((Y.length : Int) == 0) <;> cases e3 : ((Z.length : Int) == 0) <;> rw [e1] at h1 <;> rw [e2] at h2 <;> rw [e3] at h3 <;> simp_all
theorem same_is {P Q : List Sp} (hP : IsR (hasS a) P) (hQ : IsR (hasS b) Q) : P = Q ↔ inS' a b ∧ inS' b a := by
  constructor
  · rintro rfl
    exact ⟨fun n hn => by rw [← hQ.is, hP.is]; exact hn, fun n hn => by rw [← hP.is, hQ.is]; exact hn⟩
  · rintro ⟨k1, k2⟩
    refine hP.one hQ fun n => ?_
    have k3 := k1 n
    have k4 := k2 n
    clear k1 k2
    revert k3 k4
    cases hasS a n <;> cases hasS b n <;> simp
theorem ex_same (a b : List Sp) : ∃ sm : Bool, sm = true ↔ inS' a b ∧ inS' b a := by
  rcases Classical.em (inS' a b ∧ inS' b a) with h | h
  · exact ⟨true, fun _ => h, fun _ => rfl⟩
  · exact ⟨false, fun e => absurd e (by decide), fun k => absurd k h⟩
theorem within_nil {X : List Sp} (hX : IsR (lessF [] a) X) : X = [] := hX.nil.2 fun n => by unfold lessF; rw [has_nil]; rfl
theorem within_none {X M : List Sp} (hX : IsR (lessF a []) X) (hM : IsR (hasS a) M) : ((X.length : Int) == 0) = (sumS M == 0) := by
  have e : X = M := hX.one hM fun n => by unfold lessF; rw [has_nil]; simp
  subst e
  rw [Bool.eq_iff_iff, beq_iff_eq, beq_iff_eq]
  have key : ∀ L : List Sp, CleanR L → ((L.length : Int) = 0 ↔ sumS L = 0) := fun L hL => by
    cases L with
    | nil => exact ⟨fun _ => rfl, fun _ => rfl⟩
    | cons s L =>
      have h1 := hL.1
      have h2 := (sum_clean_bd hL.2.2).1
      rw [sum_cons, List.length_cons]
      omega
  exact key _ hX.clean
end
end Go.Proofs.Ytleanmdelphbpaa
