/- span: Clean, Join, Meet, Less, Within, Many. -/
import Derived.Test.YtleanmdelphbpaaSpE
namespace Go.Proofs.Ytleanmdelphbpaa
open Go.RowKit
set_option linter.unusedVariables false

theorem hasS_wC (l : List Sp) (n : Int) : wantP wC l [] n = hasS l n := want_clean l n
def joinF (a b : List Sp) (n : Int) : Bool := hasS a n || hasS b n
def meetF (a b : List Sp) (n : Int) : Bool := hasS a n && hasS b n
def lessF (a b : List Sp) (n : Int) : Bool := hasS a n && !hasS b n
theorem IsR.to {f g : Int → Bool} {L : List Sp} (h : IsR f L) (e : ∀ n, f n = g n) : IsR g L := ⟨h.clean, fun n => by rw [h.is, e]⟩
theorem docW_join (a b : List Sp) (n : Int) : docW (docB 1) a b n = joinF a b n := by unfold docW docB joinF; rw [if_neg (by decide), if_neg (by decide)]
theorem docW_meet (a b : List Sp) (n : Int) : docW (docB 2) a b n = meetF a b n := rfl
theorem docW_less (a b : List Sp) (n : Int) : docW (docB 3) a b n = lessF a b n := rfl
/-- What a call tells that answers with the row of a set. -/
def Row (N : Nat) (f : Int → Bool) (w : World) (e : Ending) (w' : World) : Prop := ∃ v L, e = .returned v ∧ OwnSp w' w.heap.size v L ∧ IsR f L ∧ Below w.heap.size w w' ∧ L.length ≤ N

section
variable (D D' : Nat → Prop) (A A' : Option Addr) (c c' : Nat) (a b : List Sp) (w : World) (ha : RdSp w D A a) (hb : RdSp w D' A' b) (la : a.length ≤ 1000) (lb : b.length ≤ 1000)
include ha la
theorem Clean_any : Calls Try.prog 12 #[.slice A a.length c] w (Row (2 * a.length) (hasS a) w) := by
  have hc := of_any 25 wC rfl (enters_of Try.func25 (by kernel_rfl) rfl) clC_any D _ A none c 0 a [] w ha (RdSp.none w) la (by decide)
  have HF := Lib.hid (hasS_wC a)
  go_enter Try.func12, Try.ntmps12
  go_wp2_with fail
  refine hc.mono ?_
  clear hc
  rintro e w1 ⟨v, L, rfl, h1, h2, h3, h4⟩
  have HR := Lib.hid (h2.to HF.out)
  clear h2
  go_wp2_with fail
  go_ret
  exact ⟨v, L, rfl, h1, HR.out, h3, h4⟩
include hb lb
theorem Join_any : Calls Try.prog 20 #[.slice A a.length c, .slice A' b.length c'] w (Row (2 * a.length + 2 * b.length) (joinF a b) w) := by
  have hc := of_any 29 wJ rfl (enters_of Try.func29 (by kernel_rfl) rfl) clJ_any D D' A A' c c' a b w ha hb la lb
  have HF := Lib.hid (want_join a b)
  go_enter Try.func20, Try.ntmps20
  go_wp2_with fail
  refine hc.mono ?_
  clear hc
  rintro e w1 ⟨v, L, rfl, h1, h2, h3, h4⟩
  have HR : Hid (IsR (joinF a b) L) := h2.to HF.out
  clear h2
  go_wp2_with fail
  go_ret
  exact ⟨v, L, rfl, h1, HR.out, h3, h4⟩
theorem Meet_any : Calls Try.prog 21 #[.slice A a.length c, .slice A' b.length c'] w (Row (2 * a.length + 2 * b.length) (meetF a b) w) := by
  have hc := of_any 30 wM rfl (enters_of Try.func30 (by kernel_rfl) rfl) clM_any D D' A A' c c' a b w ha hb la lb
  have HF := Lib.hid (want_meet a b)
  go_enter Try.func21, Try.ntmps21
  go_wp2_with fail
  refine hc.mono ?_
  clear hc
  rintro e w1 ⟨v, L, rfl, h1, h2, h3, h4⟩
  have HR : Hid (IsR (meetF a b) L) := h2.to HF.out
  clear h2
  go_wp2_with fail
  go_ret
  exact ⟨v, L, rfl, h1, HR.out, h3, h4⟩
theorem Less_any : Calls Try.prog 22 #[.slice A a.length c, .slice A' b.length c'] w (Row (2 * a.length + 2 * b.length) (lessF a b) w) := by
  have hc := of_any 31 wL rfl (enters_of Try.func31 (by kernel_rfl) rfl) clL_any D D' A A' c c' a b w ha hb la lb
  have HF := Lib.hid (want_less a b)
  go_enter Try.func22, Try.ntmps22
  go_wp2_with fail
  refine hc.mono ?_
  clear hc
  rintro e w1 ⟨v, L, rfl, h1, h2, h3, h4⟩
  have HR : Hid (IsR (lessF a b) L) := h2.to HF.out
  clear h2
  go_wp2_with fail
  go_ret
  exact ⟨v, L, rfl, h1, HR.out, h3, h4⟩
theorem Within_any : Calls Try.prog 18 #[.slice A a.length c, .slice A' b.length c'] w fun e w' => ∃ L, IsR (lessF a b) L ∧ e = .returned (.bool ((L.length : Int) == 0)) ∧ Below w.heap.size w w' := by
  have hc := Less_any D D' A A' c c' a b w ha hb la lb
  go_enter Try.func18, Try.ntmps18
  go_wp2_with fail
  refine hc.mono ?_
  clear hc
  rintro e w1 ⟨v, L, rfl, h1, h2, h3, h4⟩
  obtain ⟨A9, n9, c9, rfl, hn9, l9, m9⟩ := OwnC.form' h1
  have HR := Lib.hid h2
  clear h1 h2
  go_wp2_with fail
  go_ret
  exact ⟨L, HR.out, by rw [← hn9.out] <;> rfl, h3⟩
end

set_option maxHeartbeats 1000000 in
set_option maxRecDepth 100000 in
theorem Many_any (D : Nat → Prop) (A : Option Addr) (c : Nat) (l : List Sp) (w : World) (h : RdSp w D A l) (hl : l.length ≤ 1000) :
    Calls Try.prog 14 #[.slice A l.length c] w fun e w' => ∃ L, IsR (hasS l) L ∧ e = .returned (.int .i64 (sumS L)) ∧ Below w.heap.size w w' := by
  have hc := Clean_any D A c l w h hl
  go_enter Try.func14, Try.ntmps14
  go_wp2_with fail
  refine hc.mono ?_
  clear hc
  rintro e w1 ⟨v, L, rfl, h1, h2, h3, h4⟩
  obtain ⟨A9, c9, rfl, l9, m9⟩ := OwnC.form h1
  have hrd := OwnSp.rd h1
  have HB := Lib.hid (sum_bd h2.clean)
  have HR := Lib.hid h2
  clear h1 h2
  unfold maxLen at m9
  go_wp2_with fail
  go_loopw [3, 5, 9] (fun n s5 i wr => ∃ j : Nat, j ≤ L.length ∧ i = .int .i64 (j : Int) ∧ n = .int .i64 (sumS (L.take j)) ∧ Below w1.heap.size w1 wr) (fun _ _ i _ => L.length - (intOf i).toNat)
  case atStart => exact ⟨0, Nat.zero_le _, rfl, rfl, Below.refl _ _⟩
  case round =>
    obtain ⟨j, hj, rfl, rfl, bb⟩ := hrel
    by_cases hlt : j < L.length
    · have hb1 := HB.out j
      have hb2 := HB.out (j + 1)
      rw [sum_take' L j hlt] at hb2
      have HS := Lib.hid (sum_take' L j hlt)
      obtain ⟨ad, rfl, d0, d1⟩ := (hrd.below bb).at_ hlt
      have hc := (HR.out.clean |> fun hc => clean_mem hc _ (List.getElem_mem hlt))
      generalize sumS (L.take j) = S at *
      generalize hx : L[j] = x at *
      clear hx
      have hc : 0 ≤ x.1 ∧ x.1 < x.2 ∧ x.2 ≤ 1099511627776 := hc
      obtain ⟨c1, c2, c3⟩ := hc
      go_wp2_with fail
      go_roundw
      case rel => exact ⟨j + 1, by omega, by go_num, by rw [HS.out], bb.thenB' ((Below.refl _ _).alloc (Nat.le_refl _) _)⟩
      case measure => simp [intOf] <;> omega
    · obtain rfl : j = L.length := by omega
      have HT : Hid (sumS (L.take L.length) = sumS L) := by unfold Hid; rw [List.take_of_length_le (Nat.le_refl _)]
      go_wp2_with fail
      go_ret
      exact ⟨L, HR.out, by rw [HT.out] <;> rfl, h3.thenB' bb⟩
end Go.Proofs.Ytleanmdelphbpaa
