/- The document's put: a rising row with one more number. -/
import Derived.Test.YtcdodchjgadcoaaSp6
namespace Go.Proofs.Ytcdodchjgadcoaa
open Go.RowKit
set_option linter.unusedVariables false

abbrev Any1 : Nat → Prop := fun _ => True
theorem RdI.any {w : World} {D : Nat → Prop} {A : Option Addr} {l : List Int} (h : RdI w D A l) : RdI w Any1 A l := Rd.imp h (fun _ _ _ => trivial) (by decide)
theorem put_at {l : List Int} {n : Int} {j : Nat} (hj : j < l.length) (hlow : ∀ i (h : i < l.length), i < j → l[i] < clS n) (he : l[j] = clS n) : putP l n = l := by
  have hb : belowN (clS n) l = j := below_is _ _ _ (by omega) hlow (fun h => by omega)
  unfold putP
  rw [hb, List.getElem?_eq_getElem hj, he, if_pos rfl]
theorem put_new {l : List Int} {n : Int} {j : Nat} (hj : j ≤ l.length) (hlow : ∀ i (h : i < l.length), i < j → l[i] < clS n) (he : ∀ h : j < l.length, clS n < l[j]) : putP l n = l.take j ++ [clS n] ++ l.drop j := by
  have hb : belowN (clS n) l = j := below_is _ _ _ (by omega) hlow (fun h => by have := he h; omega)
  unfold putP
  rw [hb, if_neg]
  intro h
  obtain ⟨h1, h2⟩ := List.getElem?_eq_some_iff.1 h
  have := he h1
  omega

set_option maxHeartbeats 2000000 in
set_option maxRecDepth 100000 in
theorem rPut_any (A : Option Addr) (c : Nat) (l : List Int) (n : Int) (w : World) (h : RdI w Any1 A l) (hl : l.length ≤ c) (mx : c ≤ 9223372036854775807) (hL : l.length ≤ 10000) :
    Calls Try.prog 37 #[.slice A l.length c, .int .i64 n] w fun e w' => ∃ A' c', e = .returned (.slice A' (putP l n).length c') ∧ RdI w' Any1 A' (putP l n) ∧ (putP l n).length ≤ c' ∧ c' ≤ 9223372036854775807 ∧ Below w.heap.size w w' := by
  have HY := Lib.hid (fun (j : Nat) (hj : j < l.length) (hlow : ∀ i (h : i < l.length), i < j → l[i] < clS n) (he : l[j] = clS n) => put_at hj hlow he)
  have HX := Lib.hid (fun (j : Nat) (hj : j ≤ l.length) (hlow : ∀ i (h : i < l.length), i < j → l[i] < clS n) (he : ∀ h : j < l.length, clS n < l[j]) => put_new hj hlow he)
  have hm : clS n = min (max n 0) 1099511627776 := rfl
  generalize putP l n = q at *
  generalize clS n = m at *
  go_enter Try.func37, Try.ntmps37
  go_wp2_with fail
  rw [← hm]
  clear hm
  go_loopw [5] (fun i wr => ∃ j : Nat, j ≤ l.length ∧ i = .int .i64 (j : Int) ∧ Hid (∀ i (h : i < l.length), i < j → l[i] < m) ∧ w = wr) (fun i _ => l.length - (intOf i).toNat)
  case atStart => exact ⟨0, Nat.zero_le _, rfl, Lib.hid fun i _ h => absurd h (Nat.not_lt_zero _), rfl⟩
  case round =>
    obtain ⟨j, hj, rfl, HP, rfl⟩ := hrel
    have hq : j < l.length ∨ j = l.length := by omega
    by_cases hlt : j < l.length
    · obtain ⟨ad, rfl, _, hcell⟩ := h.at_ hlt
      have HT : Hid (l[j] < m → ∀ i (h : i < l.length), i < j + 1 → l[i] < m) := fun hz i hi hij => by
        rcases Nat.lt_or_eq_of_le (by omega : i ≤ j) with h1 | h1
        · exact HP.out i hi h1
        · subst h1; exact hz
      have HE : Hid (l[j] = m → q = l) := fun hz => HY.out j hlt HP.out hz
      have HG : Hid (m < l[j] → q = l.take j ++ [m] ++ l.drop j) := fun hz => HX.out j hj HP.out fun _ => hz
      generalize l[j] = z at *
      by_cases h1 : z < m
      · have HN : Hid (∀ i (h : i < l.length), i < j + 1 → l[i] < m) := Lib.hid (HT.out h1)
        clear HT HE HG
        go_wp2_with fail
        go_roundw
        case rel => exact ⟨j + 1, by omega, by go_num, HN, trivial⟩
        case measure => simp [intOf] <;> omega
      · by_cases h2 : z = m
        · have HN := Lib.hid (HE.out h2)
          have hb : (z == m) = true := by simp [h2]
          clear HT HE HG
          subst h2
          go_wp2_with fail
          go_ret
          exact ⟨some ad, c, by rw [HN.out] <;> rfl, by rw [HN.out]; exact h, by rw [HN.out]; exact hl, mx, Below.refl _ _⟩
        · have HN := Lib.hid (HG.out (by omega))
          have hb : (z == m) = false := by simp [h2]
          clear HT HE HG
          have r0 := h.take (k := j) hj
          have r3 := h.drop (k := j) (cap := c) hj hl
          have e1 : Hid (j = (l.take j).length) := by unfold Hid; rw [List.length_take]; omega
          have e3 : Hid (l.length - j = (l.drop j).length) := by unfold Hid; rw [List.length_drop]
          have b1000 : 10000 + 10000 + 10000 ≤ big := by unfold big; omega
          go_wp2_with first
            | (at_builtin
               refine wpList_appI rfl (.tmp 37) (.tmp 40) rfl w.heap.size _ [] rfl OwnI.nil _ _ j c (l.take j) rfl e1.out r0 (by have := e1.out; rw [List.length_nil]; omega) (Nat.le_refl _) ?_
               intro v3 w3 o3 x3
               rw [List.nil_append] at o3
               have b3 := x3.of_nil
               have bn := below_new w3 (.cells #[.int .i64 m] 3)
               have bx := b3.thenB' bn
               have o3b := o3.below bn)
            | (at_builtin
               refine wpList_appI rfl (.tmp 42) (.tmp 44) rfl w.heap.size v3 (l.take j) rfl o3b _ (some ⟨w3.heap.size, 0, none⟩) 1 1 [m] rfl rfl (rd_newI w3 m) (by have := e1.out; rw [List.length_singleton]; omega) bx.size ?_
               intro v4 w4 o4 x4
               have b4 := bx.trans (x4.below o3b (Nat.le_refl _) bx.size)
               have r3 := RdI.below r3 b4)
            | (at_builtin
               refine wpList_appI rfl (.tmp 46) (.tmp 49) rfl w.heap.size v4 (l.take j ++ [m]) rfl o4 _ _ (l.length - j) (c - j) (l.drop j) rfl e3.out r3 (by have := e1.out; have := e3.out; rw [List.length_append, List.length_singleton]; omega) b4.size ?_
               intro v5 w5 o5 x5
               have b5 := b4.trans (x5.below o4 (Nat.le_refl _) b4.size))
          go_ret
          rw [← HN.out] at o5
          obtain ⟨A5, c5, rfl, l5, m5⟩ := o5.form
          exact ⟨A5, c5, rfl, RdI.any o5.rd, l5, by unfold maxLen at m5; omega, b5⟩
    · have hjl : j = l.length := by omega
      have hlI : ¬ (j : Int) < (l.length : Int) := by omega
      have HN := Lib.hid (HX.out j hj HP.out fun h => absurd h hlt)
      clear hjl hq
      have r0 := h.take (k := j) hj
      have r3 := h.drop (k := j) (cap := c) hj hl
      have e1 : Hid (j = (l.take j).length) := by unfold Hid; rw [List.length_take]; omega
      have e3 : Hid (l.length - j = (l.drop j).length) := by unfold Hid; rw [List.length_drop]
      have b1000 : 10000 + 10000 + 10000 ≤ big := by unfold big; omega
      go_wp2_with first
        | (at_builtin
           refine wpList_appI rfl (.tmp 37) (.tmp 40) rfl w.heap.size _ [] rfl OwnI.nil _ _ j c (l.take j) rfl e1.out r0 (by have := e1.out; rw [List.length_nil]; omega) (Nat.le_refl _) ?_
           intro v3 w3 o3 x3
           rw [List.nil_append] at o3
           have b3 := x3.of_nil
           have bn := below_new w3 (.cells #[.int .i64 m] 3)
           have bx := b3.thenB' bn
           have o3b := o3.below bn)
        | (at_builtin
           refine wpList_appI rfl (.tmp 42) (.tmp 44) rfl w.heap.size v3 (l.take j) rfl o3b _ (some ⟨w3.heap.size, 0, none⟩) 1 1 [m] rfl rfl (rd_newI w3 m) (by have := e1.out; rw [List.length_singleton]; omega) bx.size ?_
           intro v4 w4 o4 x4
           have b4 := bx.trans (x4.below o3b (Nat.le_refl _) bx.size)
           have r3 := RdI.below r3 b4)
        | (at_builtin
           refine wpList_appI rfl (.tmp 46) (.tmp 49) rfl w.heap.size v4 (l.take j ++ [m]) rfl o4 _ _ (l.length - j) (c - j) (l.drop j) rfl e3.out r3 (by have := e1.out; have := e3.out; rw [List.length_append, List.length_singleton]; omega) b4.size ?_
           intro v5 w5 o5 x5
           have b5 := b4.trans (x5.below o4 (Nat.le_refl _) b4.size))
      go_ret
      rw [← HN.out] at o5
      obtain ⟨A5, c5, rfl, l5, m5⟩ := o5.form
      exact ⟨A5, c5, rfl, RdI.any o5.rd, l5, by unfold maxLen at m5; omega, b5⟩
end Go.Proofs.Ytcdodchjgadcoaa
