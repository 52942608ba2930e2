import Derived.Test.YtmifmnpbkdjbaaaObj1
import Derived.Test.YtmifmnpbkdjbaaaBlks
import Derived.Shelf.Abstract
namespace Go.Proofs.Ytmifmnpbkdjbaaa
open Go.RowKit
set_option linter.unusedVariables false

theorem cutZ_def (l : List Int) : cutZ l = l.take (lastN (fun k => l.getD k 0) l.length) := rfl

set_option maxRecDepth 100000 in
theorem clean_any (D : Nat → Prop) (A : Option Addr) (c : Nat) (l : List Int) (w : World) (h : RdI w D A l) (hc : l.length ≤ c) (hm : c ≤ 9223372036854775807) :
    Calls Try.prog 33 #[.slice A l.length c] w fun e w' => e = .returned (.slice A (cutZ l).length (cutZ l).length) ∧ w = w' := by
  obtain ⟨f, hf⟩ : ∃ f, f = fun k => l.getD k 0 := ⟨_, rfl⟩
  have e : Hid ((cutZ l).length = lastN f l.length) := by
    unfold Hid
    rw [cutZ_def, List.length_take, ← hf]
    exact Nat.min_eq_left (lastN_le _ _)
  have HF : Hid (∀ k, (hk : k < l.length) → f k = l[k]) := fun k hk => by rw [hf]; exact getD_at l k hk
  clear hf
  go_enter Try.func33, Try.ntmps33
  go_wp2_with fail
  go_loopw [3] (fun n wr => ∃ j : Nat, j ≤ l.length ∧ n = .int .i64 (j : Int) ∧ lastN f j = lastN f l.length ∧ w = wr) (fun n _ => (intOf n).toNat)
  case atStart => exact ⟨l.length, Nat.le_refl _, rfl, rfl, rfl⟩
  case round =>
    obtain ⟨j, hj, rfl, hl, rfl⟩ := hrel
    have HL := Lib.hid hl
    clear hl
    by_cases h0 : j = 0
    · subst h0
      have HL2 : Hid (lastN f l.length = 0) := by unfold Hid; rw [← HL.out]; rfl
      go_wp2_with fail
      go_ret
      exact ⟨by rw [e.out, HL2.out] <;> rfl, rfl⟩
    · obtain ⟨i, rfl⟩ : ∃ i, j = i + 1 := ⟨j - 1, by omega⟩
      have hi : i < l.length := by omega
      obtain ⟨ad, rfl, _, hcell⟩ := h.at_ hi
      have hfi := HF.out i hi
      have hsub : ((i + 1 : Nat) : Int) - 1 = (i : Int) := by omega
      generalize l[i] = z at *
      by_cases hz : z = 0
      · have HL2 : Hid (lastN f i = lastN f l.length) := by
          unfold Hid
          rw [← HL.out]
          conv => rhs; unfold lastN
          rw [hfi, if_pos hz]
        subst hz
        clear hfi
        go_wp2_with fail
        go_roundw
        case rel => exact ⟨i, by omega, by first | rfl | go_num, HL2.out, trivial⟩
        case measure => simp [intOf] <;> omega
      · have HL2 : Hid (lastN f l.length = i + 1) := by
          unfold Hid
          rw [← HL.out]
          unfold lastN
          rw [hfi, if_neg hz]
        have hzb : (z == 0) = false := by simp [hz]
        clear hfi
        go_wp2_with fail
        go_ret
        exact ⟨by rw [e.out, HL2.out] <;> rfl, rfl⟩

set_option maxRecDepth 100000 in
/-- each, of a function value that reads only. -/
theorem each_any (n : Nat) (k : FuncId) (caps : Array Value) (f : Nat → Int) (w : World) (hn : n ≤ big) (hent : ∀ (args : Array Value) (w : World), (callFunc k args).run Try.prog w = .ok (.enter k args) w)
    (hf : ∀ i, i < n → ∀ W, Below w.heap.size w W → Calls Try.prog k (#[.int .i64 (i : Int)] ++ caps) W fun e W' => e = .returned (.int .i64 (f i)) ∧ W = W') :
    Calls Try.prog 34 #[.int .i64 (n : Int), .func (.func k) #[] caps] w fun e w' => ∃ g, e = .returned (.slice (some ⟨g, 0, none⟩) n n) ∧ RowI w' w.heap.size (some ⟨g, 0, none⟩) ((List.range n).map f) ∧ Below w.heap.size w w' := by
  have hn63 : n ≤ 9223372036854775807 := by unfold big at hn; omega
  go_enter Try.func34, Try.ntmps34
  go_wp2_with (at_make; refine wpList_makeI rfl (.tmp 7) (.tmp 7) rfl w.heap.size n rfl rfl hn (Nat.le_refl _) ?_; intro w1 o1 b1)
  have r1 := RowI.of_own o1
  clear o1
  go_loopw [6, 10] (fun i6 i wr => ∃ j : Nat, j ≤ n ∧ i = .int .i64 (j : Int) ∧ RowI wr w.heap.size (some ⟨w.heap.size, 0, none⟩) ((List.range j).map f ++ List.replicate (n - j) 0) ∧ Below w.heap.size w wr) (fun _ i _ => n - (intOf i).toNat)
  case atStart => exact ⟨0, Nat.zero_le _, rfl, by simpa using r1, b1⟩
  case round =>
    clear r1
    obtain ⟨j, hj, rfl, r, bb⟩ := hrel
    by_cases hlt : j < n
    · have hlen : ((List.range j).map f ++ List.replicate (n - j) 0).length = n := by simp; omega
      obtain ⟨g, hg, _, hgl, hcell, hfr, hst⟩ := r.store (k := j) (by omega)
      injection hg with hg
      injection hg with hg
      subst hg
      have hset : Hid ((((List.range j).map f ++ List.replicate (n - j) (0 : Int)).set j (f j)) = (List.range (j + 1)).map f ++ List.replicate (n - (j + 1)) 0) := by
        unfold Hid
        rw [List.set_append_right _ _ (by simp), List.length_map, List.length_range, Nat.sub_self, show n - j = (n - (j + 1)) + 1 by omega, List.replicate_succ, List.set_cons_zero, List.range_succ, List.map_append, List.append_assoc]
        rfl
      have hcall := hf j hlt wr bb
      clear hf
      go_wp2_with fail
      refine hcall.mono ?_
      rintro e w2 ⟨rfl, rfl⟩
      go_wp2_with fail
      have r2 := hst (f j)
      rw [hset.out] at r2
      have b2 := below_store (k := j) bb (Nat.le_refl _) (.int .i64 (f j))
      go_roundw
      case rel => exact ⟨j + 1, by omega, by go_num, r2, b2⟩
      case measure => simp [intOf]; omega
    · obtain rfl : j = n := by omega
      rw [Nat.sub_self, List.replicate_zero, List.append_nil] at r
      go_wp2_with fail
      go_ret
      exact ⟨_, rfl, r, bb⟩
end Go.Proofs.Ytmifmnpbkdjbaaa
