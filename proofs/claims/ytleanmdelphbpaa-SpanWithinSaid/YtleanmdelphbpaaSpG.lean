/- span.Has, the library's ContainsFunc and IndexFunc at rows of spans. -/
import Derived.Test.YtleanmdelphbpaaSpF
namespace Go.Proofs.Ytleanmdelphbpaa
open Go.RowKit
set_option linter.unusedVariables false

/-- Where the first one stands. -/
def Found (f : Sp → Bool) (l : List Sp) (w : World) (e : Ending) (w' : World) : Prop := ∃ i : Int, e = .returned (.int .i64 i) ∧ decide (0 ≤ i) = l.any f ∧ Below w.heap.size w w'
theorem any_take (f : Sp → Bool) (L : List Sp) (j : Nat) (h : j < L.length) : (L.take (j + 1)).any f = ((L.take j).any f || f L[j]) := by
  rw [List.take_succ_eq_append_getElem h, List.any_append]
  simp
set_option maxHeartbeats 1000000 in
set_option maxRecDepth 100000 in
theorem Index_spans (k : FuncId) (caps : Array Value) (f : Sp → Bool) (D : Nat → Prop) (A : Option Addr) (c : Nat) (l : List Sp) (w : World) (h : RdSp w D A l) (hl : l.length ≤ 1000000)
    (hent : ∀ (args : Array Value) (w : World), (callFunc k args).run Try.prog w = .ok (.enter k args) w)
    (hf : ∀ (s : Sp) (W : World), Below w.heap.size w W → Calls Try.prog k (#[.agg #[.int .i64 s.1, .int .i64 s.2]] ++ caps) W fun e W' => e = .returned (.bool (f s)) ∧ Below W.heap.size W W') :
    Calls Try.prog 35 #[.slice A l.length c, .func (.func k) #[] caps] w (Found f l w) := by
  go_enter Try.func35, Try.ntmps35
  go_wp2_with fail
  go_loopw [5, 8] (fun s5 i wr => ∃ j : Nat, j ≤ l.length ∧ i = .int .i64 (j : Int) ∧ (l.take j).any f = false ∧ Below w.heap.size w wr) (fun _ i _ => l.length - (intOf i).toNat)
  case atStart => exact ⟨0, Nat.zero_le _, rfl, rfl, Below.refl _ _⟩
  case round =>
    obtain ⟨j, hj, rfl, hp, bb⟩ := hrel
    have HP := Lib.hid hp
    clear hp
    by_cases hlt : j < l.length
    · obtain ⟨ad, rfl, d0, d1⟩ := (h.below bb).at_ hlt
      have HT := Lib.hid (any_take f l j hlt)
      have HA : Hid (f l[j] = true → l.any f = true) := fun hb => List.any_eq_true.2 ⟨_, List.getElem_mem hlt, hb⟩
      have hcl := hf l[j] wr bb
      generalize l[j] = s at *
      go_wp2_with fail
      refine hcl.mono ?_
      clear hcl
      rintro e w2 ⟨rfl, b2⟩
      cases hfs : f s
      · have HN : Hid ((l.take (j + 1)).any f = false) := by unfold Hid; rw [HT.out, HP.out, hfs]; rfl
        clear HA HT hfs
        go_wp2_with fail
        go_roundw
        case rel => exact ⟨j + 1, by omega, by go_num, HN.out, bb.thenB' b2⟩
        case measure => simp [intOf] <;> omega
      · have HN := Lib.hid (HA.out hfs)
        clear HA HT hfs
        go_wp2_with fail
        go_ret
        exact ⟨(j : Int), rfl, by rw [HN.out]; exact decide_eq_true (by omega), bb.thenB' b2⟩
    · obtain rfl : j = l.length := by omega
      have HN : Hid (l.any f = false) := by have := HP.out; rw [List.take_of_length_le (Nat.le_refl _)] at this; exact this
      go_wp2_with fail
      go_ret
      exact ⟨-1, rfl, by rw [HN.out]; rfl, bb⟩
theorem Contains_spans (k : FuncId) (caps : Array Value) (f : Sp → Bool) (D : Nat → Prop) (A : Option Addr) (c : Nat) (l : List Sp) (w : World) (h : RdSp w D A l) (hl : l.length ≤ 1000000)
    (hent : ∀ (args : Array Value) (w : World), (callFunc k args).run Try.prog w = .ok (.enter k args) w)
    (hf : ∀ (s : Sp) (W : World), Below w.heap.size w W → Calls Try.prog k (#[.agg #[.int .i64 s.1, .int .i64 s.2]] ++ caps) W fun e W' => e = .returned (.bool (f s)) ∧ Below W.heap.size W W') :
    Calls Try.prog 26 #[.slice A l.length c, .func (.func k) #[] caps] w fun e w' => e = .returned (.bool (l.any f)) ∧ Below w.heap.size w w' := by
  have hi := Index_spans k caps f D A c l w h hl hent hf
  clear hent hf
  go_enter Try.func26, Try.ntmps26
  go_wp2_with fail
  refine hi.mono ?_
  clear hi
  rintro e w2 ⟨i, rfl, hi, b2⟩
  have HI := Lib.hid hi
  clear hi
  go_wp2_with fail
  go_ret
  exact ⟨by rw [← HI.out] <;> rfl, b2⟩
def inS (n : Int) (s : Sp) : Bool := decide (s.1 ≤ n ∧ n < s.2)
theorem clH_any (s : Sp) (n : Int) (g : Nat) (T : TypeId) (W : World) (hB : Blk W g T #[.int .i64 n]) :
    Calls Try.prog 27 #[.agg #[.int .i64 s.1, .int .i64 s.2], .pointer (some ⟨g, 0, none⟩)] W fun e W' => e = .returned (.bool (inS n s)) ∧ Below W.heap.size W W' := by
  obtain ⟨x, y⟩ := s
  dsimp only
  have c0 := hB.cell 0
  simp at c0
  have hg := hB.lt
  by_cases h1 : x ≤ n
  · by_cases h2 : n < y
    · have HD : Hid (inS n (x, y) = true) := decide_eq_true ⟨h1, h2⟩
      go_enter Try.func27, Try.ntmps27
      go_wp2_with fail
      go_ret
      exact ⟨by rw [HD.out] <;> rfl, (Below.refl _ _).alloc (Nat.le_refl _) _⟩
    · have HD : Hid (inS n (x, y) = false) := decide_eq_false fun h => h2 h.2
      go_enter Try.func27, Try.ntmps27
      go_wp2_with fail
      go_ret
      exact ⟨by rw [HD.out] <;> rfl, (Below.refl _ _).alloc (Nat.le_refl _) _⟩
  · have HD : Hid (inS n (x, y) = false) := decide_eq_false fun h => h1 h.1
    go_enter Try.func27, Try.ntmps27
    go_wp2_with fail
    go_ret
    exact ⟨by rw [HD.out] <;> rfl, (Below.refl _ _).alloc (Nat.le_refl _) _⟩
set_option maxRecDepth 100000 in
theorem Has_any (D : Nat → Prop) (A : Option Addr) (c : Nat) (l : List Sp) (n : Int) (w : World) (h : RdSp w D A l) (hl : l.length ≤ 1000000) :
    Calls Try.prog 16 #[.slice A l.length c, .int .i64 n] w fun e w' => e = .returned (.bool (hasS l n)) ∧ Below w.heap.size w w' := by
  have bn := below_new w (.cells #[.int .i64 n] 3)
  by_cases h1 : 0 ≤ n
  · by_cases h2 : n < 1099511627776
    · have hc := Contains_spans 27 #[.pointer (some ⟨w.heap.size, 0, none⟩)] (inS n) D A c l (w.alloc (.cells #[.int .i64 n] 3)) (h.below bn) hl (enters_of Try.func27 (by kernel_rfl) rfl)
        (fun s W hW => clH_any s n w.heap.size 3 W ((Blk.new w 3 #[.int .i64 n]).below hW))
      have HF : Hid (hasS l n = l.any (inS n)) := by unfold Hid hasS; rw [decide_eq_true (show 0 ≤ n ∧ n < farS from ⟨h1, h2⟩), Bool.true_and]; rfl
      go_enter Try.func16, Try.ntmps16
      go_wp2_with fail
      refine hc.mono ?_
      clear hc
      rintro e w2 ⟨rfl, b2⟩
      have bb := bn.thenB' b2
      clear bn b2
      go_wp2_with fail
      go_ret
      exact ⟨by rw [HF.out] <;> rfl, bb⟩
    · have HF : Hid (hasS l n = false) := by unfold Hid hasS; rw [decide_eq_false (show ¬ (0 ≤ n ∧ n < farS) from fun h => h2 h.2), Bool.false_and]
      go_enter Try.func16, Try.ntmps16
      go_wp2_with fail
      go_ret
      exact ⟨by rw [HF.out] <;> rfl, bn⟩
  · have HF : Hid (hasS l n = false) := by unfold Hid hasS; rw [decide_eq_false (show ¬ (0 ≤ n ∧ n < farS) from fun h => h1 h.1), Bool.false_and]
    go_enter Try.func16, Try.ntmps16
    go_wp2_with fail
    go_ret
    exact ⟨by rw [HF.out] <;> rfl, bn⟩
end Go.Proofs.Ytleanmdelphbpaa
