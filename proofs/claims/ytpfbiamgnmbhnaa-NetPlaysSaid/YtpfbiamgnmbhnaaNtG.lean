/- NetFull. -/
import Derived.Test.YtpfbiamgnmbhnaaNtF
namespace Go.Proofs.Ytpfbiamgnmbhnaa
open Go.RowKit
set_option linter.unusedVariables false
set_option maxRecDepth 100000

theorem put_yes {S : List Msg} {a b : Int} {x : List UInt8} (h : EndP a ∧ EndP b) (hl : S.length ≤ 1000) : (putP S a b x).2 = decide (S.length + 1 ≤ 1000) ∧ (putP S a b x).1.length = min (S.length + 1) 1000 ∧ ∀ e ∈ (putP S a b x).1, e ∈ S ∨ e = ((a, b), x) := by
  unfold putP
  by_cases h3 : S.length < 1000
  · rw [if_pos ⟨h.1, h.2, h3⟩]
    refine ⟨(decide_eq_true (by omega)).symm, ?_, fun e he => ?_⟩
    · show (S ++ _).length = _
      rw [List.length_append]
      simp
      omega
    · rcases List.mem_append.1 he with he | he
      · exact .inl he
      · exact .inr (by simpa using he)
  · rw [if_neg (fun x => h3 x.2.2)]
    refine ⟨(decide_eq_false (by omega)).symm, ?_, fun e he => .inl he⟩
    show S.length = _
    omega
theorem bag_all {S : List Msg} {k : Int × Int} (h : ∀ e ∈ S, e.1 = k) : (bagN S k).length = S.length := by
  unfold bagN
  rw [List.length_map, List.filter_eq_self.2 fun e he => by simpa using h e he]
theorem place_zero {S : List Msg} {k : Int × Int} (h : ∀ e ∈ S, e.1 = k) (h0 : 0 < S.length) : placeN k S 0 = some 0 := by
  match S, h0 with
  | e :: r, _ =>
    unfold placeN
    rw [if_pos (h e (List.mem_cons_self ..))]
/-- What is under way behind i rounds. -/
structure FullS (S : List Msg) (k : Int × Int) (n : Nat) : Prop where
  len : S.length = min n 1000
  key : ∀ e ∈ S, e.1 = k
  few : ∀ e ∈ S, e.2.length ≤ 1
theorem FullS.put {S : List Msg} {a b : Int} {n : Nat} (h : FullS S (a, b) n) (hE : EndP a ∧ EndP b) (x : List UInt8) (hx : x.length ≤ 1) : FullS (putP S a b x).1 (a, b) (n + 1) ∧ (putP S a b x).2 = decide (n + 1 ≤ 1000) := by
  have hl := h.len
  obtain ⟨h1, h2, h3⟩ := put_yes (S := S) (x := x) hE (by omega)
  refine ⟨⟨by rw [h2]; omega, fun e he => ?_, fun e he => ?_⟩, ?_⟩
  · rcases h3 e he with h4 | rfl
    · exact h.key e h4
    · rfl
  · rcases h3 e he with h4 | rfl
    · exact h.few e h4
    · exact hx
  · rw [h1]
    by_cases hn : n + 1 ≤ 1000
    · rw [decide_eq_true hn, decide_eq_true (by omega)]
    · rw [decide_eq_false hn, decide_eq_false (by omega)]
theorem FullS.double {S : List Msg} {a b : Int} {n : Nat} (h : FullS S (a, b) n) (hE : EndP a ∧ EndP b) (hn : 0 < n) : FullS (doubleP S a b 0).1 (a, b) (n + 1) ∧ (doubleP S a b 0).2 = decide (n + 1 ≤ 1000) := by
  have hl := h.len
  have e : doubleP S a b 0 = putP S a b (S.getD 0 ((0, 0), [])).2 := by
    unfold doubleP atP
    rw [if_pos (by omega), show (0 : Int).toNat = 0 from rfl, place_zero h.key (by omega)]
  rw [e]
  refine h.put hE _ ?_
  have h0 : 0 < S.length := by omega
  rw [List.getD_eq_getElem?_getD, List.getElem?_eq_getElem h0]
  exact h.few _ (List.getElem_mem h0)
theorem FullS.take {S : List Msg} {a b : Int} (h : FullS S (a, b) 1101) : (takeP S a b 0).2.2 = true ∧ (takeP S a b 0).1.length = 999 := by
  have hl := h.len
  unfold takeP atP
  rw [if_pos (by omega), show (0 : Int).toNat = 0 from rfl, place_zero h.key (by omega)]
  refine ⟨rfl, ?_⟩
  show (S.eraseIdx 0).length = 999
  rw [List.length_eraseIdx_of_lt (by omega)]
  omega
set_option maxHeartbeats 8000000 in
theorem full_walk (W : World) (a0 : Int) (i0 : I64 a0) (a1 : Int) (i1 : I64 a1) (a2 : Bool) :
    Calls Try.prog 5 #[.int .i64 a0, .int .i64 a1, .bool a2] W fun e w' => e = .returned (.bool true) ∧ Below W.heap.size W w' := by
  have haw := awake15_any W
  by_cases hE : EndP a0 ∧ EndP a1
  · have hb := hE
    unfold EndP at hb
    obtain ⟨⟨q1, q2⟩, q3, q4⟩ := hb
    go_enter Try.func5, Try.ntmps5
    go_wp2_with fail
    refine haw.mono ?_
    clear haw
    rintro e w1 ⟨rfl, b1⟩
    have hnew := New_any w1
    go_wp2_with fail
    refine hnew.mono ?_
    clear hnew
    rintro e w2 ⟨g, rfl, hV, b2⟩
    have bb := b1.thenB' b2
    have hV := hV.low b1.size
    clear b1 b2
    have hS : FullS [] (a0, a1) 0 := ⟨rfl, by simp, by simp⟩
    obtain ⟨hS1, hp2⟩ := hS.put hE [] (by decide)
    have hp := Put_any _ g [] a0 a1 (fun _ => True) none 0 [] w2 hV bb.size RdB.nil (by decide)
    rw [hp2] at hp
    have hp : Calls Try.prog 14 #[.pointer (some ⟨g, 0, none⟩), .int .i64 a0, .int .i64 a1, .slice none 0 0] w2 fun e w' => e = .returned (.bool true) ∧ NetV w' W.heap.size g (putP [] a0 a1 []).1 ∧ NMod W.heap.size w2 w' := hp
    generalize (putP [] a0 a1 []).1 = S1 at *
    clear hV hS
    go_wp2_with fail
    refine hp.mono ?_
    clear hp
    rintro e w3 ⟨rfl, hV, m3⟩
    have bb := bb.trans (m3.below bb.size)
    clear m3
    go_wp2_with fail
    go_loopw [10, 11] (fun s10 s11 wr => ∃ (n : Nat) (S : List Msg), s10 = .int .i64 (n : Int) ∧ n ≤ 1100 ∧ Hid (FullS S (a0, a1) (n + 1)) ∧ NetV wr W.heap.size g S ∧ Below W.heap.size W wr) (fun s10 _ _ => 1100 - (intOf s10).toNat)
    case atStart => exact ⟨0, S1, rfl, by omega, Lib.hid hS1, hV, bb⟩
    case round =>
      clear hV bb hS1 hp2
      obtain ⟨n, S, rfl, hn, HS, hV, bb⟩ := hrel
      have hfs := HS.out
      by_cases hlt : n < 1100
      · have hcmp : decide ((n : Int) + 2 ≤ 1000) = decide (n + 1 + 1 ≤ 1000) := by
          by_cases h : n + 1 + 1 ≤ 1000
          · rw [decide_eq_true h, decide_eq_true (by omega)]
          · rw [decide_eq_false h, decide_eq_false (by omega)]
        cases a2
        · obtain ⟨hS2, hp2⟩ := hfs.put hE [1] (by decide)
          have bn := below_new wr (.cells #[.int .u8 1] 5)
          have hr := rd_newB wr 1 1 rfl
          have hp := Put_any _ g S a0 a1 _ _ 1 [1] _ (hV.below bn) (bb.thenB bn bb.size).size hr (by decide)
          rw [hp2, ← hcmp] at hp
          have hp : Calls Try.prog 14 #[.pointer (some ⟨g, 0, none⟩), .int .i64 a0, .int .i64 a1, .slice (some ⟨wr.heap.size, 0, none⟩) 1 1] (wr.alloc (.cells #[.int .u8 1] 5)) fun e w' => e = .returned (.bool (decide ((n : Int) + 2 ≤ 1000))) ∧ NetV w' W.heap.size g (putP S a0 a1 [1]).1 ∧ NMod W.heap.size (wr.alloc (.cells #[.int .u8 1] 5)) w' := hp
          have HS2 := Lib.hid hS2
          generalize (putP S a0 a1 [1]).1 = S2 at *
          have b4 := bb.thenB bn bb.size
          clear hV hr hfs HS hS2 bn bb
          go_wp2_with fail
          refine hp.mono ?_
          clear hp
          rintro e w4 ⟨rfl, hV, m4⟩
          have bb := b4.trans (m4.below b4.size)
          clear m4
          go_wp2_with fail
          go_roundw
          case rel => exact ⟨n + 1, S2, by simp, hlt, HS2, hV, bb⟩
          case measure => simp only [intOf]; omega
        · obtain ⟨hS2, hp2⟩ := hfs.double hE (by omega)
          have hp := Double_any _ g S a0 a1 0 wr hV bb.size (fun e he => Nat.le_trans (hfs.few e he) (by omega))
          rw [hp2, ← hcmp] at hp
          have HS2 := Lib.hid hS2
          generalize (doubleP S a0 a1 0).1 = S2 at *
          clear hV hfs HS hS2
          go_wp2_with fail
          refine hp.mono ?_
          clear hp
          rintro e w4 ⟨rfl, hV, m4⟩
          have bb := bb.trans (m4.below bb.size)
          clear m4
          go_wp2_with fail
          go_roundw
          case rel => exact ⟨n + 1, S2, by simp, hlt, HS2, hV, bb⟩
          case measure => simp only [intOf]; omega
      · obtain rfl : n = 1100 := by omega
        obtain ⟨t1, t2⟩ := hfs.take
        have ht := Take_any _ g S a0 a1 0 wr hV bb.size
        rw [t1] at ht
        clear hV hfs HS
        go_wp2_with fail
        refine ht.mono ?_
        clear ht
        rintro e w4 ⟨v4, rfl, _, hV, m4⟩
        have bb := bb.trans (m4.below bb.size)
        clear m4
        have hT := Total_any _ g _ w4 hV
        rw [t2] at hT
        clear hV
        go_wp2_with fail
        refine hT.mono ?_
        rintro e w5 ⟨rfl, rfl⟩
        go_wp2_with fail
        go_ret
        exact ⟨rfl, bb⟩
  · have hp0 : putP [] a0 a1 [] = ([], false) := if_neg fun x => hE ⟨x.1, x.2.1⟩
    have ht0 : takeP [] a0 a1 0 = ([], [], false) := rfl
    by_cases q1 : 0 ≤ a0
    · by_cases q2 : a0 ≤ 8
      · by_cases q3 : 0 ≤ a1
        · have q4 : ¬ a1 ≤ 8 := fun h => hE ⟨⟨q1, q2⟩, q3, h⟩
          have d4 : decide (a1 ≤ 8) = false := decide_eq_false q4
          go_enter Try.func5, Try.ntmps5
          go_wp2_with fail
          refine haw.mono ?_
          clear haw
          rintro e w1 ⟨rfl, b1⟩
          have hnew := New_any w1
          go_wp2_with fail
          refine hnew.mono ?_
          clear hnew
          rintro e w2 ⟨g, rfl, hV, b2⟩
          have bb := b1.thenB' b2
          have hV := hV.low b1.size
          clear b1 b2
          have hp := Put_any _ g [] a0 a1 (fun _ => True) none 0 [] w2 hV bb.size RdB.nil (by decide)
          rw [hp0] at hp
          have hp : Calls Try.prog 14 #[.pointer (some ⟨g, 0, none⟩), .int .i64 a0, .int .i64 a1, .slice none 0 0] w2 fun e w' => e = .returned (.bool false) ∧ NetV w' W.heap.size g [] ∧ NMod W.heap.size w2 w' := hp
          clear hV
          go_wp2_with fail
          refine hp.mono ?_
          clear hp
          rintro e w3 ⟨rfl, hV, m3⟩
          have bb := bb.trans (m3.below bb.size)
          clear m3
          go_wp2_with fail
          refine wp_loop_rounds 1 ?_
          rw [rounds_succ]
          have ht := Take_any _ g [] a0 a1 0 w3 hV bb.size
          rw [ht0] at ht
          go_wp2_with fail
          refine ht.mono ?_
          clear ht hV
          rintro e w4 ⟨v4, rfl, _, hV, m4⟩
          have bb := bb.trans (m4.below bb.size)
          clear m4
          have hT := Total_any _ g _ w4 hV
          have hT : Calls Try.prog 10 #[.pointer (some ⟨g, 0, none⟩)] w4 fun e w' => e = .returned (.int .i64 0) ∧ w4 = w' := hT
          clear hV
          go_wp2_with fail
          refine hT.mono ?_
          rintro e w5 ⟨rfl, rfl⟩
          go_wp2_with fail
          go_ret
          exact ⟨rfl, bb⟩
        · have d3 : decide (0 ≤ a1) = false := decide_eq_false q3
          go_enter Try.func5, Try.ntmps5
          go_wp2_with fail
          refine haw.mono ?_
          clear haw
          rintro e w1 ⟨rfl, b1⟩
          have hnew := New_any w1
          go_wp2_with fail
          refine hnew.mono ?_
          clear hnew
          rintro e w2 ⟨g, rfl, hV, b2⟩
          have bb := b1.thenB' b2
          have hV := hV.low b1.size
          clear b1 b2
          have hp := Put_any _ g [] a0 a1 (fun _ => True) none 0 [] w2 hV bb.size RdB.nil (by decide)
          rw [hp0] at hp
          have hp : Calls Try.prog 14 #[.pointer (some ⟨g, 0, none⟩), .int .i64 a0, .int .i64 a1, .slice none 0 0] w2 fun e w' => e = .returned (.bool false) ∧ NetV w' W.heap.size g [] ∧ NMod W.heap.size w2 w' := hp
          clear hV
          go_wp2_with fail
          refine hp.mono ?_
          clear hp
          rintro e w3 ⟨rfl, hV, m3⟩
          have bb := bb.trans (m3.below bb.size)
          clear m3
          go_wp2_with fail
          refine wp_loop_rounds 1 ?_
          rw [rounds_succ]
          have ht := Take_any _ g [] a0 a1 0 w3 hV bb.size
          rw [ht0] at ht
          go_wp2_with fail
          refine ht.mono ?_
          clear ht hV
          rintro e w4 ⟨v4, rfl, _, hV, m4⟩
          have bb := bb.trans (m4.below bb.size)
          clear m4
          have hT := Total_any _ g _ w4 hV
          have hT : Calls Try.prog 10 #[.pointer (some ⟨g, 0, none⟩)] w4 fun e w' => e = .returned (.int .i64 0) ∧ w4 = w' := hT
          clear hV
          go_wp2_with fail
          refine hT.mono ?_
          rintro e w5 ⟨rfl, rfl⟩
          go_wp2_with fail
          go_ret
          exact ⟨rfl, bb⟩
      · have d2 : decide (a0 ≤ 8) = false := decide_eq_false q2
        go_enter Try.func5, Try.ntmps5
        go_wp2_with fail
        refine haw.mono ?_
        clear haw
        rintro e w1 ⟨rfl, b1⟩
        have hnew := New_any w1
        go_wp2_with fail
        refine hnew.mono ?_
        clear hnew
        rintro e w2 ⟨g, rfl, hV, b2⟩
        have bb := b1.thenB' b2
        have hV := hV.low b1.size
        clear b1 b2
        have hp := Put_any _ g [] a0 a1 (fun _ => True) none 0 [] w2 hV bb.size RdB.nil (by decide)
        rw [hp0] at hp
        have hp : Calls Try.prog 14 #[.pointer (some ⟨g, 0, none⟩), .int .i64 a0, .int .i64 a1, .slice none 0 0] w2 fun e w' => e = .returned (.bool false) ∧ NetV w' W.heap.size g [] ∧ NMod W.heap.size w2 w' := hp
        clear hV
        go_wp2_with fail
        refine hp.mono ?_
        clear hp
        rintro e w3 ⟨rfl, hV, m3⟩
        have bb := bb.trans (m3.below bb.size)
        clear m3
        go_wp2_with fail
        refine wp_loop_rounds 1 ?_
        rw [rounds_succ]
        have ht := Take_any _ g [] a0 a1 0 w3 hV bb.size
        rw [ht0] at ht
        go_wp2_with fail
        refine ht.mono ?_
        clear ht hV
        rintro e w4 ⟨v4, rfl, _, hV, m4⟩
        have bb := bb.trans (m4.below bb.size)
        clear m4
        have hT := Total_any _ g _ w4 hV
        have hT : Calls Try.prog 10 #[.pointer (some ⟨g, 0, none⟩)] w4 fun e w' => e = .returned (.int .i64 0) ∧ w4 = w' := hT
        clear hV
        go_wp2_with fail
        refine hT.mono ?_
        rintro e w5 ⟨rfl, rfl⟩
        go_wp2_with fail
        go_ret
        exact ⟨rfl, bb⟩
    · have d1 : decide (0 ≤ a0) = false := decide_eq_false q1
      go_enter Try.func5, Try.ntmps5
      go_wp2_with fail
      refine haw.mono ?_
      clear haw
      rintro e w1 ⟨rfl, b1⟩
      have hnew := New_any w1
      go_wp2_with fail
      refine hnew.mono ?_
      clear hnew
      rintro e w2 ⟨g, rfl, hV, b2⟩
      have bb := b1.thenB' b2
      have hV := hV.low b1.size
      clear b1 b2
      have hp := Put_any _ g [] a0 a1 (fun _ => True) none 0 [] w2 hV bb.size RdB.nil (by decide)
      rw [hp0] at hp
      have hp : Calls Try.prog 14 #[.pointer (some ⟨g, 0, none⟩), .int .i64 a0, .int .i64 a1, .slice none 0 0] w2 fun e w' => e = .returned (.bool false) ∧ NetV w' W.heap.size g [] ∧ NMod W.heap.size w2 w' := hp
      clear hV
      go_wp2_with fail
      refine hp.mono ?_
      clear hp
      rintro e w3 ⟨rfl, hV, m3⟩
      have bb := bb.trans (m3.below bb.size)
      clear m3
      go_wp2_with fail
      refine wp_loop_rounds 1 ?_
      rw [rounds_succ]
      have ht := Take_any _ g [] a0 a1 0 w3 hV bb.size
      rw [ht0] at ht
      go_wp2_with fail
      refine ht.mono ?_
      clear ht hV
      rintro e w4 ⟨v4, rfl, _, hV, m4⟩
      have bb := bb.trans (m4.below bb.size)
      clear m4
      have hT := Total_any _ g _ w4 hV
      have hT : Calls Try.prog 10 #[.pointer (some ⟨g, 0, none⟩)] w4 fun e w' => e = .returned (.int .i64 0) ∧ w4 = w' := hT
      clear hV
      go_wp2_with fail
      refine hT.mono ?_
      rintro e w5 ⟨rfl, rfl⟩
      go_wp2_with fail
      go_ret
      exact ⟨rfl, bb⟩
end Go.Proofs.Ytpfbiamgnmbhnaa
