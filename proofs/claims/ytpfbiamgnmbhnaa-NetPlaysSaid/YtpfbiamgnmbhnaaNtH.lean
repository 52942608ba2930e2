/- NetApart. -/
import Derived.Test.YtpfbiamgnmbhnaaNtI
import Derived.Deep.Cut
import Derived.Deep.CutBlock
import Derived.Deep.CutRange
namespace Go.Proofs.Ytpfbiamgnmbhnaa
open Go.RowKit
set_option linter.unusedVariables false
set_option maxRecDepth 100000

/-! ### what a step does to other links -/
structure StepOk (S S' : List Msg) (k : Int × Int) : Prop where
  oth : ∀ j, j ≠ k → bagN S' j = bagN S j
  sz : (∀ e ∈ S, e.2.length ≤ 1000) → ∀ e ∈ S', e.2.length ≤ 1000
theorem StepOk.refl (S : List Msg) (k : Int × Int) : StepOk S S k := ⟨fun _ _ => rfl, id⟩
theorem put_ok (S : List Msg) (a b : Int) (x : List UInt8) (hx : x.length ≤ 1000) : StepOk S (putP S a b x).1 (a, b) := by
  unfold putP
  split
  · refine ⟨fun j hj => by rw [bagN_app, if_neg hj], fun h e he => ?_⟩
    rcases List.mem_append.1 he with he | he
    · exact h e he
    · obtain rfl : e = ((a, b), x) := by simpa using he
      exact hx
  · exact StepOk.refl _ _
theorem atP_some {S : List Msg} {a b i : Int} {p : Nat} (h : atP S a b i = some p) : ∃ n : Nat, i = n ∧ n < (bagN S (a, b)).length ∧ placeN (a, b) S n = some p := by
  unfold atP at h
  split at h
  · rename_i h0
    refine ⟨i.toNat, by omega, ?_, h⟩
    rcases Nat.lt_or_ge i.toNat (bagN S (a, b)).length with h1 | h1
    · exact h1
    · rw [place_none _ _ _ h1] at h; cases h
  · cases h
theorem take_ok (S : List Msg) (a b i : Int) : StepOk S (takeP S a b i).1 (a, b) := by
  unfold takeP
  cases h : atP S a b i with
  | none => exact StepOk.refl _ _
  | some p =>
    obtain ⟨n, rfl, h1, h2⟩ := atP_some h
    obtain ⟨q, e, p1, p2, p3, p4, p5, p6⟩ := place_some (a, b) S n h1
    rw [h2] at p1
    injection p1 with p1
    subst p1
    exact ⟨p6, fun hs e he => hs e ((List.eraseIdx_sublist _ _).subset he)⟩
theorem double_ok (S : List Msg) (a b i : Int) (hs : ∀ e ∈ S, e.2.length ≤ 1000) : StepOk S (doubleP S a b i).1 (a, b) := by
  unfold doubleP
  cases h : atP S a b i with
  | none => exact StepOk.refl _ _
  | some p =>
    have hlt := atP_lt h
    refine put_ok S a b _ ?_
    rw [List.getD_eq_getElem?_getD, List.getElem?_eq_getElem hlt]
    exact hs _ (List.getElem_mem hlt)

/-! ### other -/
def backP (L : List AV) : Bool := L.any fun s => decide (s.fr = 6) && decide (s.tt = 5)
theorem back_step (L : List AV) (j : Nat) (hj : j < L.length) : backP (L.drop j) = ((decide (L[j].fr = 6) && decide (L[j].tt = 5)) || backP (L.drop (j + 1))) := by
  rw [List.drop_eq_getElem_cons hj]
  rfl
theorem takeL {α : Type} {C : α → List Value} {w : World} {D : Nat → Prop} {k : Nat} {A : Option Addr} {L : List α} (h : RdL w D k C A L) (n : Nat) : RdL w D k C A (L.take n) := fun hn => by
  obtain ⟨ad, e, d, hc⟩ := h (by rw [List.length_take] at hn; omega)
  refine ⟨ad, e, d, fun i s hs j v hv => hc i s ?_ j v hv⟩
  rw [List.getElem?_take] at hs
  split at hs
  · exact hs
  · cases hs
set_option maxHeartbeats 4000000 in
theorem other_any (D : Nat → Prop) (A : Option Addr) (n c : Nat) (L : List AV) (w : World) (hr : RdL w D 5 actC A L) (hn : n = L.length) (hl : L.length ≤ 1000000) :
    Calls Try.prog 17 #[.slice A n c] w fun e w' => e = .returned (.bool (backP L)) ∧ w = w' := by
  subst hn
  go_enter Try.func17, Try.ntmps17
  go_wp2_with fail
  go_loopw [3] (fun s3 wr => ∃ (j : Nat), s3 = .int .i64 (j : Int) ∧ j ≤ L.length ∧ Hid (backP (L.drop j) = backP L) ∧ wr = w) (fun s3 _ => L.length - (intOf s3).toNat)
  case atStart => exact ⟨0, rfl, Nat.zero_le _, Lib.hid rfl, rfl⟩
  case round =>
    obtain ⟨j, rfl, hj, HP, rfl⟩ := hrel
    by_cases hlt : j < L.length
    · obtain ⟨ad, rfl, _, c1, c2, _, _⟩ := hr.act hlt
      have HS := Lib.hid (back_step L j hlt)
      generalize L[j] = s at *
      obtain ⟨sk, sf, st, si, sA, sb, sc⟩ := s
      simp only at c1 c2
      by_cases h1 : sf = 6
      · by_cases h2 : st = 5
        · subst h1 h2
          have HE : Hid (backP L = true) := Lib.hid (by rw [← HP.out, HS.out]; rfl)
          clear HS HP
          go_wp2_with fail
          go_ret
          exact ⟨by rw [HE.out]; rfl, rfl⟩
        · have HE : Hid (backP (L.drop (j + 1)) = backP L) := Lib.hid (by rw [← HP.out, HS.out]; simp [h2])
          clear HS HP
          go_wp2_with fail
          go_roundw
          case rel => exact ⟨j + 1, by simp, hlt, HE, trivial⟩
          case measure => simp only [intOf]; omega
      · have HE : Hid (backP (L.drop (j + 1)) = backP L) := Lib.hid (by rw [← HP.out, HS.out]; simp [h1])
        have hd : decide (sf = 6) = false := decide_eq_false h1
        clear HS HP c2
        go_wp2_with fail
        go_roundw
        case rel => exact ⟨j + 1, by simp, hlt, HE, trivial⟩
        case measure => simp only [intOf]; omega
    · obtain rfl : j = L.length := by omega
      have HE : Hid (backP L = false) := Lib.hid (by rw [← HP.out, List.drop_length]; rfl)
      clear HP
      go_wp2_with fail
      go_ret
      exact ⟨by rw [HE.out]; rfl, rfl⟩
theorem back_take {L : List AV} {j i : Nat} (hj : j < L.length) (hi : j ≤ i) (h1 : L[j].fr = 6) (h2 : L[j].tt = 5) : backP (L.take (i + 1)) = true := by
  unfold backP
  rw [List.any_eq_true]
  refine ⟨L[j], List.mem_take_iff_getElem.2 ⟨j, by omega, rfl⟩, by simp [h1, h2]⟩

/-- What holds between two rounds: the two that were put first, and who may have put on the link back. -/
structure Apart (L : List AV) (b : List UInt8) (i : Nat) (S : List Msg) : Prop where
  two : bagN S (5, 6) = [b, [1]]
  back : bagN S (6, 5) ≠ [] → ∃ j, ∃ h : j < L.length, j < i ∧ L[j].fr = 6 ∧ L[j].tt = 5
  sz : ∀ e ∈ S, e.2.length ≤ 1000
theorem Apart.more {L : List AV} {b : List UInt8} {i : Nat} {S : List Msg} (h : Apart L b i S) : Apart L b (i + 1) S := ⟨h.two, fun hb => by obtain ⟨j, h1, h2, h3⟩ := h.back hb; exact ⟨j, h1, by omega, h3⟩, h.sz⟩
theorem Apart.step {L : List AV} {b : List UInt8} {i : Nat} {S S' : List Msg} (h : Apart L b i S) (hi : i < L.length) (hs : StepOk S S' (L[i].fr, L[i].tt)) (hne : ¬ (L[i].fr = 5 ∧ L[i].tt = 6)) : Apart L b (i + 1) S' where
  two := by
    rw [hs.oth _ fun e => hne (by injection e with e1 e2; exact ⟨e1.symm, e2.symm⟩)]
    exact h.two
  back hb := by
    by_cases hk : L[i].fr = 6 ∧ L[i].tt = 5
    · exact ⟨i, hi, by omega, hk.1, hk.2⟩
    · rw [hs.oth _ fun e => hk (by injection e with e1 e2; exact ⟨e1.symm, e2.symm⟩)] at hb
      obtain ⟨j, h1, h2, h3⟩ := h.back hb
      exact ⟨j, h1, by omega, h3⟩
  sz := hs.sz h.sz

/-- The first of a link is taken. -/
theorem take_first {S : List Msg} {a b : Int} {x : List UInt8} {r : List (List UInt8)} (h : bagN S (a, b) = x :: r) : (takeP S a b 0).2 = (x, true) ∧ bagN (takeP S a b 0).1 (a, b) = r := by
  obtain ⟨q, e, p1, p2, p3, p4, p5, p6⟩ := place_some (a, b) S 0 (by rw [h]; exact Nat.succ_pos _)
  have e0 : takeP S a b 0 = (S.eraseIdx q, e.2, true) := by
    unfold takeP atP
    rw [if_pos (by omega), show (0 : Int).toNat = 0 from rfl, p1]
    simp only [List.getD_eq_getElem?_getD, p2, Option.getD_some]
  rw [e0]
  rw [h] at p4 p5
  refine ⟨?_, by rw [p5]; rfl⟩
  have : x = e.2 := by simpa using p4
  rw [this]
def skipP (s : AV) : Bool := decide (100 < s.b.length) || (decide (s.fr = 5) && decide (s.tt = 6))
set_option maxHeartbeats 8000000 in
theorem apart_walk (W : World) (A0 : Option Addr) (L : List AV) (c0 : Nat) (r0 : RdL W (Old W) 5 actC A0 L) (l0 : L.length ≤ c0) (m0 : c0 ≤ 9223372036854775807) (n0 : A0 = none → c0 = 0) (s0 : ∀ s ∈ L, ActI W s)
    (A1 : Option Addr) (b1 : List UInt8) (c1 : Nat) (r1 : RdB W (Old W) A1 b1) (l1 : b1.length ≤ c1) (m1 : c1 ≤ 9223372036854775807) (n1 : A1 = none → c1 = 0) :
    Calls Try.prog 6 #[.slice A0 L.length c0, .slice A1 b1.length c1] W fun e w' => e = .returned (.bool true) ∧ Below W.heap.size W w' := by
  have haw := awake15_any W
  by_cases hlen : b1.length ≤ 100
  · go_enter Try.func6, Try.ntmps6
    go_wp2_with fail
    refine haw.mono ?_
    clear haw
    rintro e w1 ⟨rfl, bb1⟩
    have hnew := New_any w1
    go_wp2_with fail
    refine hnew.mono ?_
    clear hnew
    rintro e w2 ⟨g, rfl, hV, b2⟩
    have bb := bb1.thenB' b2
    have hV := hV.low bb1.size
    clear bb1 b2
    have e1 : putP [] 5 6 b1 = ([((5, 6), b1)], true) := if_pos ⟨by decide, by decide, by decide⟩
    have hp := Put_any _ g [] 5 6 _ A1 c1 b1 w2 hV bb.size (Rd.belowB r1 bb (fun _ h => h)) (by omega)
    rw [e1] at hp
    clear hV e1
    go_wp2_with fail
    refine hp.mono ?_
    clear hp
    rintro e w3 ⟨rfl, hV, mm⟩
    have bb := bb.trans (mm.below bb.size)
    clear mm
    have bn := below_new w3 (.cells #[.int .u8 1] 5)
    have hr := rd_newB w3 1 1 rfl
    have b4 := bb.thenB bn bb.size
    have e2 : putP [((5, 6), b1)] 5 6 [1] = ([((5, 6), b1), ((5, 6), [1])], true) := if_pos ⟨by decide, by decide, by simp⟩
    have hp := Put_any _ g _ 5 6 _ _ 1 [1] _ (hV.below bn) b4.size hr (by decide)
    rw [e2] at hp
    have hp : Calls Try.prog 14 #[.pointer (some ⟨g, 0, none⟩), .int .i64 5, .int .i64 6, .slice (some ⟨w3.heap.size, 0, none⟩) 1 1] (w3.alloc (.cells #[.int .u8 1] 5)) fun e w' => e = .returned (.bool true) ∧ NetV w' W.heap.size g [((5, 6), b1), ((5, 6), [1])] ∧ NMod W.heap.size (w3.alloc (.cells #[.int .u8 1] 5)) w' := hp
    clear hV e2 hr bn bb
    go_wp2_with fail
    refine hp.mono ?_
    clear hp
    rintro e w5 ⟨rfl, hV, mm⟩
    have bb := b4.trans (mm.below b4.size)
    clear mm b4
    have hA : Apart L b1 0 [((5, 6), b1), ((5, 6), [1])] := ⟨rfl, fun h => absurd rfl h, fun e he => by
      rcases List.mem_cons.1 he with rfl | he
      · exact Nat.le_trans hlen (by decide)
      · obtain rfl : e = ((5, 6), [1]) := by simpa using he
        decide⟩
    go_wp2_with fail
    go_loopw [7, 8] (fun s7 s8 wr => ∃ (j : Nat) (S : List Msg), s7 = .int .i64 (j : Int) ∧ j ≤ L.length ∧ j ≤ 60 ∧ Hid (Apart L b1 j S) ∧ NetV wr W.heap.size g S ∧ Below W.heap.size W wr) (fun s7 _ _ => 60 - (intOf s7).toNat)
    case atStart => exact ⟨0, _, rfl, Nat.zero_le _, Nat.zero_le _, Lib.hid hA, hV, bb⟩
    case round =>
      clear hV bb hA
      obtain ⟨j, S, rfl, hjL, hj60, HA, hV, bb⟩ := hrel
      by_cases hlt : j < L.length
      · by_cases h60 : j < 60
        · have rL := RdL.belowB r0 bb (fun _ h => h)
          obtain ⟨ad, rfl, d0, d1, d2, d3, d4⟩ := rL.act hlt
          have hact := s0 _ (List.getElem_mem hlt)
          have rx := Rd.belowB hact.2.2.2.2.1 bb (fun _ h => h)
          have hstep := fun S' h => Apart.step (S' := S') HA.out hlt h
          have hmore := HA.out.more
          have hcx := hact.2.2.2.2.2.1
          have hbk := fun (q : Apart L b1 (j + 1) S) => q
          clear hact
          have HB := Lib.hid (fun (i : Nat) (hi : j ≤ i) h1 h2 => back_take hlt hi h1 h2)
          generalize L[j] = s at *
          obtain ⟨sk, sf, st, si, sA, sb, sc⟩ := s
          simp only at d0 d1 d2 d3 d4 rx hstep hcx HB
          have hS : Blk (wr.alloc (.cells #[.int .i64 sk, .int .i64 sf, .int .i64 st, .int .i64 si, .slice sA sb.length sc] 29)) wr.heap.size 29 #[.int .i64 sk, .int .i64 sf, .int .i64 st, .int .i64 si, .slice sA sb.length sc] := Blk.new wr _ _
          have bn := below_new wr (.cells #[.int .i64 sk, .int .i64 sf, .int .i64 st, .int .i64 si, .slice sA sb.length sc] 29)
          go_upto_region 13 with fail
          have hV := hV.below bn
          have bb := bb.thenB bn bb.size
          have rx := RdB.below rx bn
          clear d0 d1 d2 d3 d4 bn rL
          generalize wr.alloc (.cells #[.int .i64 sk, .int .i64 sf, .int .i64 st, .int .i64 si, .slice sA sb.length sc] 29) = wb at *
          generalize wr.heap.size = bx at *
          have d1 := hS.cell 1
          have d2 := hS.cell 2
          have d4 := hS.cell 4
          simp at d1 d2 d4
          go_cut [53] from 26 to 108 (fun t wx => t = .bool (skipP ⟨sk, sf, st, si, sA, sb, sc⟩) ∧ wb = wx)
          case first =>
            by_cases q1 : 100 < sb.length
            · have q1' : (100 : Int) < (sb.length : Int) := by omega
              go_wp2_with fail
              go_meet
              case rel => exact ⟨by unfold skipP; simp [q1], rfl⟩
            · have q1' : ¬ (100 : Int) < (sb.length : Int) := by omega
              by_cases q2 : sf = 5
              · by_cases q3 : st = 6
                · subst q2 q3
                  go_wp2_with fail
                  go_meet
                  case rel => exact ⟨by unfold skipP; simp, rfl⟩
                · subst q2
                  have q3' : (st == 6) = false := by simp [q3]
                  go_wp2_with fail
                  go_meet
                  case rel => exact ⟨by unfold skipP; simp [q1, q3], rfl⟩
              · have q2' : (sf == 5) = false := by simp [q2]
                go_wp2_with fail
                go_meet
                case rel => exact ⟨by unfold skipP; simp [q1, q2], rfl⟩
          case rest =>
            obtain ⟨rfl, rfl⟩ := hcut
            obtain ⟨t, ht⟩ : ∃ t, skipP ⟨sk, sf, st, si, sA, sb, sc⟩ = t := ⟨_, rfl⟩
            rw [ht]
            cases t
            · unfold skipP at ht
              rw [Bool.or_eq_false_iff, Bool.and_eq_false_iff, decide_eq_false_iff_not, decide_eq_false_iff_not, decide_eq_false_iff_not] at ht
              obtain ⟨hsh, hne⟩ := ht
              have hne : ¬ (sf = 5 ∧ st = 6) := fun x => hne.elim (fun h => h x.1) (fun h => h x.2)
              simp only at hsh
              have hput := Put_any _ g S sf st _ sA sc sb wb hV bb.size rx (by omega)
              have htake := Take_any _ g S sf st si wb hV bb.size
              have hdbl := Double_any _ g S sf st si wb hV bb.size (fun e he => Nat.le_trans (HA.out.sz e he) (by decide))
              have P1 := Lib.hid (hstep _ (put_ok S sf st sb (by omega)) hne)
              have P2 := Lib.hid (hstep _ (take_ok S sf st si) hne)
              have P3 := Lib.hid (hstep _ (double_ok S sf st si HA.out.sz) hne)
              clear hstep hmore hbk HA hne hsh rx hV
              generalize putP S sf st sb = x1 at *
              generalize takeP S sf st si = x2 at *
              generalize doubleP S sf st si = x3 at *
              obtain ⟨S1, y1⟩ := x1
              obtain ⟨S2, z2, y2⟩ := x2
              obtain ⟨S3, y3⟩ := x3
              simp only at hput htake hdbl P1 P2 P3
              have d0 := hS.cell 0
              have d3 := hS.cell 3
              simp at d0 d3
              go_upto_block 2 with fail
              go_cut [] from 26 to 108 (fun wx => ∃ S', Hid (Apart L b1 (j + 1) S') ∧ NetV wx W.heap.size g S' ∧ Below W.heap.size W wx ∧ Blk wx bx 29 #[.int .i64 sk, .int .i64 sf, .int .i64 st, .int .i64 si, .slice sA sb.length sc])
              case first =>
                obtain ⟨z0, hz0, hz2⟩ := and_mask sk 3 (by decide)
                obtain ⟨z, hz, hz3⟩ : ∃ z : Int, bits .and .i64 sk 3 = z ∧ (z = 0 ∨ z = 1 ∨ z = 2 ∨ z = 3) := ⟨z0, hz0, by omega⟩
                clear hz0 hz2
                rcases hz3 with rfl | rfl | rfl | rfl
                · go_wp2_with fail
                  refine hput.mono ?_
                  clear hput htake hdbl
                  rintro e w6 ⟨rfl, hV, mm⟩
                  have hS6 := mm.blk hS (by decide) (by decide)
                  have b6 := bb.trans (mm.below bb.size)
                  go_wp2_with fail
                  go_meet
                  case rel => exact ⟨S1, P1, hV, b6, hS6⟩
                · go_wp2_with fail
                  refine hput.mono ?_
                  clear hput htake hdbl
                  rintro e w6 ⟨rfl, hV, mm⟩
                  have hS6 := mm.blk hS (by decide) (by decide)
                  have b6 := bb.trans (mm.below bb.size)
                  go_wp2_with fail
                  go_meet
                  case rel => exact ⟨S1, P1, hV, b6, hS6⟩
                · go_wp2_with fail
                  refine htake.mono ?_
                  clear hput htake hdbl
                  rintro e w6 ⟨v6, rfl, _, hV, mm⟩
                  have hS6 := mm.blk hS (by decide) (by decide)
                  have b6 := bb.trans (mm.below bb.size)
                  go_wp2_with fail
                  go_meet
                  case rel => exact ⟨S2, P2, hV, b6, hS6⟩
                · go_wp2_with fail
                  refine hdbl.mono ?_
                  clear hput htake hdbl
                  rintro e w6 ⟨rfl, hV, mm⟩
                  have hS6 := mm.blk hS (by decide) (by decide)
                  have b6 := bb.trans (mm.below bb.size)
                  go_wp2_with fail
                  go_meet
                  case rel => exact ⟨S3, P3, hV, b6, hS6⟩
              case rest =>
                clear hput htake hdbl P1 P2 P3 hS bb d0 d1 d2 d3 d4
                obtain ⟨S', HA, hV, bb, hS⟩ := hcut
                have hc1 := Count_any _ g S' 5 6 _ hV
                rw [HA.out.two] at hc1
                have hc1 : Calls Try.prog 11 #[.pointer (some ⟨g, 0, none⟩), .int .i64 5, .int .i64 6] wc fun e w' => e = .returned (.int .i64 2) ∧ wc = w' := hc1
                have hc2 := Count_any _ g S' 6 5 _ hV
                have d1 := hS.cell 1
                simp at d1
                by_cases hz0 : bagN S' (6, 5) = []
                · rw [hz0] at hc2
                  have hc2 : Calls Try.prog 11 #[.pointer (some ⟨g, 0, none⟩), .int .i64 6, .int .i64 5] wc fun e w' => e = .returned (.int .i64 0) ∧ wc = w' := hc2
                  clear hS hz0
                  go_wp2_with fail
                  refine hc1.mono ?_
                  rintro e w7 ⟨rfl, rfl⟩
                  go_wp2_with fail
                  refine hc2.mono ?_
                  rintro e w7 ⟨rfl, rfl⟩
                  clear hc1 hc2
                  go_wp2_with fail
                  go_roundw
                  case rel => exact ⟨j + 1, S', by go_num, by omega, by omega, HA, hV, bb⟩
                  case measure => simp only [intOf]; omega
                · obtain ⟨j', hj', hlt', f1, f2⟩ := HA.out.back hz0
                  have HT : backP (L.take (j + 1)) = true := back_take hj' (by omega) f1 f2
                  have hl0 : ((bagN S' (6, 5)).length == 0) = false := by simpa using hz0
                  have ho := other_any (Old W) (some ad) (j + 1) c0 (L.take (j + 1)) wc (takeL (RdL.belowB r0 bb (fun _ h => h)) _) (by rw [List.length_take]; omega) (by rw [List.length_take]; omega)
                  rw [HT] at ho
                  have hln : ((bagN S' (6, 5)).length == 0) = false := hl0
                  have hwr : IntKind.i64.wrap ((j : Int) + 1) = (j : Int) + 1 := by rw [IntKind.wrap_i64]; omega
                  have htn : ((j : Int) + 1).toNat = j + 1 := by omega
                  have hle : j + 1 ≤ c0 := by omega
                  have h0j : (0 : Int) ≤ (j : Int) + 1 := by omega
                  have hne0 : ¬ ((bagN S' (6, 5)).length : Int) = 0 := by simpa using hz0
                  have hne1 : (((bagN S' (6, 5)).length : Int) != 0) = true := by simpa using hz0
                  generalize (bagN S' (6, 5)).length = nb at *
                  have HJ := Lib.hid (show j < L.length ∧ j < 60 from ⟨hlt, h60⟩)
                  clear hS hz0 HT f1 f2 hj' hlt' hl0
                  by_cases h6 : sf = 6
                  · subst h6
                    clear ho
                    go_wp2_with fail
                    refine hc1.mono ?_
                    rintro e w7 ⟨rfl, rfl⟩
                    go_wp2_with fail
                    refine hc2.mono ?_
                    rintro e w7 ⟨rfl, rfl⟩
                    clear hc1 hc2
                    go_wp2_with fail
                    go_roundw
                    case rel => exact ⟨j + 1, S', by go_num, by omega, by omega, HA, hV, bb⟩
                    case measure => simp only [intOf]; omega
                  · have h6' : (sf != 6) = true := by simpa using h6
                    clear h6
                    go_wp2_with fail
                    refine hc1.mono ?_
                    rintro e w7 ⟨rfl, rfl⟩
                    go_wp2_with fail
                    refine hc2.mono ?_
                    rintro e w7 ⟨rfl, rfl⟩
                    clear hc1 hc2
                    go_wp2_with fail
                    refine ho.mono ?_
                    clear ho
                    rintro e w7 ⟨rfl, rfl⟩
                    go_wp2_with fail
                    go_roundw
                    case rel => exact ⟨j + 1, S', by go_num, by omega, by omega, HA, hV, bb⟩
                    case measure => simp only [intOf]; omega
            · have HM := Lib.hid hmore
              clear hstep hmore hbk HB ht rx d1 d2 d4 hS HA
              go_wp2_with fail
              go_roundw
              case rel => exact ⟨j + 1, S, by go_num, by omega, by omega, HM, hV, bb⟩
              case measure => simp only [intOf]; omega
        · obtain rfl : j = 60 := by omega
          have hx1 := take_first HA.out.two
          have ht1 := Take_any _ g S 5 6 0 wr hV bb.size
          clear hV HA
          generalize takeP S 5 6 0 = x1 at *
          obtain ⟨S1, zb, y1⟩ := x1
          obtain ⟨e1, hb1⟩ := hx1
          simp only [Prod.mk.injEq] at e1
          obtain ⟨rfl, rfl⟩ := e1
          go_wp2_with fail
          refine ht1.mono ?_
          clear ht1
          rintro e w4 ⟨v4, rfl, o4, hV, mm⟩
          have bb := bb.trans (mm.below bb.size)
          clear mm
          have hx1 := take_first hb1
          have ht1 := Take_any _ g S1 5 6 0 w4 hV bb.size
          clear hV
          generalize takeP S1 5 6 0 = x1 at *
          obtain ⟨S2, z1, y1⟩ := x1
          obtain ⟨e1, hb2⟩ := hx1
          simp only [Prod.mk.injEq] at e1
          obtain ⟨rfl, rfl⟩ := e1
          go_wp2_with fail
          refine ht1.mono ?_
          clear ht1
          rintro e w5 ⟨v5, rfl, o5, hV, mm⟩
          have o4 := mm.ownB o4
          have bb := bb.trans (mm.below bb.size)
          clear mm
          obtain ⟨A4, c4, rfl, _, _⟩ := OwnB.form o4
          obtain ⟨A5, c5, rfl, _, _⟩ := OwnB.form o5
          have s4 := str_rd (n := zb.length) (c := c4) (Rd.of_own o4) rfl
          have s5 := str_rd (n := 1) (c := c5) (Rd.of_own o5) rfl
          have s1 := str_rd (n := zb.length) (c := c1) (Rd.belowB r1 bb (fun _ h => h)) rfl
          have e1 : (str [1] == ByteArray.mk #[1]) = true := rfl
          have hc := Count_any _ g S2 5 6 w5 hV
          rw [hb2] at hc
          have hc : Calls Try.prog 11 #[.pointer (some ⟨g, 0, none⟩), .int .i64 5, .int .i64 6] w5 fun e w' => e = .returned (.int .i64 0) ∧ w5 = w' := hc
          clear o4 o5 hV hb1 hb2
          go_wp2_with fail
          refine hc.mono ?_
          rintro e w6 ⟨rfl, rfl⟩
          go_wp2_with fail
          go_ret
          exact ⟨rfl, bb⟩
      · obtain rfl : j = L.length := by omega
        have hx1 := take_first HA.out.two
        have ht1 := Take_any _ g S 5 6 0 wr hV bb.size
        clear hV HA
        generalize takeP S 5 6 0 = x1 at *
        obtain ⟨S1, zb, y1⟩ := x1
        obtain ⟨e1, hb1⟩ := hx1
        simp only [Prod.mk.injEq] at e1
        obtain ⟨rfl, rfl⟩ := e1
        go_wp2_with fail
        refine ht1.mono ?_
        clear ht1
        rintro e w4 ⟨v4, rfl, o4, hV, mm⟩
        have bb := bb.trans (mm.below bb.size)
        clear mm
        have hx1 := take_first hb1
        have ht1 := Take_any _ g S1 5 6 0 w4 hV bb.size
        clear hV
        generalize takeP S1 5 6 0 = x1 at *
        obtain ⟨S2, z1, y1⟩ := x1
        obtain ⟨e1, hb2⟩ := hx1
        simp only [Prod.mk.injEq] at e1
        obtain ⟨rfl, rfl⟩ := e1
        go_wp2_with fail
        refine ht1.mono ?_
        clear ht1
        rintro e w5 ⟨v5, rfl, o5, hV, mm⟩
        have o4 := mm.ownB o4
        have bb := bb.trans (mm.below bb.size)
        clear mm
        obtain ⟨A4, c4, rfl, _, _⟩ := OwnB.form o4
        obtain ⟨A5, c5, rfl, _, _⟩ := OwnB.form o5
        have s4 := str_rd (n := zb.length) (c := c4) (Rd.of_own o4) rfl
        have s5 := str_rd (n := 1) (c := c5) (Rd.of_own o5) rfl
        have s1 := str_rd (n := zb.length) (c := c1) (Rd.belowB r1 bb (fun _ h => h)) rfl
        have e1 : (str [1] == ByteArray.mk #[1]) = true := rfl
        have hc := Count_any _ g S2 5 6 w5 hV
        rw [hb2] at hc
        have hc : Calls Try.prog 11 #[.pointer (some ⟨g, 0, none⟩), .int .i64 5, .int .i64 6] w5 fun e w' => e = .returned (.int .i64 0) ∧ w5 = w' := hc
        clear o4 o5 hV hb1 hb2
        go_wp2_with fail
        refine hc.mono ?_
        rintro e w6 ⟨rfl, rfl⟩
        go_wp2_with fail
        go_ret
        exact ⟨rfl, bb⟩
  · go_enter Try.func6, Try.ntmps6
    have hlen' : (100 : Int) < (b1.length : Int) := by omega
    go_wp2_with fail
    refine haw.mono ?_
    clear haw
    rintro e w1 ⟨rfl, bb1⟩
    go_wp2_with fail
    go_ret
    exact ⟨rfl, bb1⟩
end Go.Proofs.Ytpfbiamgnmbhnaa
