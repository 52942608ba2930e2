/- NetPlays: the links in order, the walk. -/
import Derived.Test.YtpfbiamgnmbhnaaNtJ
namespace Go.Proofs.Ytpfbiamgnmbhnaa
open Go.RowKit
set_option linter.unusedVariables false
set_option maxRecDepth 100000

theorem Both.below {B : Nat} {w w' : World} {g : Nat} {v : Value} {S : List Msg} (h : Both B w g v S) (hb : Below w.heap.size w w') : Both B w' g v S := ⟨h.net.below hb, OwnC.below h.row hb, h.sz⟩
/-! ### how many links come ahead of one -/
def ltB (p x : Int × Int) : Bool := decide (cmpV x p < 0)
theorem ltB_iff (p x : Int × Int) : ltB p x = true ↔ x.1 < p.1 ∨ x.1 = p.1 ∧ x.2 < p.2 := by unfold ltB; rw [decide_eq_true_iff, cmpV_lt]
def cntB (E : List (Int × Int)) (p : Int × Int) : Nat := (E.filter (ltB p)).length
theorem cntB_at : ∀ (E : List (Int × Int)), E.Pairwise (fun x y => cmpV x y < 0) → ∀ p ∈ E, E[cntB E p]? = some p
  | [], _, p, h => by simp at h
  | x :: r, hp, p, h => by
    obtain ⟨h1, h2⟩ := List.pairwise_cons.1 hp
    by_cases hx : x = p
    · subst hx
      have e : (x :: r).filter (ltB x) = [] := by
        rw [List.filter_eq_nil_iff]
        intro y hy hl
        rw [ltB_iff] at hl
        rcases List.mem_cons.1 hy with rfl | hy
        · omega
        · have := (cmpV_lt x y).1 (h1 y hy)
          omega
      unfold cntB
      rw [e]
      rfl
    · have hr : p ∈ r := (List.mem_cons.1 h).resolve_left fun e => hx e.symm
      have hl : ltB p x = true := by unfold ltB; exact decide_eq_true (h1 p hr)
      have ih := cntB_at r h2 p hr
      unfold cntB at ih ⊢
      rw [List.filter_cons, if_pos hl, List.length_cons, List.getElem?_cons_succ]
      exact ih
theorem cntB_step : ∀ (E : List (Int × Int)), E.Nodup → ∀ p q : Int × Int, (∀ x ∈ E, ltB q x = true ↔ ltB p x = true ∨ x = p) → cntB E q = cntB E p + if p ∈ E then 1 else 0
  | [], _, p, q, h => rfl
  | x :: r, hn, p, q, h => by
    obtain ⟨h1, h2⟩ := List.nodup_cons.1 hn
    have ih := cntB_step r h2 p q fun y hy => h y (List.mem_cons_of_mem _ hy)
    have hx := h x (List.mem_cons_self ..)
    unfold cntB at ih ⊢
    rw [List.filter_cons, List.filter_cons]
    by_cases hxp : x = p
    · subst hxp
      have hs : ¬ ltB x x = true := by rw [ltB_iff]; omega
      rw [if_pos (hx.2 (.inr rfl)), if_neg hs, if_pos (List.mem_cons_self ..), List.length_cons, ih, if_neg h1]
    · have hm : p ∈ x :: r ↔ p ∈ r := by
        rw [List.mem_cons]
        exact ⟨fun h => h.resolve_left fun e => hxp e.symm, .inr⟩
      by_cases hl : ltB p x = true
      · rw [if_pos (hx.2 (.inl hl)), if_pos hl, List.length_cons, List.length_cons, ih]
        by_cases hr : p ∈ r
        · rw [if_pos hr, if_pos (hm.2 hr)]
        · rw [if_neg hr, if_neg (fun h => hr (hm.1 h))]
      · rw [if_neg (fun h => (hx.1 h).elim hl hxp), if_neg hl, ih]
        by_cases hr : p ∈ r
        · rw [if_pos hr, if_pos (hm.2 hr)]
        · rw [if_neg hr, if_neg (fun h => hr (hm.1 h))]
/-- The links of a net. -/
structure LinksOk (E : List (Int × Int)) (S : List Msg) : Prop where
  sorted : E.Pairwise (fun x y => cmpV x y < 0)
  mem : ∀ k, k ∈ E ↔ bagN S k ≠ []
  ends : ∀ k ∈ E, EndP k.1 ∧ EndP k.2
section
variable {E : List (Int × Int)} {S : List Msg}
theorem LinksOk.nodup (h : LinksOk E S) : E.Nodup := links_len h.sorted h.mem
theorem LinksOk.no (h : LinksOk E S) (f t : Nat) (hb : (bagN S ((f : Int), (t : Int))).length = 0) : cntB E ((f : Int), (t : Int) + 1) = cntB E ((f : Int), (t : Int)) := by
  have hm : ((f : Int), (t : Int)) ∉ E := fun hm => (h.mem _).1 hm (List.eq_nil_of_length_eq_zero hb)
  have hs : ∀ x ∈ E, ltB ((f : Int), (t : Int) + 1) x = true ↔ ltB ((f : Int), (t : Int)) x = true ∨ x = ((f : Int), (t : Int)) := fun x hx => by
    rw [ltB_iff, ltB_iff, Prod.ext_iff]
    simp only
    omega
  rw [cntB_step E h.nodup ((f : Int), (t : Int)) _ hs, if_neg hm, Nat.add_zero]
theorem LinksOk.yes (h : LinksOk E S) (f t : Nat) (hb : (bagN S ((f : Int), (t : Int))).length ≠ 0) : cntB E ((f : Int), (t : Int) + 1) = cntB E ((f : Int), (t : Int)) + 1 ∧ E[cntB E ((f : Int), (t : Int))]? = some ((f : Int), (t : Int)) := by
  have hm : ((f : Int), (t : Int)) ∈ E := (h.mem _).2 fun e => hb (by rw [e]; rfl)
  refine ⟨?_, cntB_at E h.sorted _ hm⟩
  rw [cntB_step E h.nodup ((f : Int), (t : Int)) _ fun x hx => ?_, if_pos hm]
  rw [ltB_iff, ltB_iff, Prod.ext_iff]
  simp only
  omega
theorem LinksOk.next (h : LinksOk E S) (f : Nat) : cntB E ((f : Int), 9) = cntB E ((f : Int) + 1, 0) := by
  unfold cntB
  refine congrArg List.length (List.filter_congr fun x hx => ?_)
  obtain ⟨h1, h2⟩ := h.ends x hx
  unfold EndP at h1 h2
  rw [Bool.eq_iff_iff, ltB_iff, ltB_iff]
  simp only
  omega
theorem LinksOk.first (h : LinksOk E S) : cntB E (0, 0) = 0 := by
  unfold cntB
  rw [List.filter_eq_nil_iff.2 fun x hx => ?_]; · rfl
  obtain ⟨h1, h2⟩ := h.ends x hx
  unfold EndP at h1 h2
  rw [ltB_iff]
  simp only
  omega
theorem LinksOk.last (h : LinksOk E S) : cntB E (9, 0) = E.length := by
  unfold cntB
  rw [List.filter_eq_self.2 fun x hx => ?_]
  obtain ⟨h1, h2⟩ := h.ends x hx
  unfold EndP at h1 h2
  rw [ltB_iff]
  simp only
  omega
end
theorem NetV.ends {w : World} {base g : Nat} {S : List Msg} (h : NetV w base g S) (k : Int × Int) (hk : bagN S k ≠ []) : EndP k.1 ∧ EndP k.2 := by
  obtain ⟨m, cl, L, h⟩ := h
  obtain ⟨b, hb⟩ := List.exists_mem_of_ne_nil _ hk
  unfold bagN at hb
  obtain ⟨e, he, _⟩ := List.mem_map.1 hb
  obtain ⟨h1, h2⟩ := List.mem_filter.1 he
  have := h.msg.ends e h1
  have e2 : e.1 = k := by simpa using h2
  rw [← e2]
  exact this
theorem RdL.ln {w : World} {D : Nat → Prop} {A : Option Addr} {E : List (Int × Int)} (h : RdL w D 2 lnC A E) {i : Nat} {a b : Int} (hi : E[i]? = some (a, b)) :
    ∃ ad, A = some ad ∧ w.cell? (ad.add (i * 2)) = some (.int .i64 a) ∧ w.cell? ⟨(ad.add (i * 2)).block, (ad.add (i * 2)).off + 1, none⟩ = some (.int .i64 b) := by
  obtain ⟨ad, e, _, hc⟩ := h (by have := (List.getElem?_eq_some_iff.1 hi).1; omega)
  exact ⟨ad, e, hc i _ hi 0 _ rfl, by rw [← add_at _ _ 0]; exact hc i _ hi 1 _ rfl⟩

set_option maxHeartbeats 8000000 in
theorem plays_walk (W : World) (A0 : Option Addr) (L : List AV) (c0 : Nat) (r0 : RdL W (Old W) 5 actC A0 L) (l0 : L.length ≤ c0) (m0 : c0 ≤ 9223372036854775807) (n0 : A0 = none → c0 = 0) (s0 : ∀ s ∈ L, ActI W s) :
    Calls Try.prog 3 #[.slice A0 L.length c0] W fun e w' => e = .returned (.bool true) ∧ Below W.heap.size W w' := by
  have haw := awake15_any W
  go_enter Try.func3, Try.ntmps3
  go_wp2_with fail
  refine haw.mono ?_
  clear haw
  rintro e w1 ⟨rfl, bb1⟩
  have hnew := New_any w1
  go_wp2_with fail
  refine hnew.mono ?_
  clear hnew
  rintro e w2 ⟨g, rfl, hV, b2⟩
  have bb := bb1.thenB' b2
  have HB : Both W.heap.size w2 g (.slice none 0 0) [] := ⟨hV.low bb1.size, OwnC.nil, by simp⟩
  clear bb1 b2 hV
  go_wp2_with fail
  go_loopw [5, 6, 7, 8] (fun s5 s6 s7 s8 wr => ∃ (j : Nat) (v : Value) (S : List Msg), v = s5 ∧ s6 = .int .i64 (j : Int) ∧ j ≤ L.length ∧ j ≤ 80 ∧ Both W.heap.size wr g v S ∧ Below W.heap.size W wr) (fun _ s6 _ _ _ => 80 - (intOf s6).toNat)
  case atStart => exact ⟨0, _, [], rfl, rfl, Nat.zero_le _, Nat.zero_le _, HB, bb⟩
  case round =>
    clear HB bb
    obtain ⟨j, v, S, rfl, rfl, hjL, hj80, HB, bb⟩ := hrel
    by_cases hlt : j < L.length
    · by_cases h80 : j < 80
      · have rL := RdL.belowB r0 bb (fun _ h => h)
        obtain ⟨ad, rfl, d0, d1, d2, d3, d4⟩ := rL.act hlt
        have hact := s0 _ (List.getElem_mem hlt)
        have rx0 := hact.2.2.2.2.1
        clear hact
        by_cases hsh : L[j].b.length ≤ 300
        · have hdone := done_any W.heap.size g v S L[j] wr HB bb.size (Old W) (fun _ h => h) (Rd.belowB rx0 bb (fun _ h => h)) (by omega)
          generalize hLj : L[j] = s at *
          obtain ⟨sk, sf, st, si, sA, sb, sc⟩ := s
          simp only at d0 d1 d2 d3 d4 rx0 hdone hsh
          have hsh' : ¬ (300 : Int) < (sb.length : Int) := by omega
          have HLj := Lib.hid hLj
          clear hLj
          go_wp2_with fail
          refine hdone.mono ?_
          clear hdone HB d0 d1 d2 d3 d4 rL
          rintro e w3 ⟨v3, S3, rfl, HB, mm⟩
          have bb := bb.trans (mm.below bb.size)
          clear mm
          obtain ⟨_, hA, d0, d1, d2, d3, d4⟩ := (RdL.belowB r0 bb (fun _ h => h)).act hlt
          injection hA with hA
          subst hA
          rw [HLj.out] at d1 d2
          simp only at d1 d2
          clear d0 d3 d4
          have hO := HB.row
          have hfew := HB.net.few
          obtain ⟨Av, cv, rfl, hcv, hmv⟩ := OwnC.form hO
          have q1 : ∀ n, Calls Try.prog 10 #[.pointer (some ⟨g, 0, none⟩)] (w3.drewN n) fun e w' => e = .returned (.int .i64 (S3.length : Int)) ∧ ∃ m, w' = w3.drewN m := fun n => (Total_any _ g _ _ (HB.net.below (below_drewN (Below.refl _ _) n))).mono fun e w' ⟨he, hw⟩ => ⟨he, n, hw.symm⟩
          have q2 : ∀ n, Calls Try.prog 11 #[.pointer (some ⟨g, 0, none⟩), .int .i64 sf, .int .i64 st] (w3.drewN n) fun e w' => e = .returned (.int .i64 ((bagN S3 (sf, st)).length : Int)) ∧ ∃ m, w' = w3.drewN m := fun n => (Count_any _ g _ sf st _ (HB.net.below (below_drewN (Below.refl _ _) n))).mono fun e w' ⟨he, hw⟩ => ⟨he, n, hw.symm⟩
          have q3 : ∀ n, Calls Try.prog 12 #[.slice Av S3.length cv, .int .i64 sf, .int .i64 st] (w3.drewN n) fun e w' => e = .returned (.int .i64 ((bagN S3 (sf, st)).length : Int)) ∧ ∃ m, w' = w3.drewN m := fun n => (rCount_any _ Av cv S3 sf st _ (RdMs.below (OwnMs.rd hO) (below_drewN (Below.refl _ _) n)) (by omega) hcv).mono fun e w' ⟨he, hw⟩ => ⟨he, n, hw.symm⟩
          have Q1 := Lib.hid q1
          have Q2 := Lib.hid q2
          have Q3 := Lib.hid q3
          generalize (bagN S3 (sf, st)).length = nb at *
          clear q1 q2 q3 hO
          go_wp2_with fail
          go_quiet ((first | exact Q1.out _ | exact Q2.out _ | exact Q3.out _))
          have bd : Below w3.heap.size w3 (w3.drewN nq) := below_drewN (Below.refl _ _) _
          have HB := HB.below bd
          have bb := bb.thenB bd bb.size
          clear Q1 Q2 Q3 d1 d2
          go_wp2_with fail
          go_roundw
          case rel => exact ⟨j + 1, _, S3, rfl, by go_num, by omega, by omega, HB, bb⟩
          case measure => simp only [intOf]; omega
        · have hsh' : (300 : Int) < (L[j].b.length : Int) := by omega
          go_wp2_with fail
          go_ret
          exact ⟨rfl, bb⟩
      · obtain rfl : j = 80 := by omega
        have hl := Links_any _ g _ wr HB.net
        have hE := fun k h => HB.net.ends k h
        go_wp2_with fail
        refine hl.mono ?_
        clear hl
        rintro e w4 ⟨vl, E, rfl, p1, p2, oE, b4⟩
        have HE : LinksOk E S := ⟨p1, p2, fun k hk => hE k ((p2 k).1 hk)⟩
        have bb := bb.thenB b4 bb.size
        have hO : OwnMs w4 W.heap.size v S := OwnC.below HB.row b4
        have hfew := HB.net.few
        clear p1 p2 b4 hE HB
        obtain ⟨AE, nE, cE, rfl, hnE, hcE, hmE⟩ := OwnC.form' oE
        unfold maxLen at hmE
        have rE := OwnC.rd lnC_len oE
        obtain ⟨Av, cv, rfl, hcv, hmv⟩ := OwnC.form hO
        have rv := OwnMs.rd hO
        have HE0 : Hid (cntB E (0, 0) = 0) := Lib.hid HE.first
        go_wp2_with fail
        go_loopw [10, 11, 12] (fun s10 s11 s12 wx => ∃ (f : Nat), s11 = .int .i64 (f : Int) ∧ f ≤ 9 ∧ s10 = .int .i64 (cntB E ((f : Int), 0) : Nat) ∧ w4 = wx) (fun _ s11 _ _ => 9 - (intOf s11).toNat)
        case atStart => exact ⟨0, rfl, by decide, by show Value.int .i64 0 = .int .i64 ((cntB E (0, 0) : Nat) : Int); rw [HE0.out]; rfl, rfl⟩
        case round =>
          obtain ⟨f, rfl, hf, rfl, rfl⟩ := hrel
          by_cases hf9 : f ≤ 8
          · have hd8 : decide ((f : Int) ≤ 8) = true := decide_eq_true (by omega)
            obtain ⟨q0, hq0⟩ : ∃ q0, cntB E ((f : Int), 0) = q0 := ⟨_, rfl⟩
            rw [hq0]
            have HQ := Lib.hid hq0
            clear hq0
            go_wp2_with fail
            go_loopw [10, 12] (fun s10 s12 wy => ∃ (t q : Nat), s12 = .int .i64 (t : Int) ∧ t ≤ 9 ∧ s10 = .int .i64 (q : Int) ∧ Hid (cntB E ((f : Int), (t : Int)) = q) ∧ w4 = wy) (fun _ s12 _ => 9 - (intOf s12).toNat)
            case atStart => exact ⟨0, q0, rfl, by decide, rfl, HQ, rfl⟩
            case round =>
              clear HQ
              obtain ⟨t, q, rfl, ht, rfl, HQ, rfl⟩ := hrel
              by_cases ht9 : t ≤ 8
              · have hc := rCount_any _ Av cv S (f : Int) (t : Int) w4 rv (by omega) hcv
                by_cases hz : (bagN S ((f : Int), (t : Int))).length = 0
                · have H2 := Lib.hid (HE.no f t hz)
                  rw [hz] at hc
                  have hc : Calls Try.prog 12 #[.slice Av S.length cv, .int .i64 (f : Int), .int .i64 (t : Int)] w4 fun e w' => e = .returned (.int .i64 0) ∧ w4 = w' := hc
                  clear hz
                  go_wp2_with fail
                  refine hc.mono ?_
                  rintro e w5 ⟨rfl, rfl⟩
                  clear hc
                  go_wp2_with fail
                  go_roundw
                  case rel => exact ⟨t + 1, q, by go_num, by omega, rfl, Lib.hid (by rw [show ((t + 1 : Nat) : Int) = (t : Int) + 1 from rfl, H2.out, HQ.out]), trivial⟩
                  case measure => simp only [intOf]; omega
                · obtain ⟨y1, y2⟩ := HE.yes f t hz
                  rw [HQ.out] at y1 y2
                  have H2 := Lib.hid y1
                  have hqE : q < nE := by rw [hnE.out]; exact (List.getElem?_eq_some_iff.1 y2).1
                  obtain ⟨aE, rfl, e1, e2⟩ := rE.ln y2
                  have hne : (((bagN S ((f : Int), (t : Int))).length : Int) == 0) = false := by simpa using hz
                  have hne' : ¬ ((bagN S ((f : Int), (t : Int))).length : Int) = 0 := by simpa using hz
                  generalize (bagN S ((f : Int), (t : Int))).length = nb at *
                  have hqn : ¬ (nE : Int) ≤ (q : Int) := by omega
                  clear hz y1 y2
                  go_wp2_with fail
                  refine hc.mono ?_
                  rintro e w5 ⟨rfl, rfl⟩
                  clear hc
                  go_wp2_with fail
                  go_roundw
                  case rel => exact ⟨t + 1, q + 1, by go_num, by omega, by go_num, Lib.hid H2.out, trivial⟩
                  case measure => simp only [intOf]; omega
              · obtain rfl : t = 9 := by omega
                have H2 := Lib.hid (HE.next f)
                go_wp2_with fail
                go_roundw
                case rel => exact ⟨f + 1, by go_num, by omega, by rw [show ((f + 1 : Nat) : Int) = (f : Int) + 1 from rfl, ← H2.out]; rw [show ((9 : Nat) : Int) = 9 from rfl] at HQ; rw [HQ.out], trivial⟩
                case measure => simp only [intOf]; omega
          · obtain rfl : f = 9 := by omega
            have HL : Hid (cntB E (((9 : Nat) : Int), 0) = nE) := Lib.hid (by rw [hnE.out]; exact HE.last)
            rw [HL.out]
            go_wp2_with fail
            go_ret
            exact ⟨by simp, bb⟩
    · obtain rfl : j = L.length := by omega
      have hl := Links_any _ g _ wr HB.net
      have hE := fun k h => HB.net.ends k h
      go_wp2_with fail
      refine hl.mono ?_
      clear hl
      rintro e w4 ⟨vl, E, rfl, p1, p2, oE, b4⟩
      have HE : LinksOk E S := ⟨p1, p2, fun k hk => hE k ((p2 k).1 hk)⟩
      have bb := bb.thenB b4 bb.size
      have hO : OwnMs w4 W.heap.size v S := OwnC.below HB.row b4
      have hfew := HB.net.few
      clear p1 p2 b4 hE HB
      obtain ⟨AE, nE, cE, rfl, hnE, hcE, hmE⟩ := OwnC.form' oE
      unfold maxLen at hmE
      have rE := OwnC.rd lnC_len oE
      obtain ⟨Av, cv, rfl, hcv, hmv⟩ := OwnC.form hO
      have rv := OwnMs.rd hO
      have HE0 : Hid (cntB E (0, 0) = 0) := Lib.hid HE.first
      go_wp2_with fail
      go_loopw [10, 11, 12] (fun s10 s11 s12 wx => ∃ (f : Nat), s11 = .int .i64 (f : Int) ∧ f ≤ 9 ∧ s10 = .int .i64 (cntB E ((f : Int), 0) : Nat) ∧ w4 = wx) (fun _ s11 _ _ => 9 - (intOf s11).toNat)
      case atStart => exact ⟨0, rfl, by decide, by show Value.int .i64 0 = .int .i64 ((cntB E (0, 0) : Nat) : Int); rw [HE0.out]; rfl, rfl⟩
      case round =>
        obtain ⟨f, rfl, hf, rfl, rfl⟩ := hrel
        by_cases hf9 : f ≤ 8
        · have hd8 : decide ((f : Int) ≤ 8) = true := decide_eq_true (by omega)
          obtain ⟨q0, hq0⟩ : ∃ q0, cntB E ((f : Int), 0) = q0 := ⟨_, rfl⟩
          rw [hq0]
          have HQ := Lib.hid hq0
          clear hq0
          go_wp2_with fail
          go_loopw [10, 12] (fun s10 s12 wy => ∃ (t q : Nat), s12 = .int .i64 (t : Int) ∧ t ≤ 9 ∧ s10 = .int .i64 (q : Int) ∧ Hid (cntB E ((f : Int), (t : Int)) = q) ∧ w4 = wy) (fun _ s12 _ => 9 - (intOf s12).toNat)
          case atStart => exact ⟨0, q0, rfl, by decide, rfl, HQ, rfl⟩
          case round =>
            clear HQ
            obtain ⟨t, q, rfl, ht, rfl, HQ, rfl⟩ := hrel
            by_cases ht9 : t ≤ 8
            · have hc := rCount_any _ Av cv S (f : Int) (t : Int) w4 rv (by omega) hcv
              by_cases hz : (bagN S ((f : Int), (t : Int))).length = 0
              · have H2 := Lib.hid (HE.no f t hz)
                rw [hz] at hc
                have hc : Calls Try.prog 12 #[.slice Av S.length cv, .int .i64 (f : Int), .int .i64 (t : Int)] w4 fun e w' => e = .returned (.int .i64 0) ∧ w4 = w' := hc
                clear hz
                go_wp2_with fail
                refine hc.mono ?_
                rintro e w5 ⟨rfl, rfl⟩
                clear hc
                go_wp2_with fail
                go_roundw
                case rel => exact ⟨t + 1, q, by go_num, by omega, rfl, Lib.hid (by rw [show ((t + 1 : Nat) : Int) = (t : Int) + 1 from rfl, H2.out, HQ.out]), trivial⟩
                case measure => simp only [intOf]; omega
              · obtain ⟨y1, y2⟩ := HE.yes f t hz
                rw [HQ.out] at y1 y2
                have H2 := Lib.hid y1
                have hqE : q < nE := by rw [hnE.out]; exact (List.getElem?_eq_some_iff.1 y2).1
                obtain ⟨aE, rfl, e1, e2⟩ := rE.ln y2
                have hne : (((bagN S ((f : Int), (t : Int))).length : Int) == 0) = false := by simpa using hz
                have hne' : ¬ ((bagN S ((f : Int), (t : Int))).length : Int) = 0 := by simpa using hz
                generalize (bagN S ((f : Int), (t : Int))).length = nb at *
                have hqn : ¬ (nE : Int) ≤ (q : Int) := by omega
                clear hz y1 y2
                go_wp2_with fail
                refine hc.mono ?_
                rintro e w5 ⟨rfl, rfl⟩
                clear hc
                go_wp2_with fail
                go_roundw
                case rel => exact ⟨t + 1, q + 1, by go_num, by omega, by go_num, Lib.hid H2.out, trivial⟩
                case measure => simp only [intOf]; omega
            · obtain rfl : t = 9 := by omega
              have H2 := Lib.hid (HE.next f)
              go_wp2_with fail
              go_roundw
              case rel => exact ⟨f + 1, by go_num, by omega, by rw [show ((f + 1 : Nat) : Int) = (f : Int) + 1 from rfl, ← H2.out]; rw [show ((9 : Nat) : Int) = 9 from rfl] at HQ; rw [HQ.out], trivial⟩
              case measure => simp only [intOf]; omega
        · obtain rfl : f = 9 := by omega
          have HL : Hid (cntB E (((9 : Nat) : Int), 0) = nE) := Lib.hid (by rw [hnE.out]; exact HE.last)
          rw [HL.out]
          go_wp2_with fail
          go_ret
          exact ⟨by simp, bb⟩
end Go.Proofs.Ytpfbiamgnmbhnaa
