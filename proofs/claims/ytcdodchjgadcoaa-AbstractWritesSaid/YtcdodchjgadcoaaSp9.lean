/- The document's clean row of two rows: the walk. -/
import Derived.Test.YtcdodchjgadcoaaSp8
import Derived.Test.YtcdodchjgadcoaaCan
import Derived.Deep.CutRange
import Derived.Deep.CutBlock
namespace Go.Proofs.Ytcdodchjgadcoaa
open Go.RowKit
set_option linter.unusedVariables false

/-- Nothing below block B has turned. -/
def RW (B : Nat) (a b : World) : Prop := Below B a b
theorem RW_refl (B : Nat) (w : World) : RW B w w := Below.refl _ w
theorem RW_trans (B : Nat) (a b c : World) (h : RW B a b) (k : RW B b c) : RW B a c := h.trans k
theorem RW_new (B : Nat) (w : World) (o : Obj) (h : B ≤ w.heap.size) : RW B w (w.alloc o) := (Below.refl _ _).alloc h o
theorem RW_cell {B : Nat} {w w' : World} (h : RW B w w') {a : Addr} {v : Value} (hc : w.cell? a = some v) (hB : a.block < B) : w'.cell? a = some v := by
  rw [World.cell?_of_block (w := w) (h.block _ hB)]
  exact hc
/-- A row of numbers as a value. -/
def Row1 (w : World) (v : Value) (l : List Int) : Prop := ∃ A n c, v = .slice A n c ∧ Hid (n = l.length) ∧ RdI w Any1 A l ∧ n ≤ c ∧ c ≤ 9223372036854775807
theorem Row1.below {w w' : World} {v : Value} {l : List Int} (h : Row1 w v l) (hb : Below w.heap.size w w') : Row1 w' v l := by
  obtain ⟨A, n, c, h1, h2, h3, h4, h5⟩ := h
  exact ⟨A, n, c, h1, h2, RdI.below h3 hb, h4, h5⟩
theorem Row1.nil (w : World) : Row1 w (.slice none 0 0) [] := ⟨none, 0, 0, rfl, Lib.hid rfl, ⟨rfl, fun h => absurd h (by decide)⟩, Nat.le_refl _, by decide⟩
theorem rPut_row {w : World} {v : Value} {l : List Int} (h : Row1 w v l) (n : Int) (hL : l.length ≤ 10000) :
    Calls Try.prog 37 #[v, .int .i64 n] w fun e w' => ∃ v', e = .returned v' ∧ Row1 w' v' (putP l n) ∧ Below w.heap.size w w' := by
  obtain ⟨A, m, c, rfl, hm, hr, hc, hx⟩ := h
  have hm := hm.out
  subst hm
  refine (rPut_any A c l n w hr hc hx hL).mono ?_
  rintro e w' ⟨A', c', rfl, h1, h2, h3, h4⟩
  exact ⟨_, rfl, ⟨A', _, c', rfl, Lib.hid rfl, h1, h2, h3⟩, h4⟩
def docB2 (k : Int) (x y : Bool) : Bool := if k = 2 then x && y else x || y
def docB (k : Int) (x y : Bool) : Bool := if k = 3 then x && !y else if k = 2 then x && y else x || y
theorem docB_off (k : Int) : docB k false false = false := by
  unfold docB
  split
  · rfl
  · split <;> rfl
theorem put2_len (l : List Int) (x y : Int) : (putP l x).length ≤ l.length + 1 ∧ (putP (putP l x) y).length ≤ l.length + 2 := by
  have h1 := put_len l x
  have h2 := put_len (putP l x) y
  omega
theorem cell_belowS {w w' : World} {a : Addr} {v : Value} (h : w.cell? a = some v) (b : Below w.heap.size w w') : w'.cell? a = some v := by
  rw [World.cell?_of_block (w := w) (b.block _ (World.block_lt_of_cell? w _ h))]
  exact h
/-- What stands at the head of each round of the third loop. -/
def OfAt (k : Int) (a b : List Sp) (j : Nat) (L : List Sp) : Prop :=
  L.length ≤ j ∧ (∀ h : j < (docE a b).length, Upto (docW (docB k) a b) L (docE a b)[j]) ∧ ((docE a b).length = 0 → j = 0 ∧ L = []) ∧ ((docE a b).length ≠ 0 → j < (docE a b).length)
theorem of_zero (k : Int) (a b : List Sp) : OfAt k a b 0 [] := ⟨Nat.le_refl _, fun h => doc_start (docB_off k) h, fun _ => ⟨rfl, rfl⟩, fun h => by omega⟩
theorem of_stop {k : Int} {a b : List Sp} {j : Nat} {L : List Sp} (h : OfAt k a b j L) (hj : ¬ j + 1 < (docE a b).length) : IsR (docW (docB k) a b) L := by
  obtain ⟨_, h1, h2, h3⟩ := h
  by_cases h0 : (docE a b).length = 0
  · obtain ⟨rfl, rfl⟩ := h2 h0
    have := doc_none (docB_off k) h0
    exact ⟨this.1, this.2⟩
  · have hlt := h3 h0
    have := doc_end (docB_off k) (by omega) (h1 hlt)
    exact ⟨this.1, this.2⟩
theorem of_no {k : Int} {a b : List Sp} {j : Nat} {L : List Sp} (h : OfAt k a b j L) (hj : j + 1 < (docE a b).length) (hw : docB k (hasS a (docE a b)[j]) (hasS b (docE a b)[j]) = false) : OfAt k a b (j + 1) L :=
  ⟨by have := h.1; omega, fun _ => doc_skip hj hw (h.2.1 (by omega)), fun h0 => by omega, fun _ => hj⟩
theorem of_yes {k : Int} {a b : List Sp} {j : Nat} {L : List Sp} (h : OfAt k a b j L) (hj : j + 1 < (docE a b).length) (hw : docB k (hasS a (docE a b)[j]) (hasS b (docE a b)[j]) = true) : OfAt k a b (j + 1) (addS L ((docE a b)[j], (docE a b)[j + 1])) :=
  ⟨by have := h.1; have := addS_len L ((docE a b)[j], (docE a b)[j + 1]); omega, fun _ => doc_put hj hw (h.2.1 (by omega)), fun h0 => by omega, fun _ => hj⟩

/-- Does the last span end there? -/
def lastIs (L : List Sp) (p : Int) : Bool := match L.getLast? with
  | some x => x.2 == p
  | none => false
theorem lastIs_nil (p : Int) : lastIs [] p = false := rfl
theorem lastIs_get {L : List Sp} {m : Nat} (h : L.length = m + 1) (p : Int) : lastIs L p = ((L[m]'(by omega)).2 == p) := by
  rcases split_last L with rfl | ⟨l, x, rfl⟩
  · exact absurd h (by simp)
  · rw [List.length_append, List.length_singleton] at h
    obtain rfl : m = l.length := by omega
    unfold lastIs
    rw [List.getLast?_concat]
    simp
theorem lastIs_yes {L : List Sp} {p : Int} (h : lastIs L p = true) (q : Int) : ∃ m, ∃ hm : L.length = m + 1, (L[m]'(by omega)).2 = p ∧ addS L (p, q) = L.set m ((L[m]'(by omega)).1, q) := by
  rcases Nat.eq_zero_or_pos L.length with hl | hl
  · rw [List.eq_nil_of_length_eq_zero hl] at h; cases h
  · obtain ⟨m, hm⟩ : ∃ m, L.length = m + 1 := ⟨L.length - 1, by omega⟩
    rw [lastIs_get hm] at h
    have e : (L[m]'(by omega)).2 = p := by simpa using h
    exact ⟨m, hm, e, addS_set L p q m hm.symm e⟩
theorem lastIs_no {L : List Sp} {p : Int} (h : lastIs L p = false) (q : Int) : addS L (p, q) = L ++ [(p, q)] :=
  addS_new L p q fun k hk e => by
    rw [lastIs_get hk.symm] at h
    simp [e] at h
set_option maxHeartbeats 4000000 in
set_option maxRecDepth 100000 in
theorem rOf_big (D D' : Nat → Prop) (A A' : Option Addr) (c c' : Nat) (a b : List Sp) (k : Int) (w : World) (ha : RdSp w D A a) (hb : RdSp w D' A' b) (la : a.length ≤ 1000) (lb : b.length ≤ 1000) :
    Calls Try.prog 20 #[.slice A a.length c, .slice A' b.length c', .int .i64 k] w fun e w' => ∃ v L, e = .returned v ∧ OwnSp w' w.heap.size v L ∧ IsR (docW (docB k) a b) L ∧ Below w.heap.size w w' := by
  go_enter Try.func20, Try.ntmps20
  go_wp2_with fail
  go_loopw [7, 8] (fun v i wr => ∃ j : Nat, j ≤ a.length ∧ i = .int .i64 (j : Int) ∧ Row1 wr v (putL [] (a.take j)) ∧ Below w.heap.size w wr) (fun _ i _ => a.length - (intOf i).toNat)
  case atStart => exact ⟨0, Nat.zero_le _, rfl, Row1.nil _, Below.refl _ _⟩
  case round =>
    obtain ⟨j, hj, rfl, hR, bw⟩ := hrel
    have HL : Hid ((putL [] (a.take j)).length ≤ 2000) := by
      have := putL_len (a.take j) []
      rw [List.length_take, List.length_nil] at this
      unfold Hid
      omega
    by_cases hlt : j < a.length
    · have HS := Lib.hid (putL_step [] a j hlt)
      have H2 := fun x y => Lib.hid (put2_len (putL [] (a.take j)) x y)
      generalize putL [] (a.take j) = E at *
      obtain ⟨ad, rfl, d0, d1⟩ := (ha.below bw).at_ hlt
      have hp1 := rPut_row hR a[j].1 (by have := HL.out; omega)
      go_wp2_with fail
      refine hp1.mono ?_
      clear hp1
      rintro e w1 ⟨v1, rfl, hR1, b1⟩
      have d1 := cell_belowS d1 b1
      have hp2 := rPut_row hR1 a[j].2 (by have := HL.out; have := (H2 a[j].1 a[j].2).out; omega)
      go_wp2_with fail
      refine hp2.mono ?_
      clear hp2
      rintro e w2 ⟨v2, rfl, hR2, b2⟩
      go_wp2_with fail
      go_roundw
      case rel => exact ⟨j + 1, by omega, by go_num, by rw [HS.out]; exact hR2, (bw.thenB' b1).thenB' b2⟩
      case measure => simp [intOf] <;> omega
    · obtain rfl : j = a.length := by omega
      have HT : Hid (putL [] (a.take a.length) = putL [] a) := by unfold Hid; rw [List.take_of_length_le (Nat.le_refl _)]
      rw [HT.out] at hR HL
      clear HT hlt hj
      go_wp2_with fail
      go_loopw [7, 9] (fun v i wz => ∃ j : Nat, j ≤ b.length ∧ i = .int .i64 (j : Int) ∧ Row1 wz v (putL (putL [] a) (b.take j)) ∧ Below w.heap.size w wz) (fun _ i _ => b.length - (intOf i).toNat)
      case atStart => exact ⟨0, Nat.zero_le _, rfl, hR, bw⟩
      case round =>
        clear hR bw
        obtain ⟨j, hj, rfl, hR, bw⟩ := hrel
        have HL2 : Hid ((putL (putL [] a) (b.take j)).length ≤ 4000) := by
          have := putL_len (b.take j) (putL [] a)
          have := HL.out
          rw [List.length_take] at *
          unfold Hid
          omega
        by_cases hlt : j < b.length
        · have HS := Lib.hid (putL_step (putL [] a) b j hlt)
          have H2 := fun x y => Lib.hid (put2_len (putL (putL [] a) (b.take j)) x y)
          generalize putL (putL [] a) (b.take j) = E at *
          obtain ⟨ad, rfl, d0, d1⟩ := (hb.below bw).at_ hlt
          have hp1 := rPut_row hR b[j].1 (by have := HL2.out; omega)
          go_wp2_with fail
          refine hp1.mono ?_
          clear hp1
          rintro e w1 ⟨v1, rfl, hR1, b1⟩
          have d1 := cell_belowS d1 b1
          have hp2 := rPut_row hR1 b[j].2 (by have := HL2.out; have := (H2 b[j].1 b[j].2).out; omega)
          go_wp2_with fail
          refine hp2.mono ?_
          clear hp2
          rintro e w2 ⟨v2, rfl, hR2, b2⟩
          go_wp2_with fail
          go_roundw
          case rel => exact ⟨j + 1, by omega, by go_num, by rw [HS.out]; exact hR2, (bw.thenB' b1).thenB' b2⟩
          case measure => simp [intOf] <;> omega
        · obtain rfl : j = b.length := by omega
          have HT : Hid (putL (putL [] a) (b.take b.length) = docE a b) := by unfold Hid; rw [List.take_of_length_le (Nat.le_refl _)]; rfl
          rw [HT.out] at hR HL2
          clear HT hlt hj HL
          obtain ⟨AE, nE, cE, rfl, hnE, rE, lE, mE⟩ := hR
          have hnE := hnE.out
          subst hnE
          go_wp2_with fail
          obtain ⟨wo, rfl⟩ : ∃ wo : World, wo = wr := ⟨_, rfl⟩
          go_loopw [10, 11, 12, 13, 14, 15] (fun v i s12 s13 s14 s15 wq => ∃ (j : Nat) (L : List Sp), j ≤ (docE a b).length ∧ i = .int .i64 (j : Int) ∧ OwnSp wq wo.heap.size v L ∧ Hid (OfAt k a b j L) ∧ Below wo.heap.size wo wq) (fun _ i _ _ _ _ _ => (docE a b).length - (intOf i).toNat)
          case atStart => exact ⟨0, [], Nat.zero_le _, rfl, OwnC.nil, Lib.hid (of_zero k a b), Below.refl _ _⟩
          case round =>
            obtain ⟨j, L, hj, rfl, oL, HO, bq⟩ := hrel
            have bqw := bw.trans (bq.mono bw.size)
            by_cases hlt : j + 1 < (docE a b).length
            · have hltI : (j : Int) + 1 < ((docE a b).length : Int) := by omega
              have hjl : j < (docE a b).length := by omega
              have hEL := HL2.out
              have HN := Lib.hid (fun hw => of_no HO.out hlt hw)
              have HYs := Lib.hid (fun hw => of_yes HO.out hlt hw)
              have rq := RdI.below rE bq
              obtain ⟨ad, rfl, _, e0⟩ := rq.at_ hjl
              have hadB : Hid (ad.block < wo.heap.size) := by
                obtain ⟨ad', hA, _, h⟩ := rE.at_ hjl
                injection hA with hA
                have h1 := World.block_lt_of_cell? wo _ h
                rw [block_of_add] at h1
                unfold Hid; rw [hA]; exact h1
              have e1 : wr.cell? (ad.add (j + 1)) = some (.int .i64 (docE a b)[j + 1]) := by
                obtain ⟨ad', hA, _, h⟩ := rq.at_ hlt
                injection hA with hA
                rw [hA]; exact h
              have hx := rHas_any D A c a (docE a b)[j] wr (ha.below bqw) (by omega)
              have hy := rHas_any D' A' c' b (docE a b)[j] wr (hb.below bqw) (by omega)
              generalize hasS a (docE a b)[j] = x at *
              generalize hasS b (docE a b)[j] = y at *
              generalize (docE a b)[j] = p at *
              generalize (docE a b)[j + 1] = q at *
              have hLj := HO.out.1
              clear HO
              go_wp2_with fail
              refine hx.mono ?_
              clear hx
              rintro e x9 ⟨rfl, rfl⟩
              go_wp2_with fail
              refine hy.mono ?_
              clear hy
              rintro e x9 ⟨rfl, rfl⟩
              go_upto_region 18 with fail
              go_cut [14] from 56 to 132 (fun s wx => s = .bool (x || y) ∧ wr = wx)
              case first =>
                clear HN HYs
                cases x
                all_goals
                  go_wp2_with fail
                  go_meet
                  case rel => exact ⟨rfl, rfl⟩
              case rest =>
                obtain ⟨rfl, rfl⟩ := hcut
                go_upto_if 80 with fail
                go_cut [14] from 56 to 132 (fun s wx => s = .bool (docB2 k x y) ∧ wr = wx)
                case first =>
                  clear HN HYs
                  obtain ⟨t2, hk2⟩ : ∃ t, (k == 2) = t := ⟨_, rfl⟩
                  have HK2 := Lib.hid hk2
                  simp only [hk2]
                  clear hk2
                  cases t2
                  · go_wp2_with fail
                    go_meet
                    case rel => exact ⟨by unfold docB2; rw [if_neg (by simpa using HK2.out)], rfl⟩
                  · cases x
                    all_goals
                      go_wp2_with fail
                      go_meet
                      case rel => exact ⟨by unfold docB2; rw [if_pos (by simpa using HK2.out)] <;> rfl, rfl⟩
                case rest =>
                  obtain ⟨rfl, rfl⟩ := hcut
                  go_upto_if 86 with fail
                  go_cut [14] from 56 to 132 (fun s wx => s = .bool (docB k x y) ∧ wr = wx)
                  case first =>
                    clear HN HYs
                    obtain ⟨t3, hk3⟩ : ∃ t, (k == 3) = t := ⟨_, rfl⟩
                    have HK3 := Lib.hid hk3
                    simp only [hk3]
                    clear hk3
                    cases t3
                    · go_wp2_with fail
                      go_meet
                      case rel => exact ⟨by unfold docB docB2; rw [if_neg (c := k = 3) (by simpa using HK3.out)], rfl⟩
                    · cases x
                      all_goals
                        go_wp2_with fail
                        go_meet
                        case rel => exact ⟨by unfold docB; rw [if_pos (by simpa using HK3.out)] <;> rfl, rfl⟩
                  case rest =>
                    obtain ⟨rfl, rfl⟩ := hcut
                    generalize docB k x y = z at *
                    cases z
                    · have HNo := Lib.hid (HN.out rfl)
                      clear HN HYs
                      go_wp2_with fail
                      go_roundw
                      case rel => exact ⟨j + 1, L, by omega, by go_num, oL, HNo.out, bq⟩
                      case measure => simp [intOf] <;> omega
                    · have HYo := Lib.hid (HYs.out rfl)
                      clear HN HYs
                      obtain ⟨A9, n9, c9, rfl, hn9, l9, m9⟩ := OwnC.form' oL
                      have hnj : n9 ≤ j := by rw [hn9.out]; exact hLj
                      clear hLj
                      go_upto_region 25 with fail
                      go_cut [110] from 56 to 132 (fun s wx => s = .bool (lastIs L p) ∧ Below wr.heap.size wr wx)
                      case first =>
                        clear HYo
                        by_cases h0 : n9 = 0
                        · have HLN : Hid (lastIs L p = false) := by
                            have h1 : L = [] := List.eq_nil_of_length_eq_zero (by rw [← hn9.out]; exact h0)
                            unfold Hid; rw [h1]; exact lastIs_nil p
                          subst h0
                          clear l9 oL hn9
                          go_quiet (fail)
                          go_wp2_with fail
                          go_meet
                          case rel => exact ⟨by rw [HLN.out], below_drewN (Below.refl _ _) _⟩
                        · obtain ⟨m, rfl⟩ : ∃ m, n9 = m + 1 := ⟨n9 - 1, by omega⟩
                          have hml : m < L.length := by rw [← hn9.out]; omega
                          obtain ⟨ag, rfl, _, c1⟩ := (OwnSp.rd oL).at_ hml
                          have hLm : L.length = m + 1 := hn9.out.symm
                          have HLS := Lib.hid (lastIs_get hLm p)
                          clear oL hn9
                          generalize hlm : L[m] = lm at *
                          clear hlm
                          generalize lastIs L p = z at *
                          clear h0 hLm hml
                          have g0 : (0 : Int) ≤ ((m + 1 : Nat) : Int) - 1 := by omega
                          have gd : decide ((0 : Int) ≤ ((m + 1 : Nat) : Int) - 1) = true := decide_eq_true g0
                          go_quiet (fail)
                          go_wp2_with fail
                          go_meet
                          case rel => exact ⟨by rw [HLS.out], below_drewN (Below.refl _ _) _⟩
                      case rest =>
                        obtain ⟨hs110, b25⟩ := hcut
                        have oL := OwnC.below oL b25
                        have e0 := cell_belowS e0 b25
                        have e1 := cell_belowS e1 b25
                        have bq := bq.thenB' b25
                        clear b25 bqw
                        cases hz : lastIs L p
                        · rw [hz] at hs110
                          have HA := Lib.hid (lastIs_no hz q)
                          clear hz
                          subst hs110
                          have hLn : L.length ≤ j := by rw [← hn9.out]; exact hnj
                          go_wp2_with fail
                          refine r_start (R := RW wo.heap.size) (by rfl) (n := 14) (L := #[false, false, false, false, false, false, false, false, false, false, false, false, false, false]) rfl rfl ?_
                          have bd : Below wc.heap.size wc (wc.drew) := (Below.refl _ _).drew
                          have oL := OwnC.below oL bd
                          have e0 := cell_belowS e0 bd
                          have e1 := cell_belowS e1 bd
                          have bq := bq.thenB' bd
                          generalize wc.drew = wd at *
                          clear bd
                          have hwB := bq.size
                          have jW : IntKind.i64.wrap ((j : Int) + 1) = (j : Int) + 1 := by rw [IntKind.wrap_i64]; omega
                          have j0 : (0 : Int) ≤ (j : Int) + 1 := by omega
                          have jT : ((j : Int) + 1).toNat = j + 1 := by omega
                          have hadB := hadB.out
                          refine r_flt (RW_refl _) 0 120 #[true, false, false, false, false, false, false, false, false, false, false, false, false, false] (by simp only [List.getElem?_toArray, List.getElem?_cons_zero]; rfl) (by rfl) (by kernel_rfl) (by kernel_rfl) (by kernel_rfl) (fun _ _ _ _ h => h) rfl (by rfl) ?_
                          apply Exists.intro
                          apply And.intro
                          · intro W hW
                            first | (go_simp; with_reducible rfl) | go_simp
                          (try simp only [Act.put, List.setIfInBounds_toArray]); (try simp only [List.set_cons_succ]); (try simp only [List.set_cons_zero])
                          refine r_flt (RW_refl _) 1 121 #[true, true, false, false, false, false, false, false, false, false, false, false, false, false] (by simp only [List.getElem?_toArray, List.getElem?_cons_succ, List.getElem?_cons_zero]; rfl) (by rfl) (by kernel_rfl) (by kernel_rfl) (by kernel_rfl) (fun _ _ _ _ h => h) rfl (by rfl) ?_
                          apply Exists.intro
                          apply And.intro
                          · intro W hW
                            first | (go_simp; with_reducible rfl) | go_simp
                          (try simp only [Act.put, List.setIfInBounds_toArray]); (try simp only [List.set_cons_succ]); (try simp only [List.set_cons_zero])
                          refine r_flt (RW_refl _) 2 122 #[true, true, true, false, false, false, false, false, false, false, false, false, false, false] (by simp only [List.getElem?_toArray, List.getElem?_cons_succ, List.getElem?_cons_zero]; rfl) (by rfl) (by kernel_rfl) (by kernel_rfl) (by kernel_rfl) (fun _ _ _ _ h => h) rfl (by rfl) ?_
                          apply Exists.intro
                          apply And.intro
                          · intro W hW
                            first | (go_simp; with_reducible rfl) | go_simp
                          (try simp only [Act.put, List.setIfInBounds_toArray]); (try simp only [List.set_cons_succ]); (try simp only [List.set_cons_zero])
                          refine r_flt (RW_refl _) 3 123 #[true, true, true, true, false, false, false, false, false, false, false, false, false, false] (by simp only [List.getElem?_toArray, List.getElem?_cons_succ, List.getElem?_cons_zero]; rfl) (by rfl) (by kernel_rfl) (by kernel_rfl) (by kernel_rfl) (fun _ _ _ _ h => h) rfl (by rfl) ?_
                          apply Exists.intro
                          apply And.intro
                          · intro W hW
                            first | (go_simp; with_reducible rfl) | go_simp
                          (try simp only [Act.put, List.setIfInBounds_toArray]); (try simp only [List.set_cons_succ]); (try simp only [List.set_cons_zero])
                          refine r_flt (RW_refl _) 4 124 #[true, true, true, true, true, false, false, false, false, false, false, false, false, false] (by simp only [List.getElem?_toArray, List.getElem?_cons_succ, List.getElem?_cons_zero]; rfl) (by rfl) (by kernel_rfl) (by kernel_rfl) (by kernel_rfl) (fun _ _ _ _ h => h) rfl (by rfl) ?_
                          apply Exists.intro
                          apply And.intro
                          · intro W hW
                            have c9 := RW_cell hW e0 (by rw [block_of_add]; exact hadB)
                            first | (go_simp; with_reducible rfl) | go_simp
                          (try simp only [Act.put, List.setIfInBounds_toArray]); (try simp only [List.set_cons_succ]); (try simp only [List.set_cons_zero])
                          refine r_flt (RW_refl _) 5 125 #[true, true, true, true, true, true, false, false, false, false, false, false, false, false] (by simp only [List.getElem?_toArray, List.getElem?_cons_succ, List.getElem?_cons_zero]; rfl) (by rfl) (by kernel_rfl) (by kernel_rfl) (by kernel_rfl) (fun _ _ _ _ h => h) rfl (by rfl) ?_
                          apply Exists.intro
                          apply And.intro
                          · intro W hW
                            first | (go_simp; with_reducible rfl) | go_simp
                          (try simp only [Act.put, List.setIfInBounds_toArray]); (try simp only [List.set_cons_succ]); (try simp only [List.set_cons_zero])
                          refine r_flt (RW_refl _) 6 126 #[true, true, true, true, true, true, true, false, false, false, false, false, false, false] (by simp only [List.getElem?_toArray, List.getElem?_cons_succ, List.getElem?_cons_zero]; rfl) (by rfl) (by kernel_rfl) (by kernel_rfl) (by kernel_rfl) (fun _ _ _ _ h => h) rfl (by rfl) ?_
                          apply Exists.intro
                          apply And.intro
                          · intro W hW
                            first | (go_simp; with_reducible rfl) | go_simp
                          (try simp only [Act.put, List.setIfInBounds_toArray]); (try simp only [List.set_cons_succ]); (try simp only [List.set_cons_zero])
                          refine r_flt (RW_refl _) 7 127 #[true, true, true, true, true, true, true, true, false, false, false, false, false, false] (by simp only [List.getElem?_toArray, List.getElem?_cons_succ, List.getElem?_cons_zero]; rfl) (by rfl) (by kernel_rfl) (by kernel_rfl) (by kernel_rfl) (fun _ _ _ _ h => h) rfl (by rfl) ?_
                          apply Exists.intro
                          apply And.intro
                          · intro W hW
                            first | (go_simp; with_reducible rfl) | go_simp
                          (try simp only [Act.put, List.setIfInBounds_toArray]); (try simp only [List.set_cons_succ]); (try simp only [List.set_cons_zero])
                          refine r_flt (RW_refl _) 8 128 #[true, true, true, true, true, true, true, true, true, false, false, false, false, false] (by simp only [List.getElem?_toArray, List.getElem?_cons_succ, List.getElem?_cons_zero]; rfl) (by rfl) (by kernel_rfl) (by kernel_rfl) (by kernel_rfl) (fun _ _ _ _ h => h) rfl (by rfl) ?_
                          apply Exists.intro
                          apply And.intro
                          · intro W hW
                            first | (go_simp; with_reducible rfl) | go_simp
                          (try simp only [Act.put, List.setIfInBounds_toArray]); (try simp only [List.set_cons_succ]); (try simp only [List.set_cons_zero])
                          refine r_flt (RW_refl _) 9 129 #[true, true, true, true, true, true, true, true, true, true, false, false, false, false] (by simp only [List.getElem?_toArray, List.getElem?_cons_succ, List.getElem?_cons_zero]; rfl) (by rfl) (by kernel_rfl) (by kernel_rfl) (by kernel_rfl) (fun _ _ _ _ h => h) rfl (by rfl) ?_
                          apply Exists.intro
                          apply And.intro
                          · intro W hW
                            have c9 := RW_cell hW e1 (by rw [block_of_add]; exact hadB)
                            rw [show ad.add (j + 1) = ⟨ad.block, ad.off + (j + 1), none⟩ from by unfold Addr.add; rw [if_neg (by omega)]] at c9
                            first | (go_simp; with_reducible rfl) | go_simp
                          (try simp only [Act.put, List.setIfInBounds_toArray]); (try simp only [List.set_cons_succ]); (try simp only [List.set_cons_zero])
                          refine r_flt (RW_refl _) 10 130 #[true, true, true, true, true, true, true, true, true, true, true, false, false, false] (by simp only [List.getElem?_toArray, List.getElem?_cons_succ, List.getElem?_cons_zero]; rfl) (by rfl) (by kernel_rfl) (by kernel_rfl) (by kernel_rfl) (fun _ _ _ _ h => h) rfl (by rfl) ?_
                          apply Exists.intro
                          apply And.intro
                          · intro W hW
                            first | (go_simp; with_reducible rfl) | go_simp
                          (try simp only [Act.put, List.setIfInBounds_toArray]); (try simp only [List.set_cons_succ]); (try simp only [List.set_cons_zero])
                          refine r_one (RW_trans _) 11 (by kernel_rfl) ?_
                          refine alt_val 131 #[true, true, true, true, true, true, true, true, true, true, true, true, false, false] (by simp only [List.getElem?_toArray, List.getElem?_cons_succ, List.getElem?_cons_zero]; rfl) (by rfl) rfl (by rfl) (by go_simp; first | exact ⟨rfl, rfl⟩ | rfl) ?_ ?_
                          · exact RW_new _ _ _ hwB
                          (try simp only [Act.put, List.setIfInBounds_toArray]); (try simp only [List.set_cons_succ]); (try simp only [List.set_cons_zero])
                          refine r_one (RW_trans _) 12 (by kernel_rfl) ?_
                          obtain ⟨v4, w4, hrun, o4, b4, b5⟩ := run_appSp wd _ 31 _ _ oL (p, q) (by omega) hwB
                          refine alt_val 132 #[true, true, true, true, true, true, true, true, true, true, true, true, true, false] (by simp only [List.getElem?_toArray, List.getElem?_cons_succ, List.getElem?_cons_zero]; rfl) (by rfl) rfl (by rfl) (exec_appSp rfl rfl rfl hrun) ?_ ?_
                          · exact b5
                          (try simp only [Act.put, List.setIfInBounds_toArray]); (try simp only [List.set_cons_succ]); (try simp only [List.set_cons_zero])
                          refine r_flt (RW_refl _) 13 10 #[true, true, true, true, true, true, true, true, true, true, true, true, true, true] (by simp only [List.getElem?_toArray, List.getElem?_cons_succ, List.getElem?_cons_zero]; rfl) (by rfl) (by kernel_rfl) (by kernel_rfl) (by kernel_rfl) (fun _ _ _ _ h => h) rfl (by rfl) ?_
                          apply Exists.intro
                          apply And.intro
                          · intro W hW
                            first | (go_simp; with_reducible rfl) | go_simp
                          (try simp only [Act.put, List.setIfInBounds_toArray]); (try simp only [List.set_cons_succ]); (try simp only [List.set_cons_zero])
                          refine r_done (by kernel_rfl) ?_
                          clear hrun jW j0 jT e0 e1 hwB
                          go_wp2_with fail
                          go_roundw
                          case rel => exact ⟨j + 1, _, by omega, by go_num, o4, by rw [← HA.out]; exact HYo.out, bq.trans b4⟩
                          case measure => simp [intOf] <;> omega
                        · rw [hz] at hs110
                          obtain ⟨m, hm, he, hadd⟩ := lastIs_yes hz q
                          have HA := Lib.hid hadd
                          clear hz he hadd
                          subst hs110
                          obtain rfl : n9 = m + 1 := by rw [hn9.out]; exact hm
                          have hml : m < L.length := by omega
                          obtain ⟨ag, rfl, g1, g2, c1, f1, g3, g4⟩ := OwnSp.store oL hml
                          have hO := g4 q
                          have hB4 := Lib.hid (bq.setCell (p := ⟨(ag.add (m * 2)).block, (ag.add (m * 2)).off + 1, none⟩) (by show _ ≤ (ag.add (m * 2)).block; rw [g3]; exact g1) (.int .i64 q))
                          clear g4 hn9 oL g1 g2 g3
                          generalize hL2 : L.set m (L[m].1, q) = L2 at *
                          clear hL2
                          generalize hLm : L[m] = lm at *
                          clear hLm hml
                          rw [show ad.add (j + 1) = ⟨ad.block, ad.off + (j + 1), none⟩ from by unfold Addr.add; rw [if_neg (by omega)]] at e1
                          go_wp2_with fail
                          go_roundw
                          case rel => exact ⟨j + 1, L2, by omega, by go_num, hO, by rw [← HA.out]; exact HYo.out, hB4.out⟩
                          case measure => simp [intOf] <;> omega
            · have HZ := Lib.hid (of_stop HO.out hlt)
              have hltI : ¬ (j : Int) + 1 < ((docE a b).length : Int) := by omega
              have hEL := HL2.out
              go_wp2_with fail
              go_ret
              exact ⟨_, rfl, L, OwnC.low oL bw.size, HZ.out, bqw⟩
theorem rOf_any (D D' : Nat → Prop) (A A' : Option Addr) (c c' : Nat) (a b : List Sp) (k : Int) (w : World) (ha : RdSp w D A a) (hb : RdSp w D' A' b) (la : a.length ≤ 100) (lb : b.length ≤ 100) :
    Calls Try.prog 20 #[.slice A a.length c, .slice A' b.length c', .int .i64 k] w fun e w' => ∃ v L, e = .returned v ∧ OwnSp w' w.heap.size v L ∧ IsR (docW (docB k) a b) L ∧ Below w.heap.size w w' :=
  rOf_big D D' A A' c c' a b k w ha hb (by omega) (by omega)
end Go.Proofs.Ytcdodchjgadcoaa
