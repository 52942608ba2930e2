/- Where two differ: the document. -/
import Derived.Test.YtcdodchjgadcoaaAbQ
import Derived.Test.YtcdodchjgadcoaaSpF
import Derived.BigQuiet
namespace Go.Proofs.Ytcdodchjgadcoaa
open Go.RowKit
set_option linter.unusedVariables false
set_option maxRecDepth 100000

def diffF (a b : List UInt8) (n : Int) : Bool := decide (0 ≤ n ∧ n < 512) && (atO a n.toNat != atO b n.toNat)
def diffE (p : PI) (a b : Int) : Int := if asE p a ≠ 0 then asE p a else asE p b
def diffR (p : PI) (a b : Int) : Int → Bool := diffF (asD p a) (asD p b)
/-- What the two functions tell. -/
def Differs (w : World) (p : PI) (a b : Int) (e : Ending) (w' : World) : Prop := ∃ v L, e = .returned (.tuple #[v, .int .i64 (diffE p a b)]) ∧ OwnSp w' w.heap.size v L ∧ (diffE p a b = 0 → IsR (diffR p a b) L) ∧ (diffE p a b ≠ 0 → L = []) ∧ Below w.heap.size w w'
theorem diff_nat (a b : List UInt8) (k : Nat) (h : k < 512) : diffF a b (k : Int) = (atO a k != atO b k) := by
  unfold diffF
  rw [decide_eq_true (by omega), Bool.true_and, Int.toNat_natCast]
theorem diff_out (a b : List UInt8) (n : Int) (h : n < 0 ∨ 512 ≤ n) : diffF a b n = false := by
  unfold diffF
  rw [decide_eq_false (by omega), Bool.false_and]
theorem differs_nil {w w' : World} {p : PI} {a b v : Int} (h : diffE p a b = v) (h0 : v ≠ 0) (bb : Below w.heap.size w w') : Differs w p a b (.returned (.tuple #[.slice none 0 0, .int .i64 v])) w' := by
  subst h
  exact ⟨_, [], rfl, OwnC.nil, fun e => absurd e h0, fun _ => rfl, bb⟩
theorem diffE_a {p : PI} {a b : Int} (h : mayI p = false) : diffE p a b = 1 := by unfold diffE asE; rw [if_pos h]; rfl
theorem diffE_b {p : PI} {a b : Int} (h : mayI p = true) (h' : (asO p a).isSome = false ∨ (asO p b).isSome = false) : diffE p a b = 182 := by
  have hn : ¬ (mayI p = false) := by rw [h]; decide
  unfold diffE asE
  simp only [if_neg hn]
  cases ha : (asO p a).isSome
  · rfl
  · rw [ha] at h'
    rcases h' with h' | h'
    · cases h'
    · rw [h']; rfl
theorem diffE_c {p : PI} {a b : Int} (h : mayI p = true) (h1 : (asO p a).isSome = true) (h2 : (asO p b).isSome = true) : diffE p a b = 0 := by
  have hn : ¬ (mayI p = false) := by rw [h]; decide
  unfold diffE asE
  simp only [if_neg hn]
  rw [h1, h2]; rfl
theorem asD_is {p : PI} {a : Int} (h : mayI p = true) : asD p a = bytesD p a := by unfold asD bytesD; rw [if_neg (by rw [h]; decide)]
theorem cB_beq (x y : UInt8) : (((x.toNat : Int)) == ((y.toNat : Int))) = (x == y) := by
  cases h : x == y
  · have : x ≠ y := by simpa using h
    have h2 : x.toNat ≠ y.toNat := fun e => this (UInt8.toNat_inj.1 e)
    simp
    omega
  · have : x = y := by simpa using h
    subst this
    simp
set_option maxHeartbeats 8000000 in
theorem rDiffer_any (D : Nat → Prop) (i : ImV) (fr tt : Int) (w : World) (hr : ImR w D i) :
    Calls Try.prog 15 #[.agg (imA i), .int .i64 fr, .int .i64 tt] w (Differs w i.p fr tt) := by
  have bb := below_new w (.cells (imA i) 25)
  have hB := Blk.new w 25 (imA i)
  have has := rMay18_any D i _ (hr.below bb)
  have hby := fun W (b : Below w.heap.size w W) snap => bytes_any D i snap W (hr.below b)
  have hEa := diffE_a (p := i.p) (a := fr) (b := tt)
  have hEb := diffE_b (p := i.p) (a := fr) (b := tt)
  have hEc := diffE_c (p := i.p) (a := fr) (b := tt)
  have hD := fun a => asD_is (p := i.p) (a := a)
  have hR : diffR i.p fr tt = diffF (asD i.p fr) (asD i.p tt) := rfl
  have hl := asD_len (p := i.p)
  unfold imA at *
  generalize hw0 : w.alloc (.cells #[.slice i.DA i.d.length i.dc, .slice i.CA i.S.length i.cc, .int .i64 i.last] 25) = w0 at *
  cases hm : mayI i.p
  focus
    rw [hm] at has
    have E := Lib.hid (hEa hm)
    clear hEa hEb hEc hD hR hl hby hm
    go_enter Try.func15, Try.ntmps15
    go_wp2_with first
      | (with_reducible show wpList _ _ _ _ _ _
         refine wpList_load_row rfl 25 (.tmp 3) rfl w.heap.size rfl 25 _ (0, 0) _ hB Try.underlying25 rfl infoIm ?_)
    refine has.mono ?_
    clear has hw0
    rintro e w2 ⟨rfl, b2⟩
    go_wp2_with fail
    (try simp only [Exit.inBlock, Exit.then])
    refine bodyPost_ret (results_tmp2 rfl _ _ _) rfl ?_
    exact differs_nil E.out (by decide) (bb.thenB' b2)
  rw [hm] at has
  rw [hD fr hm, hD tt hm] at hR
  have hla := hD fr hm ▸ hl fr
  have hlb := hD tt hm ▸ hl tt
  clear hEa hD hl
  have hEb := hEb hm
  have hEc := hEc hm
  clear hm
  have hbya := fun W b => hby W b fr
  have hbyb := fun W b => hby W b tt
  clear hby
  generalize (asO i.p fr).isSome = s1 at *
  generalize (asO i.p tt).isSome = s2 at *
  generalize bytesD i.p fr = a at *
  generalize bytesD i.p tt = b at *
  go_enter Try.func15, Try.ntmps15
  go_wp2_with first
    | (with_reducible show wpList _ _ _ _ _ _
       refine wpList_load_row rfl 25 (.tmp 3) rfl w.heap.size rfl 25 _ (0, 0) _ hB Try.underlying25 rfl infoIm ?_)
  refine has.mono ?_
  clear has hw0
  rintro e w2 ⟨rfl, b2⟩
  replace hB := hB.below b2
  replace bb := bb.thenB' b2
  have hbya := hbya w2 bb
  go_wp2_with first
    | (with_reducible show wpList _ _ _ _ _ _
       refine wpList_load_row rfl 25 (.tmp 3) rfl w.heap.size rfl 25 _ (0, 0) _ hB Try.underlying25 rfl infoIm ?_)
  refine hbya.mono ?_
  clear hbya b2
  rintro e w3 ⟨A1, c1, rfl, ra, la, ma, b3⟩
  replace hB := hB.below b3
  replace bb := bb.thenB' b3
  have hbyb := hbyb w3 bb
  go_wp2_with first
    | (with_reducible show wpList _ _ _ _ _ _
       refine wpList_load_row rfl 25 (.tmp 3) rfl w.heap.size rfl 25 _ (0, 0) _ hB Try.underlying25 rfl infoIm ?_)
  refine hbyb.mono ?_
  clear hbyb
  rintro e w4 ⟨A2, c2, rfl, rb, lb, mb, b4⟩
  replace bb := bb.thenB' b4
  have ra := ra.below b4
  clear b4 b3 hB
  cases s1
  focus
    have E := Lib.hid (hEb (.inl rfl))
    clear hEb hEc
    go_wp2_with fail
    (try simp only [Exit.inBlock, Exit.then])
    refine bodyPost_ret (results_tmp2 rfl _ _ _) rfl ?_
    exact differs_nil E.out (by decide) bb
  cases s2
  focus
    have E := Lib.hid (hEb (.inr rfl))
    clear hEb hEc
    go_wp2_with fail
    (try simp only [Exit.inBlock, Exit.then])
    refine bodyPost_ret (results_tmp2 rfl _ _ _) rfl ?_
    exact differs_nil E.out (by decide) bb
  have E := Lib.hid (hEc rfl rfl)
  have HR := Lib.hid hR
  clear hEb hEc hR
  go_wp2_with fail
  go_loopw [13, 14] (fun v n wr => ∃ (k : Nat) (L : List Sp), k ≤ 512 ∧ n = .int .i64 (k : Int) ∧ OwnSp wr w4.heap.size v L ∧ Hid (Upto (diffF a b) L (k : Int)) ∧ L.length ≤ k ∧ Below w4.heap.size w4 wr) (fun _ n _ => 512 - (intOf n).toNat)
  case atStart => exact ⟨0, [], by decide, rfl, OwnC.nil, Lib.hid (Upto.nil fun n hn => diff_out a b n (.inl hn)), Nat.le_refl _, Below.refl _ _⟩
  case round =>
    obtain ⟨k, L, hk, rfl, oL, HU, hLk, bq⟩ := hrel
    by_cases hlt : k < 512
    · have hN := diff_nat a b k hlt
      have hca := at_any D A1 c1 a k wr (ra.below bq) (by omega) (by omega)
      have g1 : (k : Int) < 512 := by omega
      go_upto_region 12 with fail
      go_wp2_with fail
      refine hca.mono ?_
      clear hca
      rintro e w5 ⟨rfl, b5⟩
      have bq5 := bq.thenB' b5
      have hcb := at_any D A2 c2 b k w5 (rb.below bq5) (by omega) (by omega)
      have oL := OwnC.below oL b5
      clear b5 bq
      go_wp2_with fail
      refine hcb.mono ?_
      clear hcb
      rintro e w6 ⟨rfl, b6⟩
      have bq := bq5.thenB' b6
      have oL := OwnC.below oL b6
      clear b6 bq5
      unfold cB
      have hx := cB_beq (atO a k) (atO b k)
      have hx2 : (((atO a k).toNat : Int) == ((atO b k).toNat : Int)) = !(diffF a b (k : Int)) := by rw [hx, hN]; unfold bne; cases atO a k == atO b k <;> rfl
      clear hx hN
      generalize ((atO a k).toNat : Int) = x at *
      generalize ((atO b k).toNat : Int) = y at *
      cases hz : diffF a b (k : Int)
      · rw [hz] at hx2
        have HS := Lib.hid (HU.out.skip (q := (k : Int) + 1) (by omega) (fun n h1 h2 => by rw [show n = (k : Int) from by omega]; exact hz))
        clear hz
        go_wp2_with fail
        go_roundw
        case rel => exact ⟨k + 1, L, by omega, by go_num, oL, HS, by omega, bq⟩
        case measure => simp [intOf] <;> omega
      · rw [hz] at hx2
        have HS := Lib.hid (HU.out.put (q := (k : Int) + 1) (by omega) (by omega) (by unfold farS; omega) (fun n h1 h2 => by rw [show n = (k : Int) from by omega]; exact hz))
        clear hz
        obtain ⟨ao, n9, c9, rfl, hn9, l9, m9⟩ := OwnC.form' oL
        have hnj : n9 ≤ k := by rw [hn9.out]; exact hLk
        go_upto_region 14 with fail
        go_cut [62] from 52 to 75 (fun s wx => s = .bool (lastIs L (k : Int)) ∧ Below w6.heap.size w6 wx)
        case first =>
          by_cases h0 : n9 = 0
          · have HLN : Hid (lastIs L (k : Int) = false) := by
              have h1 : L = [] := List.eq_nil_of_length_eq_zero (by rw [← hn9.out]; exact h0)
              unfold Hid; rw [h1]; exact lastIs_nil _
            subst h0
            clear l9 oL hn9
            go_wp2_with fail
            go_meet
            case rel => exact ⟨by rw [HLN.out], Below.refl _ _⟩
          · obtain ⟨m, rfl⟩ : ∃ m, n9 = m + 1 := ⟨n9 - 1, by omega⟩
            have hml : m < L.length := by rw [← hn9.out]; omega
            obtain ⟨ag, rfl, _, c5⟩ := (OwnSp.rd oL).at_ hml
            have hLm : L.length = m + 1 := hn9.out.symm
            have HLS := Lib.hid (lastIs_get hLm (k : Int))
            clear oL hn9
            generalize hlm : L[m] = lm at *
            clear hlm
            generalize lastIs L (k : Int) = z at *
            clear h0 hLm hml
            have g0 : (0 : Int) ≤ ((m + 1 : Nat) : Int) - 1 := by omega
            have gd : decide ((0 : Int) ≤ ((m + 1 : Nat) : Int) - 1) = true := decide_eq_true g0
            go_wp2_with fail
            go_meet
            case rel => exact ⟨by rw [HLS.out], Below.refl _ _⟩
        case rest =>
          obtain ⟨hs62, b7⟩ := hcut
          have oL := OwnC.below oL b7
          have bq := bq.thenB' b7
          clear b7
          cases hz : lastIs L (k : Int)
          · rw [hz] at hs62
            have HA := Lib.hid (lastIs_no hz ((k : Int) + 1))
            clear hz
            subst hs62
            have bn := below_new wc (.cells #[.int .i64 (k : Int), .int .i64 ((k : Int) + 1)] 53)
            have hwB := bq.size
            go_wp2_with first
              | (with_reducible show wpList _ _ _ _ _ _
                 refine wpList_appSp rfl (.tmp 69) (.tmp 74) rfl w4.heap.size _ L [((k : Int), (k : Int) + 1)] rfl (OwnC.below oL bn) (· = wc.heap.size) (some ⟨wc.heap.size, 0, none⟩) 1 1 rfl rfl (rd_newSp wc ((k : Int), (k : Int) + 1)) (by simp; omega) (Nat.le_trans hwB bn.size) ?_
                 intro v4 w7 o4 x4)
            go_roundw
            case rel => exact ⟨k + 1, L ++ [((k : Int), (k : Int) + 1)], by omega, by go_num, o4, by rw [← HA.out]; exact HS.out, by simp; omega, (bq.thenB' bn).trans (x4.below (OwnC.below oL bn) (Nat.le_refl _) (Nat.le_trans hwB bn.size))⟩
            case measure => simp [intOf] <;> omega
          · rw [hz] at hs62
            obtain ⟨m, hm, he, hadd⟩ := lastIs_yes hz ((k : Int) + 1)
            have HA := Lib.hid hadd
            clear hz he hadd
            subst hs62
            obtain rfl : n9 = m + 1 := by rw [hn9.out]; exact hm
            have hml : m < L.length := by omega
            obtain ⟨ag, rfl, g1', g2, c5, f1, g3, g4⟩ := OwnSp.store oL hml
            have hO := g4 ((k : Int) + 1)
            have hB4 := Lib.hid (bq.setCell (p := ⟨(ag.add (m * 2)).block, (ag.add (m * 2)).off + 1, none⟩) (by show _ ≤ (ag.add (m * 2)).block; rw [g3]; exact g1') (.int .i64 ((k : Int) + 1)))
            have hl2 : (L.set m (L[m].1, (k : Int) + 1)).length ≤ k + 1 := by rw [List.length_set]; omega
            have HL2 := Lib.hid hl2
            clear g4 hn9 oL g1' g2 g3 hl2
            generalize hL2 : L.set m (L[m].1, (k : Int) + 1) = L2 at *
            clear hL2
            generalize hLm : L[m] = lm at *
            clear hLm hml
            go_wp2_with fail
            go_roundw
            case rel => exact ⟨k + 1, L2, by omega, by go_num, hO, by rw [← HA.out]; exact HS.out, HL2.out, hB4.out⟩
            case measure => simp [intOf] <;> omega
    · obtain rfl : k = 512 := by omega
      have HZ := Lib.hid (HU.out.end_ (fun n hn => diff_out a b n (.inr hn)))
      go_wp2_with fail
      (try simp only [Exit.inBlock, Exit.then])
      refine bodyPost_ret (results_tmp2 rfl _ _ _) rfl ?_
      refine ⟨_, L, by rw [E.out]; rfl, OwnC.low oL bb.size, fun _ => ⟨HZ.out.1, fun n => by rw [HR.out]; exact HZ.out.2 n⟩, fun h => absurd E.out h, bb.thenB' bq⟩
end Go.Proofs.Ytcdodchjgadcoaa
