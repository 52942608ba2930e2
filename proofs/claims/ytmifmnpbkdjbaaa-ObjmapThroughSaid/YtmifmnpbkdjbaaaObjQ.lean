/- The document's Pack. -/
import Derived.Test.YtmifmnpbkdjbaaaObjP
namespace Go.Proofs.Ytmifmnpbkdjbaaa
open Go.RowKit
set_option linter.unusedVariables false

def packT (m : List Int) (q : Nat) : List UInt8 := [UInt8.ofNat ((rowO m).length / 256), UInt8.ofNat ((rowO m).length % 256)] ++ (List.range q).map fun q => UInt8.ofNat (quadO m q)
theorem packT_succ (m : List Int) (q : Nat) : packT m (q + 1) = packT m q ++ [UInt8.ofNat (quadO m q)] := by
  unfold packT; rw [List.range_succ, List.map_append, List.append_assoc]; rfl
theorem packT_len (m : List Int) (q : Nat) : (packT m q).length = 2 + q := by unfold packT; simp; omega
theorem gO_row (m : List Int) (k : Nat) : gO (rowO m) (k : Int) = gN m k := by rw [gO_nat, gN_rowO]

set_option maxHeartbeats 1000000 in
set_option maxRecDepth 100000 in
theorem rPack_any (D : Nat → Prop) (A : Option Addr) (c : Nat) (m : List Int) (w : World) (h : RdI w D A m) (hc : m.length ≤ c) (hm : c ≤ 9223372036854775807) :
    Calls Try.prog 27 #[.slice A m.length c] w fun e w' => ∃ v, e = .returned v ∧ OwnB w' w.heap.size v (packO m) ∧ Below w.heap.size w w' := by
  have hr5 : (rowO m).length ≤ 512 := rowF_len _
  go_enter Try.func27, Try.ntmps27
  go_wp2_with fail
  refine (rRowF_any D A c m w h hc hm).mono ?_
  rintro e w1 ⟨A1, c1, rfl, r1, _, _, b1⟩
  obtain ⟨n, hn⟩ : ∃ n, n = (rowO m).length := ⟨_, rfl⟩
  have HT : Hid (packO m = packT m ((n + 3) / 4)) := by unfold Hid; rw [hn]; rfl
  have HN := Lib.hid hn
  have HG : Hid (∀ (W : World) (i : Nat), RdI W (fun b => b < w1.heap.size) A1 (rowO m) → Calls Try.prog 14 #[.slice A1 n c1, .int .i64 (i : Int)] W fun e w' => e = .returned (.int .i64 (gN m i)) ∧ W = w') := fun W i hr => by
    have := rGet_any _ A1 c1 (rowO m) i W hr
    rw [gO_row, ← hn] at this
    exact this
  rw [← hn] at hr5 ⊢
  clear hn
  go_wp2_with fail
  have n1 := below_new w1 (.cells #[.int .u8 ((n : Int) / 256), .int .u8 ((n : Int) % 256)] 5)
  have o1 : OwnB (w1.alloc (.cells #[.int .u8 ((n : Int) / 256), .int .u8 ((n : Int) % 256)] 5)) w1.heap.size (.slice (some ⟨w1.heap.size, 0, none⟩) 2 2) (packT m 0) := by
    refine litB w1 (packT m 0) 2 _ (packT_len m 0).symm ?_ (by rw [packT_len]; unfold big; omega)
    unfold packT
    rw [← HN.out]
    simp only [List.range_zero, List.map_nil, List.append_nil, List.map_cons, cB, UInt8.toNat_ofNat']
    rw [Nat.mod_eq_of_lt (by omega : n / 256 < 2 ^ 8), Nat.mod_eq_of_lt (by omega : n % 256 < 2 ^ 8)]
    rfl
  have r1 : RdI (w1.alloc (.cells #[.int .u8 ((n : Int) / 256), .int .u8 ((n : Int) % 256)] 5)) (fun b => b < w1.heap.size) A1 (rowO m) := RdI.below (Rd.imp r1.rd (fun b hb _ => hb) (by decide)) n1
  have bb : Below w1.heap.size w1 (w1.alloc (.cells #[.int .u8 ((n : Int) / 256), .int .u8 ((n : Int) % 256)] 5)) := n1
  have hsz := b1.size
  have n0 := n1.size
  generalize w1.alloc (.cells #[.int .u8 ((n : Int) / 256), .int .u8 ((n : Int) % 256)] 5) = w2 at *
  clear n1
  go_loopw [4, 5, 6] (fun b i b6 wr => ∃ q p : Nat, p = 4 * q ∧ p < n + 4 ∧ i = .int .i64 (p : Int) ∧ OwnB wr w1.heap.size b (packT m q) ∧ RdI wr (fun b => b < w1.heap.size) A1 (rowO m) ∧ Below w1.heap.size w1 wr) (fun _ i _ _ => n + 4 - (intOf i).toNat)
  case atStart => exact ⟨0, 0, rfl, by omega, rfl, o1, r1, bb⟩
  case round =>
    clear o1 r1 bb
    obtain ⟨q, p, hp, hpn, rfl, hown, r, bb⟩ := hrel
    have HQ : Hid (quadO m q = (gN m p).toNat + 4 * (gN m (p + 1)).toNat + 16 * (gN m (p + 2)).toNat + 64 * (gN m (p + 3)).toNat) := by unfold Hid quadO; rw [hp]
    have HE := Lib.hid (packT_succ m q)
    have hll := packT_len m q
    have HP := Lib.hid hp
    by_cases hlt : p < n
    · have hq5 : q ≤ 200 := by omega
      clear hp
      generalize packT m q = xs at *
      have HL := Lib.hid hll
      clear hll
      have g0 : Calls Try.prog 14 #[.slice A1 n c1, .int .i64 (p : Int)] wr fun e w' => e = .returned (.int .i64 (gN m p)) ∧ wr = w' := HG.out wr p r
      have g1 : Calls Try.prog 14 #[.slice A1 n c1, .int .i64 ((p : Int) + 1)] wr fun e w' => e = .returned (.int .i64 (gN m (p + 1))) ∧ wr = w' := HG.out wr (p + 1) r
      have g2 : Calls Try.prog 14 #[.slice A1 n c1, .int .i64 ((p : Int) + 2)] wr fun e w' => e = .returned (.int .i64 (gN m (p + 2))) ∧ wr = w' := HG.out wr (p + 2) r
      have g3 : Calls Try.prog 14 #[.slice A1 n c1, .int .i64 ((p : Int) + 3)] wr fun e w' => e = .returned (.int .i64 (gN m (p + 3))) ∧ wr = w' := HG.out wr (p + 3) r
      obtain ⟨y0, e0, f0⟩ : ∃ y : Nat, gN m p = (y : Int) ∧ y ≤ 2 := ⟨(gN m p).toNat, by have := gN_bd m p; omega, by have := gN_bd m p; omega⟩
      obtain ⟨y1, e1, f1⟩ : ∃ y : Nat, gN m (p + 1) = (y : Int) ∧ y ≤ 2 := ⟨(gN m (p + 1)).toNat, by have := gN_bd m (p + 1); omega, by have := gN_bd m (p + 1); omega⟩
      obtain ⟨y2, e2, f2⟩ : ∃ y : Nat, gN m (p + 2) = (y : Int) ∧ y ≤ 2 := ⟨(gN m (p + 2)).toNat, by have := gN_bd m (p + 2); omega, by have := gN_bd m (p + 2); omega⟩
      obtain ⟨y3, e3, f3⟩ : ∃ y : Nat, gN m (p + 3) = (y : Int) ∧ y ≤ 2 := ⟨(gN m (p + 3)).toNat, by have := gN_bd m (p + 3); omega, by have := gN_bd m (p + 3); omega⟩
      rw [e0] at g0 HQ
      rw [e1] at g1 HQ
      rw [e2] at g2 HQ
      rw [e3] at g3 HQ
      simp only [Int.toNat_natCast] at HQ
      have HZ : Hid (((quadO m q : Nat) : Int) = (y0 : Int) + 4 * y1 + 16 * y2 + 64 * y3) := by unfold Hid; have := HQ.out; omega
      have HV : Hid ((y0 : Int) + 4 * y1 + 16 * y2 + 64 * y3 = ((UInt8.ofNat (quadO m q)).toNat : Int)) := by
        unfold Hid
        rw [UInt8.toNat_ofNat', Nat.mod_eq_of_lt (quadO_lt m q)]
        exact HZ.out.symm
      clear e0 e1 e2 e3
      go_wp2_with fail
      refine g0.mono ?_
      rintro e w3 ⟨rfl, rfl⟩
      go_wp2_with fail
      refine g1.mono ?_
      rintro e w3 ⟨rfl, rfl⟩
      go_wp2_with fail
      refine g2.mono ?_
      rintro e w3 ⟨rfl, rfl⟩
      go_wp2_with fail
      refine g3.mono ?_
      rintro e w3 ⟨rfl, rfl⟩
      go_wp2_with (at_builtin; refine wpList_appB rfl (.tmp 45) (.tmp 48) rfl w1.heap.size _ xs rfl (OwnB.below hown (below_new _ _)) _ (some ⟨wr.heap.size, 0, none⟩) 1 1 [UInt8.ofNat (quadO m q)] rfl rfl (rd_newB wr _ _ HV.out) (by have := HL.out; unfold big; simp only [List.length_cons, List.length_nil]; omega) (Nat.le_trans bb.size (below_new wr _).size) ?_; intro v' w' h1 h2)
      have b2 := (bb.thenB' (below_new wr _)).trans (h2.below (OwnB.below hown (below_new wr _)) (Nat.le_refl _) (Nat.le_trans bb.size (below_new wr _).size))
      have r2 : RdI w' (fun b => b < w1.heap.size) A1 (rowO m) := Rd.belowB (RdI.below r (below_new wr _)) (h2.below (OwnB.below hown (below_new wr _)) (Nat.le_refl _) (Nat.le_trans bb.size (below_new wr _).size)) (fun _ h => h)
      go_roundw
      case rel => exact ⟨q + 1, p + 4, by have := HP.out; omega, by omega, by go_num, by rw [HE.out]; exact h1, r2, b2⟩
      case measure => simp [intOf] <;> omega
    · go_wp2_with fail
      go_ret
      have hq : q = (n + 3) / 4 := by omega
      rw [HT.out, ← hq]
      exact ⟨_, rfl, hown.low hsz, b1.thenB' bb⟩
end Go.Proofs.Ytmifmnpbkdjbaaa
