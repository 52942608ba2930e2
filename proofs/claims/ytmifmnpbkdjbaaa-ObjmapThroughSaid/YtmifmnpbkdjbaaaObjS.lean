import Derived.Test.YtmifmnpbkdjbaaaObjR
namespace Go.Proofs.Ytmifmnpbkdjbaaa
open Go.RowKit
set_option linter.unusedVariables false

theorem or8 (a y t : Nat) (ha : a < 4 ^ t) (ht : t < 4) (hy : y ≤ 2) : bits .or .u8 (a : Int) ((y * 4 ^ t : Nat) : Int) = ((a + y * 4 ^ t : Nat) : Int) := by
  have hp : 4 ^ t ≤ 64 := by
    have : t = 0 ∨ t = 1 ∨ t = 2 ∨ t = 3 := by omega
    rcases this with rfl | rfl | rfl | rfl <;> decide
  have hyp : y * 4 ^ t ≤ 2 * 64 := Nat.mul_le_mul hy hp
  show IntKind.u8.wrap (((BitVec.ofInt 8 (a : Int) ||| BitVec.ofInt 8 ((y * 4 ^ t : Nat) : Int)).toNat : Nat) : Int) = _
  have h := Nat.shiftLeft_add_eq_or_of_lt (i := 2 * t) (show a < 2 ^ (2 * t) by rw [Nat.pow_mul]; exact ha) y
  rw [Nat.shiftLeft_eq, Nat.pow_mul] at h
  rw [BitVec.toNat_or, toNat8 _ (by omega), toNat8 _ (by omega), Nat.or_comm]
  have h : y * 4 ^ t + a = y * 4 ^ t ||| a := h
  rw [← h]
  have hw : ∀ n : Nat, n < 256 → IntKind.u8.wrap (n : Int) = (n : Int) := fun n hn => by
    simp [IntKind.wrap, IntKind.bits, IntKind.signed]
    omega
  rw [hw _ (by omega)]
  omega

set_option maxHeartbeats 1000000 in
set_option maxRecDepth 100000 in
theorem Pack_any (D : Nat → Prop) (A : Option Addr) (c : Nat) (m : List Int) (w : World) (h : RdI w D A m) :
    Calls Try.prog 26 #[.slice A m.length c] w fun e w' => ∃ A' n, e = .returned (.slice A' n n) ∧ n = (packO m).length ∧ RowB w' w.heap.size A' (packO m) ∧ Below w.heap.size w w' := by
  have hr5 : (rowO m).length ≤ 512 := rowF_len _
  go_enter Try.func26, Try.ntmps26
  go_wp2_with fail
  refine (row_any D A c m w h).mono ?_
  rintro e w1 ⟨A1, rfl, r1, b1⟩
  obtain ⟨n, hn⟩ : ∃ n, n = (rowO m).length := ⟨_, rfl⟩
  obtain ⟨q, hq⟩ : ∃ q, q = (n + 3) / 4 := ⟨_, rfl⟩
  have hqi : ((n : Int) + 3) / 4 = (q : Int) := by omega
  have HF : Hid (packO m = packS m n) := by unfold Hid; rw [hn]; exact (packS_full m).symm
  have HZ : Hid (((List.replicate (2 + q) (0 : UInt8)).set 0 (UInt8.ofNat (n / 256))).set 1 (UInt8.ofNat (n % 256)) = packS m 0) := by unfold Hid; rw [hq, hn]; exact packS_zero m
  have HL : Hid (∀ i, (packS m i).length = 2 + q) := fun i => by rw [packS_len, hq, hn]
  have HR : Hid (∀ k, (hk : k < (rowO m).length) → (rowO m)[k] = gN m k) := fun k hk => by simp [rowO, rowF]
  have HN := Lib.hid hn
  have HQ := Lib.hid hq
  rw [← hn] at hr5 ⊢
  have z0 : ((UInt8.ofNat (n / 256)).toNat : Int) = (n : Int) / 256 := by rw [UInt8.toNat_ofNat']; omega
  obtain ⟨nl, hnl⟩ : ∃ nl, nl = n % 256 := ⟨_, rfl⟩
  have hwn : IntKind.u8.wrap (n : Int) = (nl : Int) := by
    simp [IntKind.wrap, IntKind.bits, IntKind.signed]
    omega
  have z1 : ((UInt8.ofNat (n % 256)).toNat : Int) = (nl : Int) := by rw [UInt8.toNat_ofNat', hnl]; omega
  have Z0 := Lib.hid z0
  have Z1 := Lib.hid z1
  clear hn hq z0 z1 hnl
  go_wp2_with (at_make; refine wpList_makeB rfl (.tmp 13) (.tmp 13) rfl w1.heap.size (2 + q) rfl rfl (by have := HQ.out; unfold big; omega) (Nat.le_refl _) ?_; intro w2 o2 b2; have r2 := RowB.of_own o2; obtain ⟨g, hg, _, hgl, hcell0, hfr0, hst0⟩ := r2.store (k := 0) (by (rw [List.length_replicate]; omega)); injection hg with hg; injection hg with hg; subst hg; have r3 := hst0 (UInt8.ofNat (n / 256)); rw [Z0.out] at r3; obtain ⟨g, hg, _, hgl', hcell1, hfr1, hst1⟩ := r3.store (k := 1) (by (rw [List.length_set, List.length_replicate]; have := HQ.out; omega)); injection hg with hg; injection hg with hg; subst hg; have r4 := hst1 (UInt8.ofNat (n % 256)); rw [Z1.out, HZ.out] at r4; clear hst0 hst1 r2 r3)
  have b4 := below_store (k := 1) (below_store (k := 0) b2 (Nat.le_refl _) (.int .u8 ((n : Int) / 256))) (Nat.le_refl _) (.int .u8 (nl : Int))
  have hsz := b1.size
  have r1 : RdI w1 (fun b => b < w1.heap.size) A1 (rowO m) := Rd.imp r1.rd (fun b hb _ => hb) (by decide)
  have r1' : RdI _ (fun b => b < w1.heap.size) A1 (rowO m) := Rd.belowB r1 b4 (fun _ h => h)
  clear hcell0 hcell1 hfr0 hfr1 o2 hgl hgl' b2
  go_loopw [5, 6, 28] (fun i5 i6 i wr => ∃ j : Nat, j ≤ n ∧ i = .int .i64 (j : Int) ∧ RowB wr w1.heap.size (some ⟨w1.heap.size, 0, none⟩) (packS m j) ∧ RdI wr (fun b => b < w1.heap.size) A1 (rowO m) ∧ Below w1.heap.size w1 wr) (fun _ _ i _ => n - (intOf i).toNat)
  case atStart => exact ⟨0, Nat.zero_le _, rfl, r4, r1', b4⟩
  case round =>
    clear r4 r1' b4
    obtain ⟨j, hj, rfl, r, rr, bb⟩ := hrel
    by_cases hlt : j < n
    · have hjr : j < (rowO m).length := by have := HN.out; omega
      obtain ⟨ad, rfl, _, hc⟩ := rr.at_ hjr
      rw [HR.out j hjr] at hc
      obtain ⟨y, hy, hy2⟩ : ∃ y : Nat, gN m j = (y : Int) ∧ y ≤ 2 := ⟨(gN m j).toNat, by have := gN_bd m j; omega, by have := gN_bd m j; omega⟩
      obtain ⟨q1, hq1⟩ : ∃ q1, q1 = j / 4 := ⟨_, rfl⟩
      obtain ⟨t, ht⟩ : ∃ t, t = j % 4 := ⟨_, rfl⟩
      have ht4 : t < 4 := by omega
      have hj4 : j = 4 * q1 + t := by omega
      obtain ⟨hs1, hs2, hs3⟩ := pb_step m q1 t ht4
      rw [← hj4, hy, Int.toNat_natCast] at hs1
      rw [← hj4] at hs2 hs3
      have hql : 2 + q1 < (packS m j).length := by rw [HL.out]; have := HQ.out; omega
      have hstep := packS_step m j
      rw [← hq1] at hstep
      obtain ⟨g, hg, _, hgl, hcell, hfr, hst⟩ := r.store (k := 2 + q1) hql
      injection hg with hg
      injection hg with hg
      subst hg
      rw [packS_get m j q1 hql, UInt8.toNat_ofNat', Nat.mod_eq_of_lt (by omega : pb m j q1 < 2 ^ 8)] at hcell
      have r2 := hst (UInt8.ofNat (pb m (j + 1) q1))
      rw [hstep, UInt8.toNat_ofNat', Nat.mod_eq_of_lt (by omega : pb m (j + 1) q1 < 2 ^ 8)] at r2
      have hor := or8 (pb m j q1) y t hs2 ht4 hy2
      rw [← hs1] at hor
      have hgl2 := bb.size
      have b2 := below_store (k := 2 + q1) bb (Nat.le_refl _) (.int .u8 ((pb m (j + 1) q1 : Nat) : Int))
      have rr2 : RdI _ (fun b => b < w1.heap.size) (some ad) (rowO m) := Rd.belowB r1 b2 (fun _ h => h)
      rw [hy] at hc
      have hd1 : (j : Int).tdiv 4 = (q1 : Int) := by rw [hq1]; rfl
      have hd2 : (j : Int) / 4 = (q1 : Int) := by rw [hq1]; rfl
      have hm1 : (j : Int).tmod 4 = (t : Int) := by rw [ht]; rfl
      have hm2 : (j : Int) % 4 = (t : Int) := by rw [ht]; rfl
      have hq2 : q1 < q := by have := HQ.out; omega
      clear hst hstep hs1 hs2 hs3 hq1 ht hj4 hql
      generalize pb m j q1 = a at *
      generalize pb m (j + 1) q1 = a' at *
      have ht5 : t = 0 ∨ t = 1 ∨ t = 2 ∨ t = 3 := by omega
      clear ht4
      rcases ht5 with rfl | rfl | rfl | rfl
      focus
        have hor' : bits .or .u8 (a : Int) (y : Int) = (a' : Int) := by rw [← hor, Nat.pow_zero, Nat.mul_one]
      rotate_left
      focus
        have hor' : bits .or .u8 (a : Int) ((y : Int) * 4) = (a' : Int) := hor
      rotate_left
      focus
        have hor' : bits .or .u8 (a : Int) ((y : Int) * 16) = (a' : Int) := hor
      rotate_left
      focus
        have hor' : bits .or .u8 (a : Int) ((y : Int) * 64) = (a' : Int) := hor
      all_goals
        clear hor
        go_wp2_with fail
        go_roundw
        case rel => exact ⟨j + 1, by omega, by go_num, r2, rr2, b2⟩
        case measure => simp [intOf] <;> omega
    · obtain rfl : j = n := by omega
      rw [← HF.out] at r
      have hl : (packO m).length = 2 + q := by rw [HF.out]; exact HL.out j
      have HLn := Lib.hid hl
      clear hl
      go_wp2_with fail
      go_ret
      exact ⟨_, 2 + q, rfl, HLn.out.symm, r.low hsz, b1.thenB' bb⟩
end Go.Proofs.Ytmifmnpbkdjbaaa
