/- The key of a number: plain, the code's Name, the document's Name. -/
import Derived.Test.YthpmmnpjdpgamaaDoorEn7
import Derived.Test.YthpmmnpjdpgamaaDoorShelfP
import Derived.Laws.Concat
namespace Go.Proofs.YthpmmnpjdpgamaaDoor
open Go.RowKit
set_option linter.unusedVariables false
set_option maxRecDepth 100000

/-- The last k digits of a number. -/
def digB : Nat → Nat → List UInt8
  | 0, _ => []
  | k + 1, m => digB k (m / 10) ++ [UInt8.ofNat (48 + m % 10)]
theorem digB_len : ∀ k m, (digB k m).length = k
  | 0, _ => rfl
  | k + 1, m => by show (digB k (m / 10) ++ [_]).length = _; rw [List.length_append, digB_len k]; rfl
theorem digB_front : ∀ i m, digB (i + 1) m = UInt8.ofNat (48 + m / 10 ^ i % 10) :: digB i m
  | 0, m => by show [] ++ [_] = _; simp [digB]
  | i + 1, m => by
    show digB (i + 1) (m / 10) ++ [_] = _
    rw [digB_front i (m / 10), Nat.div_div_eq_div_mul, ← Nat.pow_succ']
    rfl
theorem digB_zero : ∀ k, digB k 0 = Lib.repeatL [48] k
  | 0 => rfl
  | k + 1 => by
    show digB k (0 / 10) ++ [UInt8.ofNat (48 + 0 % 10)] = _
    rw [show (0 : Nat) / 10 = 0 from rfl, digB_zero k]
    have h1 := Lib.repeatL_add [48] k 1
    rw [Lib.repeatL_one] at h1
    rw [h1]
    rfl
theorem pad_dig : ∀ k m, m < 10 ^ k → 1 ≤ k → Lib.nDigits m ≤ k ∧ Lib.repeatL [48] (k - Lib.nDigits m) ++ Lib.decDigits m = digB k m
  | 0, m, _, h => absurd h (by omega)
  | k + 1, m, hm, _ => by
    by_cases h10 : m < 10
    · rw [Lib.nDigits_small h10, Lib.decDigits_one h10]
      refine ⟨by omega, ?_⟩
      show _ = digB k (m / 10) ++ [UInt8.ofNat (48 + m % 10)]
      rw [Nat.div_eq_of_lt h10, digB_zero, Nat.mod_eq_of_lt h10]
      rfl
    · have hp : m / 10 < 10 ^ k := by rw [Nat.pow_succ] at hm; omega
      have hk : 1 ≤ k := by
        rcases Nat.eq_zero_or_pos k with h | h
        · subst h; rw [Nat.pow_zero] at hp; omega
        · exact h
      obtain ⟨h1, h2⟩ := pad_dig k (m / 10) hp hk
      rw [Lib.nDigits_big h10, show k + 1 - (Lib.nDigits (m / 10) + 1) = k - Lib.nDigits (m / 10) by omega]
      refine ⟨by omega, ?_⟩
      have e : Lib.decDigits m = Lib.decDigits (m / 10) ++ [UInt8.ofNat (48 + m % 10)] := by rw [Lib.decDigits, dif_neg h10]
      rw [e, ← List.append_assoc, h2]
      rfl
/-- A number's place among the keys. -/
def clN (n : Int) : Nat := (min (max n 0) 999999999).toNat
theorem clN_bd (n : Int) : clN n ≤ 999999999 ∧ (clN n : Int) = min (max n 0) 999999999 := by unfold clN; omega
def nameO (n : Int) : List UInt8 := 101 :: digB 9 (clN n)
theorem nameO_len (n : Int) : (nameO n).length = 10 := by unfold nameO; rw [List.length_cons, digB_len]

/-- The table that strconv reads. -/
def TabS (w : World) : Prop := Lib.TabIs Tryd.prog w "internal/strconv.uint64pow10" .u64 Lib.pow10Tab
theorem below_growN (w : World) (k : Nat) (os : Array Obj) : Below w.heap.size w (Go.Sort.grow (w.drewN k) os) :=
  ⟨rfl, rfl, rfl, by show w.heap.size ≤ (w.heap ++ os).size; simp, fun i hi => by show (w.heap ++ os)[i]? = _; rw [Array.getElem?_append, if_pos hi]⟩
set_option maxHeartbeats 1000000 in
theorem Name_any (n : Int) (w : World) (ht : TabS w) :
    Calls Tryd.prog 19 #[.int .i64 n] w fun r w' => r = .returned (.string (str (nameO n))) ∧ Below w.heap.size w w' := by
  have hb := clN_bd n
  have hpd := pad_dig 9 (clN n) (by have := hb.1; omega) (by decide)
  have hit := Tryd.strconv_Itoa (clN n : Int) (by omega) (by omega) w ht
  have e1 : Lib.itoa ((clN n : Nat) : Int) = Lib.decDigits (clN n) := Lib.itoa_nonneg _
  rw [e1] at hit
  have hln := Lib.decDigits_length (clN n)
  have hmx := hb.2
  have HN : Hid (nameO n = 101 :: (Lib.repeatL [48] (9 - Lib.nDigits (clN n)) ++ Lib.decDigits (clN n))) := by unfold Hid nameO; rw [hpd.2]
  have hnd : Lib.nDigits (clN n) ≤ 9 := hpd.1
  clear hpd hb e1
  rw [hmx] at hit
  generalize Lib.decDigits (clN n) = ds at *
  generalize Lib.nDigits (clN n) = q at *
  clear hmx
  have hdl : ds.length ≤ 9 := by omega
  have hrp : ∀ W, Calls Tryd.prog 40 #[.string { data := #[48] }, .int .i64 (9 - (ds.length : Int))] W fun e w' => e = .returned (.string (str (Lib.repeatL [48] (9 - q)))) ∧ Below W.heap.size W w' := fun W => by
    have h := Tryd.strings_Repeat (str [48]) (9 - q) W (by omega) (by show 1 * (9 - q) ≤ _; omega)
    rw [show ((9 - q : Nat) : Int) = 9 - (ds.length : Int) from by omega] at h
    exact h
  have hzl : (Lib.repeatL [48] (9 - q)).length ≤ 9 := by rw [Lib.repeatL_length]; simp
  generalize Lib.repeatL [48] (9 - q) = zs at *
  have h12 : ∀ W, (Op.stringOp .add { data := #[101] } (str zs)).run Tryd.prog W = .ok (.string (str (101 :: zs))) W := fun W => run_string_add_lists W [101] zs (by simp) (by omega)
  have h14 : ∀ W, (Op.stringOp .add (str (101 :: zs)) (str ds)).run Tryd.prog W = .ok (.string (str (101 :: zs ++ ds))) W := fun W => run_string_add_lists W (101 :: zs) ds (by simp; omega) (by omega)
  have HRP := Lib.hid hrp
  clear hln hrp
  go_enter Tryd.func19, Tryd.ntmps19
  go_wp2_with fail
  refine hit.mono ?_
  clear hit
  rintro r w1 ⟨rfl, k, os, rfl⟩
  have bb := below_growN w k os
  generalize Go.Sort.grow (w.drewN k) os = w2 at *
  rw [show ({ data := ds.toArray } : ByteArray) = str ds from rfl]
  go_wp2_with fail
  refine (HRP.out w2).mono ?_
  rintro r w3 ⟨rfl, b3⟩
  go_wp2_with fail
  go_ret
  exact ⟨by rw [HN.out]; rfl, bb.thenB' b3⟩
theorem rd_newB1 (w : World) (b : UInt8) (z : Int) (hz : (b.toNat : Int) = z) : RdB (w.alloc (.cells #[.int .u8 z] 5)) (· = w.heap.size) (some ⟨w.heap.size, 0, none⟩) [b] := by
  subst hz
  refine ⟨rfl, fun _ => ⟨_, rfl, rfl, fun j u hu => ?_⟩⟩
  rw [add_head, (Blk.new w 5 #[.int .u8 (b.toNat : Int)]).cell]
  have h1 := (List.getElem?_eq_some_iff.1 hu).1
  have hj : j = 0 := by simpa using h1
  subst hj
  simpa [cB] using hu
theorem dig_byte (x : Nat) : ((UInt8.ofNat (48 + x % 10)).toNat : Int) = 48 + (x : Int) % 10 := by
  rw [UInt8.toNat_ofNat']
  omega
set_option maxHeartbeats 1000000 in
theorem rName_any (n : Int) (w : World) :
    Calls Tryd.prog 20 #[.int .i64 n] w fun r w' => r = .returned (.string (str (nameO n))) ∧ Below w.heap.size w w' := by
  have hb := clN_bd n
  have HN : Hid (nameO n = 101 :: digB 9 (clN n)) := Lib.hid rfl
  have hm1 := hb.1
  have hm2 := Lib.hid hb.2
  clear hb
  generalize clN n = m at *
  go_enter Tryd.func20, Tryd.ntmps20
  go_wp2_with fail
  rw [← hm2.out]
  go_loopw [3, 4, 5] (fun v3 s i wr => ∃ j : Nat, j ≤ 9 ∧ i = .int .i64 (j : Int) ∧ v3 = .int .i64 ((m / 10 ^ j : Nat) : Int) ∧ s = .string (str (digB j m)) ∧ Below w.heap.size w wr) (fun _ _ i _ => 9 - (intOf i).toNat)
  case atStart => exact ⟨0, Nat.zero_le _, rfl, by rw [Nat.pow_zero, Nat.div_one], rfl, Below.refl _ _⟩
  case round =>
    obtain ⟨j, hj, rfl, rfl, rfl, bb⟩ := hrel
    by_cases hlt : j < 9
    · have HF := Lib.hid (digB_front j m)
      have HD : Hid (m / 10 ^ (j + 1) = m / 10 ^ j / 10) := by unfold Hid; rw [Nat.div_div_eq_div_mul, ← Nat.pow_succ]
      have hxl : m / 10 ^ j ≤ 999999999 := Nat.le_trans (Nat.div_le_self _ _) hm1
      have hdl := digB_len j m
      generalize m / 10 ^ j = x at *
      generalize digB j m = ds at *
      have k1 := str_rd (n := 1) (c := 1) (rd_newB1 wr (UInt8.ofNat (48 + x % 10)) (48 + (x : Int) % 10) (dig_byte x)) rfl
      generalize UInt8.ofNat (48 + x % 10) = b0 at *
      have h12 : ∀ W, (Op.stringOp .add (str [b0]) (str ds)).run Tryd.prog W = .ok (.string (str (b0 :: ds))) W := fun W => run_string_add_lists W [b0] ds (by simp) (by omega)
      have HDL := Lib.hid hdl
      clear hdl
      have q1 : 0 ≤ (x : Int) % 10 := by omega
      have q2 : (x : Int) % 10 < 10 := by omega
      have jj : (j : Int) < 9 := by omega
      go_wp2_with fail
      go_roundw
      case rel => exact ⟨j + 1, by omega, by go_num, by rw [HD.out]; go_num, by rw [HF.out], bb.thenB' ((Below.refl _ _).alloc (Nat.le_refl _) _)⟩
      case measure => simp [intOf] <;> omega
    · obtain rfl : j = 9 := by omega
      have hdl := digB_len 9 m
      generalize digB 9 m = ds at *
      have h12 : ∀ W, (Op.stringOp .add { data := #[101] } (str ds)).run Tryd.prog W = .ok (.string (str (101 :: ds))) W := fun W => run_string_add_lists W [101] ds (by simp) (by omega)
      have HDL := Lib.hid hdl
      clear hdl
      go_wp2_with fail
      go_ret
      exact ⟨by rw [HN.out] <;> rfl, bb⟩
end Go.Proofs.YthpmmnpjdpgamaaDoor
