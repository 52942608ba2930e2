/- The walk of EntryNames, and its plain law: of two numbers of nine digits the greater one's key comes later. -/
import Derived.Test.YthpmmnpjdpgamaaDoorEn9
namespace Go.Proofs.YthpmmnpjdpgamaaDoor
open Go.RowKit
set_option linter.unusedVariables false
set_option maxRecDepth 100000

theorem digB_mod : ∀ k m, digB k (m % 10 ^ k) = digB k m
  | 0, _ => rfl
  | k + 1, m => by
    show digB k (m % 10 ^ (k + 1) / 10) ++ [UInt8.ofNat (48 + m % 10 ^ (k + 1) % 10)] = digB k (m / 10) ++ [UInt8.ofNat (48 + m % 10)]
    have e1 : m % 10 ^ (k + 1) / 10 = m / 10 % 10 ^ k := by rw [Nat.pow_succ', Nat.mod_mul_right_div_self]
    have e2 : m % 10 ^ (k + 1) % 10 = m % 10 := by rw [Nat.pow_succ', Nat.mod_mul_right_mod]
    rw [e1, e2, digB_mod k]
theorem dig_lt (k : Nat) : ∀ a b : Nat, a < b → b < 10 ^ k → Op.bytesLess (digB k a) (digB k b) = true := by
  induction k with
  | zero => intro a b h1 h2; simp at h2; omega
  | succ k ih =>
    intro a b h1 h2
    have hp : 0 < 10 ^ k := Nat.pow_pos (by omega)
    rw [Nat.pow_succ] at h2
    have qa : a / 10 ^ k < 10 := Nat.div_lt_of_lt_mul (by omega)
    have qb : b / 10 ^ k < 10 := Nat.div_lt_of_lt_mul (by omega)
    have hq : a / 10 ^ k ≤ b / 10 ^ k := Nat.div_le_div_right (by omega)
    rw [digB_front, digB_front, Nat.mod_eq_of_lt qa, Nat.mod_eq_of_lt qb]
    unfold Op.bytesLess
    rcases Nat.lt_or_eq_of_le hq with hlt | heq
    · have : UInt8.ofNat (48 + a / 10 ^ k) < UInt8.ofNat (48 + b / 10 ^ k) := by
        rw [UInt8.lt_iff_toNat_lt, UInt8.toNat_ofNat', UInt8.toNat_ofNat', Nat.mod_eq_of_lt (by omega), Nat.mod_eq_of_lt (by omega)]
        omega
      generalize UInt8.ofNat (48 + a / 10 ^ k) = x at *
      generalize UInt8.ofNat (48 + b / 10 ^ k) = y at *
      simp [this]
    · rw [heq]
      have ha := Nat.div_add_mod a (10 ^ k)
      have hb := Nat.div_add_mod b (10 ^ k)
      rw [heq] at ha
      have := ih (a % 10 ^ k) (b % 10 ^ k) (by omega) (Nat.mod_lt _ hp)
      rw [digB_mod, digB_mod] at this
      simp [this]
theorem name_lt (n m : Int) (h0 : 0 ≤ n) (h1 : n < m) (h2 : m ≤ 999999999) : Op.bytesLess (nameO n) (nameO m) = true := by
  have hn := clN_bd n
  have hm := clN_bd m
  have := dig_lt 9 (clN n) (clN m) (by omega) (by have : (10 : Nat) ^ 9 = 1000000000 := by decide
                                                  omega)
  unfold nameO Op.bytesLess
  simp [this]

set_option maxHeartbeats 2000000 in
theorem names_walk (w : World) (ht : Tab w ∧ TabE w ∧ TabS w) (n : Int) (hn : I64 n) (m : Int) (hm : I64 m) :
    Calls Tryd.prog 5 #[.int .i64 n, .int .i64 m] w fun e w' => e = .returned (.bool true) ∧ Below w.heap.size w w' := by
  obtain ⟨ht, hte, hts⟩ := ht
  have HL := Lib.hid (name_lt n m)
  have k1 := nameO_len n
  have A1 := fun W h => Name_any n W h
  have A2 := fun W h => Name_any m W h
  have B1 := fun W => rName_any n W
  have B2 := fun W => rName_any m W
  generalize nameO n = xs at *
  generalize nameO m = ys at *
  go_enter Tryd.func5, Tryd.ntmps5
  go_wp2_with fail
  refine (awake_any7 w ht hte hts).mono ?_
  rintro e w1 ⟨rfl, b1⟩
  have hts := hts.below b1
  go_wp2_with fail
  refine (A1 _ hts).mono ?_
  rintro e w2 ⟨rfl, b2⟩
  have hts := hts.below b2
  have bb := b1.thenB' b2
  go_wp2_with fail
  refine (A2 _ hts).mono ?_
  rintro e w3 ⟨rfl, b3⟩
  have bb := bb.thenB' b3
  go_wp2_with fail
  refine (B1 _).mono ?_
  rintro e w4 ⟨rfl, b4⟩
  have bb := bb.thenB' b4
  go_wp2_with fail
  refine (B2 _).mono ?_
  rintro e w5 ⟨rfl, b5⟩
  have bb := bb.thenB' b5
  clear A1 A2 B1 B2
  have k2 : ((xs.length : Nat) : Int) = 10 := by rw [k1]; rfl
  by_cases h1 : n < 0
  · go_wp2_with fail
    go_ret
    exact ⟨rfl, bb⟩
  · by_cases h2 : m ≤ n
    · go_wp2_with fail
      go_ret
      exact ⟨rfl, bb⟩
    · by_cases h3 : 999999999 < m
      · go_wp2_with fail
        go_ret
        exact ⟨rfl, bb⟩
      · have h4 : Op.bytesLess xs ys = true := HL.out (by omega) (by omega) (by omega)
        go_wp2_with fail
        go_ret
        exact ⟨rfl, bb⟩
end Go.Proofs.YthpmmnpjdpgamaaDoor
