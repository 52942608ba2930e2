/- Pack and Unpack: the plain laws. No program. -/
import Derived.Test.YtmifmnpbkdjbaaaObjS
namespace Go.Proofs.Ytmifmnpbkdjbaaa
open Go.RowKit
set_option linter.unusedVariables false

theorem rowO_at (m : List Int) (k : Nat) (h : k < (rowO m).length) : (rowO m)[k] = gN m k := by simp [rowO, rowF]
theorem rowO_length (m : List Int) : (rowO m).length = lastN (gN m) 512 := rowF_length _
theorem gN_in (m : List Int) (h : m.all okO = true) (h5 : m.length ≤ 512) (k : Nat) (hk : k < m.length) : gN m k = m[k] := by
  have := List.all_eq_true.1 h m[k] (List.getElem_mem hk)
  unfold okO at this
  have := of_decide_eq_true this
  unfold gN
  rw [getD_at m k hk, if_pos ⟨by omega, this⟩]
theorem row_may (m : List Int) (h : mayO m = true) : rowO m = m := by
  unfold mayO at h
  rw [Bool.and_eq_true, Bool.and_eq_true] at h
  obtain ⟨⟨h1, h2⟩, h3⟩ := h
  have h1 := of_decide_eq_true h1
  have hl : (rowO m).length = m.length := by
    unfold rowO
    rw [rowF_length, lastN_far m.length 512 h1 fun k hk => gN_far m k (.inl hk)]
    rcases Nat.eq_zero_or_pos m.length with h0 | h0
    · rw [h0]; rfl
    · obtain ⟨n, hn⟩ : ∃ n, m.length = n + 1 := ⟨m.length - 1, by omega⟩
      rw [hn, lastN, if_neg]
      rw [gN_in m h2 h1 n (by omega)]
      rw [hn, Nat.add_sub_cancel, getD_at m n (by omega)] at h3
      simpa using h3
  apply List.ext_getElem hl
  intro k h4 h5
  rw [rowO_at, gN_in m h2 h1 k h5]
theorem may_row (m : List Int) : mayO (rowO m) = true := by
  unfold mayO
  rw [Bool.and_eq_true, Bool.and_eq_true]
  refine ⟨⟨decide_eq_true (rowF_len _), List.all_eq_true.2 ?_⟩, ?_⟩
  · intro z hz
    obtain ⟨k, hk, rfl⟩ := List.mem_iff_getElem.1 hz
    rw [rowO_at]
    exact decide_eq_true (gN_bd m k)
  · rw [Bool.or_eq_true]
    rcases Nat.eq_zero_or_pos (rowO m).length with h0 | h0
    · exact .inl (decide_eq_true h0)
    · refine .inr (decide_eq_true ?_)
      rw [getD_at _ _ (by omega), rowO_at]
      have h1 := lastN_self (gN m) 512
      rw [← rowO_length] at h1
      rcases h1 with h1 | h1
      · omega
      · exact h1
theorem row_row (m : List Int) : rowO (rowO m) = rowO m := row_may _ (may_row m)
theorem pack_row (m : List Int) : packO (rowO m) = packO m := by
  unfold packO quadO
  rw [row_row]
  simp only [gN_rowO]
theorem pack_q (m : List Int) (q : Nat) (h : q < ((rowO m).length + 3) / 4) : (packO m).getD (2 + q) 0 = UInt8.ofNat (quadO m q) := by
  have e : (packO m).getD (2 + q) 0 = ((List.range (((rowO m).length + 3) / 4)).map fun q => UInt8.ofNat (quadO m q)).getD q 0 := by
    unfold packO
    rw [List.getD_eq_getElem?_getD, List.getElem?_append_right (by simp), List.getD_eq_getElem?_getD]
    simp
  rw [e, List.getD_eq_getElem?_getD, List.getElem?_map, List.getElem?_range h]
  rfl
theorem lenO_pack (m : List Int) : lenO (packO m) = (rowO m).length := by
  have h := rowF_len (gN m)
  have h3 : (rowF (gN m)).length = (rowO m).length := rfl
  show (UInt8.ofNat ((rowO m).length / 256)).toNat * 256 + (UInt8.ofNat ((rowO m).length % 256)).toNat = _
  rw [UInt8.toNat_ofNat', UInt8.toNat_ofNat']
  omega
theorem digit (a b c d : Nat) (ha : a ≤ 2) (hb : b ≤ 2) (hc : c ≤ 2) (hd : d ≤ 2) : (a + 4 * b + 16 * c + 64 * d) / 4 ^ 0 % 4 = a ∧ (a + 4 * b + 16 * c + 64 * d) / 4 ^ 1 % 4 = b ∧ (a + 4 * b + 16 * c + 64 * d) / 4 ^ 2 % 4 = c ∧ (a + 4 * b + 16 * c + 64 * d) / 4 ^ 3 % 4 = d := by
  refine ⟨?_, ?_, ?_, ?_⟩
  · show _ / 1 % 4 = a; omega
  · show _ / 4 % 4 = b; omega
  · show _ / 16 % 4 = c; omega
  · show _ / 64 % 4 = d; omega
theorem bitO_pack (m : List Int) (i : Nat) (h : i / 4 < ((rowO m).length + 3) / 4) : bitO (packO m) i = gN m i := by
  unfold bitO
  rw [pack_q m _ h, UInt8.toNat_ofNat', Nat.mod_eq_of_lt (quadO_lt m _)]
  obtain ⟨d0, d1, d2, d3⟩ := digit _ _ _ _ (toNat_bd m (4 * (i / 4))) (toNat_bd m (4 * (i / 4) + 1)) (toNat_bd m (4 * (i / 4) + 2)) (toNat_bd m (4 * (i / 4) + 3))
  unfold quadO
  have hb := gN_bd m i
  have ht : i % 4 = 0 ∨ i % 4 = 1 ∨ i % 4 = 2 ∨ i % 4 = 3 := by omega
  rcases ht with ht | ht | ht | ht
  · rw [ht, d0, show 4 * (i / 4) = i by omega]; omega
  · rw [ht, d1, show 4 * (i / 4) + 1 = i by omega]; omega
  · rw [ht, d2, show 4 * (i / 4) + 2 = i by omega]; omega
  · rw [ht, d3, show 4 * (i / 4) + 3 = i by omega]; omega
theorem unp_pack (m : List Int) : unpO (packO m) = some (rowO m) := by
  have h5 : (rowO m).length ≤ 512 := rowF_len _
  have hb : bitsO (packO m) = (List.range (((rowO m).length + 3) / 4 * 4)).map (gN m) := by
    unfold bitsO
    rw [lenO_pack]
    exact List.map_congr_left fun k hk => bitO_pack m k (by have := List.mem_range.1 hk; omega)
  have ht : (bitsO (packO m)).take (rowO m).length = rowO m := by
    rw [hb, ← List.map_take, List.take_range, Nat.min_eq_left (by omega)]
    show (List.range (rowF (gN m)).length).map (gN m) = rowF (gN m)
    rw [rowF_length]; rfl
  unfold unpO
  rw [lenO_pack, ht, if_pos]
  refine ⟨by rw [packO_len]; omega, h5, packO_len m, ?_, may_row m⟩
  rw [List.any_eq_false]
  intro z hz
  obtain ⟨k, hk, rfl⟩ := List.mem_iff_getElem.1 hz
  rw [List.getElem_drop]
  simp only [hb, List.getElem_map, List.getElem_range]
  rw [gN_tail m _ (by omega)]
  simp
theorem getD8 (m : List UInt8) (k : Nat) (h : k < m.length) : m.getD k 0 = m[k] := by rw [List.getD_eq_getElem?_getD, List.getElem?_eq_getElem h]; rfl
theorem bitO_bd (b : List UInt8) (i : Nat) : 0 ≤ bitO b i := by unfold bitO; omega
theorem bits4 (x : Nat) (h : x < 256) : x / 4 ^ 0 % 4 + 4 * (x / 4 ^ 1 % 4) + 16 * (x / 4 ^ 2 % 4) + 64 * (x / 4 ^ 3 % 4) = x := by
  show x / 1 % 4 + 4 * (x / 4 % 4) + 16 * (x / 16 % 4) + 64 * (x / 64 % 4) = x
  omega
theorem unp_some (b : List UInt8) (y : List Int) (h : unpO b = some y) : mayO y = true ∧ packO y = b ∧ y = (bitsO b).take (lenO b) ∧ 2 ≤ b.length ∧ b.length = 2 + (lenO b + 3) / 4 := by
  unfold unpO at h
  split at h
  · rename_i hc
    obtain ⟨h2, h5, hl, hd, hm⟩ := hc
    injection h with h
    rw [h] at hm
    refine ⟨hm, ?_, h.symm, h2, hl⟩
    have hy := row_may y hm
    have hbl : (bitsO b).length = (lenO b + 3) / 4 * 4 := by simp [bitsO]
    have hyl : y.length = lenO b := by rw [← h, List.length_take, hbl]; omega
    have hm' := hm
    unfold mayO at hm'
    rw [Bool.and_eq_true, Bool.and_eq_true] at hm'
    have hg : ∀ k, k < (lenO b + 3) / 4 * 4 → gN y k = bitO b k := by
      intro k hk
      rcases Nat.lt_or_ge k (lenO b) with h1 | h1
      · rw [gN_in y hm'.1.2 (by omega) k (by omega)]
        simp only [← h, List.getElem_take]
        simp [bitsO]
      · rw [gN_far y k (.inl (by omega))]
        have h3 := List.any_eq_false.1 hd (bitO b k) (List.mem_iff_getElem.2 ⟨k - lenO b, by rw [List.length_drop, hbl]; omega, by rw [List.getElem_drop]; simp [bitsO, show lenO b + (k - lenO b) = k by omega]⟩)
        simpa using (by simpa using h3 : bitO b k = 0).symm
    have hpl : (packO y).length = b.length := by rw [packO_len, hy, hyl, hl]
    have x1 := (b.getD 0 0).toNat_lt
    have y1 := (b.getD 1 0).toNat_lt
    apply List.ext_getElem hpl
    intro k h3 h4
    rw [← getD8 _ _ h3, ← getD8 _ _ h4]
    rcases k with _ | _ | q
    · show UInt8.ofNat ((rowO y).length / 256) = _
      rw [hy, hyl]
      unfold lenO
      rw [show ((b.getD 0 0).toNat * 256 + (b.getD 1 0).toNat) / 256 = (b.getD 0 0).toNat by omega, UInt8.ofNat_toNat]
    · show UInt8.ofNat ((rowO y).length % 256) = b.getD 1 0
      rw [hy, hyl]
      unfold lenO
      rw [show ((b.getD 0 0).toNat * 256 + (b.getD 1 0).toNat) % 256 = (b.getD 1 0).toNat by omega, UInt8.ofNat_toNat]
    · rw [show q + 1 + 1 = 2 + q by omega]
      rw [show q + 1 + 1 = 2 + q by omega] at h4
      have hq : q < (lenO b + 3) / 4 := by omega
      rw [pack_q y q (by rw [hy, hyl]; exact hq)]
      have hz := (b.getD (2 + q) 0).toNat_lt
      unfold quadO
      rw [hg _ (by omega), hg _ (by omega), hg _ (by omega), hg _ (by omega)]
      unfold bitO
      simp only [Int.toNat_natCast]
      rw [show 4 * q / 4 = q by omega, show (4 * q + 1) / 4 = q by omega, show (4 * q + 2) / 4 = q by omega, show (4 * q + 3) / 4 = q by omega,
        show 4 * q % 4 = 0 by omega, show (4 * q + 1) % 4 = 1 by omega, show (4 * q + 2) % 4 = 2 by omega, show (4 * q + 3) % 4 = 3 by omega, bits4 _ hz, UInt8.ofNat_toNat]
  · cases h
/-- What the reference holds bytes against. -/
def refU (b : List UInt8) : List Int := (List.range (min (lenO b) (4 * (b.length - 2)))).map (bitO b)
theorem unp_ref (b : List UInt8) (h2 : 2 ≤ b.length) : unpO b = if mayO (refU b) = true ∧ packO (refU b) = b then some (refU b) else none := by
  split
  · rename_i h
    conv => lhs; rw [← h.2]
    rw [unp_pack, row_may _ h.1]
  · rename_i h
    match hu : unpO b with
    | none => rfl
    | some y =>
      obtain ⟨h3, h4, h5, _, h6⟩ := unp_some b y hu
      have : refU b = y := by
        rw [h5]
        unfold refU bitsO
        rw [← List.map_take, List.take_range]
        congr 2
        omega
      exact absurd (by rw [this]; exact ⟨h3, h4⟩) h
end Go.Proofs.Ytmifmnpbkdjbaaa
