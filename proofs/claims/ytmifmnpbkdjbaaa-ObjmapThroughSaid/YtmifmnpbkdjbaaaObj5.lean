import Derived.Test.YtmifmnpbkdjbaaaObj4
namespace Go.Proofs.Ytmifmnpbkdjbaaa
open Go.RowKit
set_option linter.unusedVariables false

def mix (F G : Nat → Int) (j n : Nat) : List Int := (List.range n).map fun k => if k < j then F k else G k
section
variable {F G : Nat → Int} {j n : Nat}
theorem mix_len : (mix F G j n).length = n := by simp [mix]
theorem mix_zero : mix F G 0 n = (List.range n).map G := List.map_congr_left fun k _ => by rw [if_neg (by omega)]
theorem mix_full : mix F G n n = (List.range n).map F := List.map_congr_left fun k hk => by rw [if_pos (by simpa using hk)]
theorem mix_at (h : j < (mix F G j n).length) : (mix F G j n)[j] = G j := by simp [mix]
theorem mix_ext (h : ∀ k, k < n → k ≠ j → True) (L : List Int) (hl : L.length = n) (hL : ∀ k, (hk : k < L.length) → L[k] = if k < j + 1 then F k else G k) : L = mix F G (j + 1) n := by
  apply List.ext_getElem
  · rw [hl, mix_len]
  · intro k h1 h2
    rw [hL k h1]
    simp [mix]
theorem mix_set : (mix F G j n).set j (F j) = mix F G (j + 1) n :=
  mix_ext (fun _ _ _ => trivial) _ (by rw [List.length_set, mix_len]) fun k hk => by
    rw [List.getElem_set]
    split
    · rename_i h; subst h; rw [if_pos (by omega)]
    · rename_i h
      simp only [mix, List.getElem_map, List.getElem_range]
      by_cases h1 : k < j
      · rw [if_pos h1, if_pos (by omega)]
      · rw [if_neg h1, if_neg (by omega)]
theorem mix_same (h : F j = G j) : mix F G j n = mix F G (j + 1) n :=
  mix_ext (fun _ _ _ => trivial) _ mix_len fun k hk => by
    simp only [mix, List.getElem_map, List.getElem_range]
    by_cases h1 : k < j
    · rw [if_pos h1, if_pos (by omega)]
    · rw [if_neg h1]
      by_cases h2 : k = j
      · subst h2; rw [if_pos (by omega), h]
      · rw [if_neg (by omega)]
end
theorem rowO_mix (m : List Int) (F : Nat → Int) : rowO m = mix F (gN m) 0 (lastN (gN m) 512) := mix_zero.symm
theorem fresh_mix (m : List Int) : freshO m = mix (freshF m) (gN m) (lastN (gN m) 512) (lastN (gN m) 512) := by
  unfold freshO rowF
  rw [lastN_freshF, mix_full]
theorem merge_mix (o m : List Int) : mergeO o m = mix (mergeF o m) (gN m) (lastN (gN m) 512) (lastN (gN m) 512) := by
  unfold mergeO rowF
  rw [lastN_mergeF, mix_full]
theorem freshO_len (m : List Int) : (freshO m).length = lastN (gN m) 512 := by rw [fresh_mix, mix_len]
theorem mergeO_len (o m : List Int) : (mergeO o m).length = lastN (gN m) 512 := by rw [merge_mix, mix_len]
theorem rowO_len (m : List Int) : (rowO m).length = lastN (gN m) 512 := rowF_length _

set_option maxRecDepth 100000 in
theorem Fresh_any (D : Nat → Prop) (A : Option Addr) (c : Nat) (m : List Int) (w : World) (h : RdI w D A m) :
    Calls Try.prog 20 #[.slice A m.length c] w fun e w' => ∃ A' c', e = .returned (.slice A' (freshO m).length c') ∧ RowI w' w.heap.size A' (freshO m) ∧ (freshO m).length ≤ c' ∧ c' ≤ 9223372036854775807 ∧ Below w.heap.size w w' := by
  obtain ⟨n, hn⟩ : ∃ n, n = lastN (gN m) 512 := ⟨_, rfl⟩
  have hn5 : n ≤ 512 := by rw [hn]; exact lastN_le _ _
  have HR : Hid (rowO m = mix (freshF m) (gN m) 0 n) := by rw [hn]; exact rowO_mix m _
  have HF : Hid (freshO m = mix (freshF m) (gN m) n n) := by rw [hn]; exact fresh_mix m
  clear hn
  go_enter Try.func20, Try.ntmps20
  go_wp2_with fail
  with_reducible refine (row_any D A c m w h).mono ?_
  rintro e w1 ⟨A', rfl, r, b1⟩
  rw [HR.out] at r
  rw [HR.out, mix_len]
  go_wp2_with fail
  go_loopw [4, 9] (fun i4 i wr => ∃ j : Nat, j ≤ n ∧ i = .int .i64 (j : Int) ∧ RowI wr w.heap.size A' (mix (freshF m) (gN m) j n) ∧ Below w.heap.size w wr) (fun i4 i _ => n - (intOf i).toNat)
  case atStart => exact ⟨0, Nat.zero_le _, rfl, r, b1⟩
  case round =>
    clear r b1
    obtain ⟨j, hj, rfl, r, bb⟩ := hrel
    by_cases hlt : j < n
    · obtain ⟨g, rfl, hgb, hgl, hcell, hfr, hst⟩ := r.store (k := j) (by rw [mix_len]; exact hlt)
      rw [mix_at] at hcell
      by_cases hz : gN m j = 1
      · have r2 := hst (freshF m j)
        rw [mix_set] at r2
        have e2 : freshF m j = 2 := by unfold freshF; rw [if_pos hz]
        rw [e2] at r2
        have b2 := below_store (k := j) bb hgb (.int .i64 2)
        rw [hz] at hcell
        clear hst e2 hz
        go_wp2_with fail
        go_roundw
        case rel => exact ⟨j + 1, by omega, by go_num, r2, b2⟩
        case measure => simp [intOf] <;> omega
      · have e2 : freshF m j = gN m j := by unfold freshF; rw [if_neg hz]
        rw [mix_same e2] at r
        have hzb : (gN m j == 1) = false := by simp [hz]
        generalize gN m j = z at *
        clear hst e2
        go_wp2_with fail
        go_roundw
        case rel => exact ⟨j + 1, by omega, by go_num, r, bb⟩
        case measure => simp [intOf] <;> omega
    · obtain rfl : j = n := by omega
      rw [← HF.out] at r
      have hl : (freshO m).length = j := by rw [HF.out, mix_len]
      have HL := Lib.hid hl
      clear hl
      go_wp2_with fail
      go_ret
      exact ⟨A', j, by rw [HL.out] <;> rfl, r, by rw [HL.out]; exact Nat.le_refl _, by omega, bb⟩

set_option maxRecDepth 100000 in
theorem Merge_any (D D' : Nat → Prop) (A B : Option Addr) (c d : Nat) (o m : List Int) (w : World) (ho : RdI w D' B o) (h : RdI w D A m) :
    Calls Try.prog 22 #[.slice B o.length d, .slice A m.length c] w fun e w' => ∃ A' c', e = .returned (.slice A' (mergeO o m).length c') ∧ RowI w' w.heap.size A' (mergeO o m) ∧ (mergeO o m).length ≤ c' ∧ c' ≤ 9223372036854775807 ∧ Below w.heap.size w w' := by
  obtain ⟨n, hn⟩ : ∃ n, n = lastN (gN m) 512 := ⟨_, rfl⟩
  have hn5 : n ≤ 512 := by rw [hn]; exact lastN_le _ _
  have HR : Hid (rowO m = mix (mergeF o m) (gN m) 0 n) := by rw [hn]; exact rowO_mix m _
  have HF : Hid (mergeO o m = mix (mergeF o m) (gN m) n n) := by rw [hn]; exact merge_mix o m
  clear hn
  have hod : RdI w (fun b => D' b ∧ b < w.heap.size) B o := Rd.imp ho (fun b h1 h2 => ⟨h2, h1⟩) (by decide)
  go_enter Try.func22, Try.ntmps22
  go_wp2_with fail
  with_reducible refine (row_any D A c m w h).mono ?_
  rintro e w1 ⟨A', rfl, r, b1⟩
  rw [HR.out] at r
  rw [HR.out, mix_len]
  go_wp2_with fail
  go_loopw [6, 11] (fun i6 i wr => ∃ j : Nat, j ≤ n ∧ i = .int .i64 (j : Int) ∧ RowI wr w.heap.size A' (mix (mergeF o m) (gN m) j n) ∧ Below w.heap.size w wr) (fun i6 i _ => n - (intOf i).toNat)
  case atStart => exact ⟨0, Nat.zero_le _, rfl, r, b1⟩
  case round =>
    clear r b1
    obtain ⟨j, hj, rfl, r, bb⟩ := hrel
    have ho2 : RdI wr _ B o := Rd.belowB hod bb (fun _ h => h.2)
    by_cases hlt : j < n
    · obtain ⟨g, rfl, hgb, hgl, hcell, hfr, hst⟩ := r.store (k := j) (by rw [mix_len]; exact hlt)
      rw [mix_at] at hcell
      have hcall := Get_any _ B d o j wr ho2
      rw [gO_nat] at hcall
      by_cases hz : gN m j = 2
      · by_cases hy : gN o j = 1
        · have r2 := hst (mergeF o m j)
          rw [mix_set] at r2
          have e2 : mergeF o m j = 1 := by unfold mergeF; rw [if_pos ⟨hz, hy⟩]
          rw [e2] at r2
          have b2 := below_store (k := j) bb hgb (.int .i64 1)
          rw [hz] at hcell
          rw [hy] at hcall
          clear hst e2 hz hy
          go_wp2_with fail
          with_reducible refine hcall.mono ?_
          rintro e w3 ⟨rfl, rfl⟩
          go_wp2_with fail
          go_roundw
          case rel => exact ⟨j + 1, by omega, by go_num, r2, b2⟩
          case measure => simp [intOf] <;> omega
        · have e2 : mergeF o m j = gN m j := by unfold mergeF; rw [if_neg (fun h => hy h.2)]
          rw [mix_same e2] at r
          have hyb : (gN o j == 1) = false := by simp [hy]
          rw [hz] at hcell
          generalize gN o j = y at *
          clear hst e2 hz
          go_wp2_with fail
          with_reducible refine hcall.mono ?_
          rintro e w3 ⟨rfl, rfl⟩
          go_wp2_with fail
          go_roundw
          case rel => exact ⟨j + 1, by omega, by go_num, r, bb⟩
          case measure => simp [intOf] <;> omega
      · have e2 : mergeF o m j = gN m j := by unfold mergeF; rw [if_neg (fun h => hz h.1)]
        rw [mix_same e2] at r
        have hzb : (gN m j == 2) = false := by simp [hz]
        generalize gN m j = z at *
        clear hst e2
        go_wp2_with fail
        go_roundw
        case rel => exact ⟨j + 1, by omega, by go_num, r, bb⟩
        case measure => simp [intOf] <;> omega
    · obtain rfl : j = n := by omega
      rw [← HF.out] at r
      have hl : (mergeO o m).length = j := by rw [HF.out, mix_len]
      have HL := Lib.hid hl
      clear hl
      go_wp2_with fail
      go_ret
      exact ⟨A', j, by rw [HL.out] <;> rfl, r, by rw [HL.out]; exact Nat.le_refl _, by omega, bb⟩
end Go.Proofs.Ytmifmnpbkdjbaaa
