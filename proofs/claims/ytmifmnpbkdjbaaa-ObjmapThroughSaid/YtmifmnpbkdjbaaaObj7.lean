import Derived.Test.YtmifmnpbkdjbaaaObj6
namespace Go.Proofs.Ytmifmnpbkdjbaaa
open Go.RowKit
set_option linter.unusedVariables false

theorem rRowF_any (D : Nat → Prop) (A : Option Addr) (c : Nat) (m : List Int) (w : World) (h : RdI w D A m) (hc : m.length ≤ c) (hm : c ≤ 9223372036854775807) :
    Calls Try.prog 36 #[.slice A m.length c] w fun e w' => ∃ A' c', e = .returned (.slice A' (rowO m).length c') ∧ RowI w' w.heap.size A' (rowO m) ∧ (rowO m).length ≤ c' ∧ c' ≤ 9223372036854775807 ∧ Below w.heap.size w w' :=
  (rRow_any D A c m w h hc hm).mono fun e w' ⟨v, he, ho, hb⟩ => by
    obtain ⟨A', c', rfl, h1, h2⟩ := ho.form
    exact ⟨A', c', he, RowI.of_own ho, h1, by unfold maxLen at h2; omega, hb⟩

theorem getD_pad (l : List Int) (t k : Nat) : (l ++ List.replicate t 0).getD k 0 = l.getD k 0 := by
  rw [List.getD_eq_getElem?_getD, List.getD_eq_getElem?_getD, List.getElem?_append]
  split
  · rfl
  · rename_i h
    rw [List.getElem?_eq_none (by omega : l.length ≤ k), List.getElem?_replicate]
    split <;> rfl
theorem setO_ref (m : List Int) (i : Nat) (st : Int) (t : Nat) (hi : i < 512) (hst : 0 ≤ st ∧ st ≤ 2) (hl : i < (rowO m ++ List.replicate t 0).length) :
    rowO ((rowO m ++ List.replicate t 0).set i st) = rowF (setF m i st) := by
  refine rowF_congr fun k hk => ?_
  unfold setF
  have hget : ((rowO m ++ List.replicate t 0).set i st).getD k 0 = if k = i then st else (rowO m).getD k 0 := by
    rw [List.getD_eq_getElem?_getD, List.getElem?_set]
    split
    · rename_i h; subst h
      rw [if_pos rfl]; rfl
    · rename_i h
      rw [if_neg (fun e => h e.symm), ← getD_pad (rowO m) t k, List.getD_eq_getElem?_getD]
  unfold gN
  rw [hget]
  by_cases h : k = i
  · rw [if_pos h, if_pos h, if_pos ⟨hk, hst⟩]
  · rw [if_neg h, if_neg h]
    have := gN_rowO m k
    unfold gN at this
    exact this

set_option maxRecDepth 100000 in
theorem rSet_any (D : Nat → Prop) (A : Option Addr) (c : Nat) (m : List Int) (i st : Int) (w : World) (h : RdI w D A m) (hc : m.length ≤ c) (hm : c ≤ 9223372036854775807) (hi63 : I64 i) :
    Calls Try.prog 17 #[.slice A m.length c, .int .i64 i, .int .i64 st] w fun e w' => ∃ v, e = .returned v ∧ OwnI w' w.heap.size v (setO m i st) ∧ Below w.heap.size w w' := by
  by_cases hgood : 0 ≤ i ∧ i < 512 ∧ 0 ≤ st ∧ st ≤ 2
  · have hS : Hid (setO m i st = rowF (setF m i.toNat st)) := by unfold Hid setO; rw [if_pos hgood]
    obtain ⟨hb1, hb2, hb3, hb4⟩ := hgood
    obtain ⟨k, rfl⟩ : ∃ k : Nat, i = (k : Int) := ⟨i.toNat, by omega⟩
    rw [Int.toNat_natCast] at hS
    have hk5 : k < 512 := by omega
    have HS2 : Hid (∀ t, k < (rowO m ++ List.replicate t 0).length → rowO ((rowO m ++ List.replicate t 0).set k st) = setO m k st) := fun t ht => by rw [hS.out]; exact setO_ref m k st t hk5 ⟨hb3, hb4⟩ ht
    have hr5 : (rowO m).length ≤ 512 := rowF_len _
    go_enter Try.func17, Try.ntmps17
    go_wp2_with fail
    with_reducible refine (rRow_any D A c m w h hc hm).mono ?_
    rintro e w1 ⟨v, rfl, hown, b1⟩
    generalize rowO m = l at *
    go_wp2_with fail
    go_loopw [7] (fun b wr => ∃ t : Nat, (t = 0 ∨ l.length + t ≤ k + 1) ∧ OwnI wr w.heap.size b (l ++ List.replicate t 0) ∧ Below w.heap.size w wr) (fun b _ => k + 1 - (match b with | .slice _ n _ => n | _ => 0))
    case atStart => exact ⟨0, .inl rfl, by simpa using hown, b1⟩
    case round =>
      clear hown b1
      obtain ⟨t, ht, hown, bb⟩ := hrel
      have HE : Hid (l ++ List.replicate (t + 1) (0 : Int) = (l ++ List.replicate t 0) ++ [0]) := by unfold Hid; rw [List.append_assoc, List.replicate_succ']
      have hlen : (l ++ List.replicate t (0 : Int)).length = l.length + t := by simp
      have HS3 := Lib.hid (HS2.out t)
      obtain ⟨xs, hxs⟩ : ∃ xs, xs = l ++ List.replicate t (0 : Int) := ⟨_, rfl⟩
      rw [← hxs] at hlen hown HE HS3
      clear hxs
      have HLn := Lib.hid hlen
      clear hlen
      obtain ⟨A1, c1, rfl, hc1, hm1⟩ := hown.form
      unfold maxLen at hm1
      by_cases hle : xs.length ≤ k
      · go_wp2_with (at_builtin; refine wpList_appI rfl (.tmp 29) (.tmp 30) rfl w.heap.size _ xs rfl (OwnI.below hown (below_new _ _)) _ (some ⟨wr.heap.size, 0, none⟩) 1 1 [0] rfl rfl (rd_newI wr 0) (by unfold big; simp only [List.length_cons, List.length_nil]; omega) (Nat.le_trans bb.size (below_new wr _).size) ?_; intro v' w' h1 h2)
        have b2 := (bb.thenB' (below_new wr _)).trans (h2.below (OwnI.below hown (below_new wr _)) (Nat.le_refl _) (Nat.le_trans bb.size (below_new wr _).size))
        obtain ⟨A2, c2, rfl, _, _⟩ := h1.form
        go_roundw
        case rel => exact ⟨t + 1, .inr (by have := HLn.out; omega), by rw [HE.out]; exact h1, b2⟩
        case measure => simp; omega
      · have r := RowI.of_own hown
        obtain ⟨g, rfl, hgb, hgl, hcell, hfr, hst⟩ := r.store (k := k) (by omega)
        have r2 := hst st
        have b2 := below_store (k := k) bb hgb (.int .i64 st)
        have hset : (xs.set k st).length = xs.length := by simp
        clear hst r hown
        go_wp2_with fail
        generalize wr.setCell ⟨g, k, none⟩ (.int .i64 st) = w2 at *
        have hcall := rRow_any _ (some ⟨g, 0, none⟩) c1 (xs.set k st) w2 r2.rd (by omega) (by omega)
        rw [hset, HS3.out (by omega)] at hcall
        with_reducible refine hcall.mono ?_
        clear hcall
        rintro e w3 ⟨v3, rfl, hown, b3⟩
        go_wp2_with fail
        go_ret
        exact ⟨_, rfl, hown.low b2.size, b2.thenB' b3⟩
  · have hS : Hid (setO m i st = rowO m) := by unfold Hid setO; rw [if_neg hgood]
    have hcase : i < 0 ∨ (0 ≤ i ∧ 511 < i) ∨ (0 ≤ i ∧ i ≤ 511 ∧ st < 0) ∨ (0 ≤ i ∧ i ≤ 511 ∧ 0 ≤ st ∧ 2 < st) := by omega
    clear hgood
    rcases hcase with h1 | ⟨h1, h2⟩ | ⟨h1, h2, h3⟩ | ⟨h1, h2, h3, h4⟩
    all_goals
      go_enter Try.func17, Try.ntmps17
      go_wp2_with fail
      with_reducible refine (rRow_any D A c m w h hc hm).mono ?_
      rintro e w1 ⟨v, rfl, hown, b1⟩
      go_wp2_with fail
      go_ret
      exact ⟨_, rfl, by rw [hS.out]; exact hown, b1⟩

set_option maxRecDepth 100000 in
theorem rFresh_any (D : Nat → Prop) (A : Option Addr) (c : Nat) (m : List Int) (w : World) (h : RdI w D A m) (hc : m.length ≤ c) (hm : c ≤ 9223372036854775807) :
    Calls Try.prog 21 #[.slice A m.length c] w fun e w' => ∃ A' c', e = .returned (.slice A' (freshO m).length c') ∧ RowI w' w.heap.size A' (freshO m) ∧ (freshO m).length ≤ c' ∧ c' ≤ 9223372036854775807 ∧ Below w.heap.size w w' := by
  obtain ⟨n, hn⟩ : ∃ n, n = lastN (gN m) 512 := ⟨_, rfl⟩
  have hn5 : n ≤ 512 := by rw [hn]; exact lastN_le _ _
  have HR : Hid (rowO m = mix (freshF m) (gN m) 0 n) := by rw [hn]; exact rowO_mix m _
  have HF : Hid (freshO m = mix (freshF m) (gN m) n n) := by rw [hn]; exact fresh_mix m
  clear hn
  go_enter Try.func21, Try.ntmps21
  go_wp2_with fail
  with_reducible refine (rRowF_any D A c m w h hc hm).mono ?_
  rintro e w1 ⟨A', c', rfl, r, lc', mc', b1⟩
  rw [HR.out, mix_len] at lc'
  rw [HR.out] at r
  rw [HR.out, mix_len]
  go_wp2_with fail
  go_loopw [4] (fun i wr => ∃ j : Nat, j ≤ n ∧ i = .int .i64 (j : Int) ∧ RowI wr w.heap.size A' (mix (freshF m) (gN m) j n) ∧ Below w.heap.size w wr) (fun i _ => n - (intOf i).toNat)
  case atStart => exact ⟨0, Nat.zero_le _, rfl, r, b1⟩
  case round =>
    clear r b1
    obtain ⟨j, hj, rfl, r, bb⟩ := hrel
    by_cases hlt : j < n
    · obtain ⟨g, rfl, hgb, hgl, hcell, hfr, hst⟩ := r.store (k := j) (by rw [mix_len]; exact hlt)
      rw [mix_at] at hcell
      by_cases hz : gN m j = 1
      · have r2 := hst (freshF m j)
        rw [mix_set] at r2
        have e2 : freshF m j = 2 := by unfold freshF; rw [if_pos hz]
        rw [e2] at r2
        have b2 := below_store (k := j) bb hgb (.int .i64 2)
        rw [hz] at hcell
        clear hst e2 hz
        go_wp2_with fail
        go_roundw
        case rel => exact ⟨j + 1, by omega, by go_num, r2, b2⟩
        case measure => simp [intOf] <;> omega
      · have e2 : freshF m j = gN m j := by unfold freshF; rw [if_neg hz]
        rw [mix_same e2] at r
        have hzb : (gN m j == 1) = false := by simp [hz]
        generalize gN m j = z at *
        clear hst e2
        go_wp2_with fail
        go_roundw
        case rel => exact ⟨j + 1, by omega, by go_num, r, bb⟩
        case measure => simp [intOf] <;> omega
    · obtain rfl : j = n := by omega
      rw [← HF.out] at r
      have hl : (freshO m).length = j := by rw [HF.out, mix_len]
      have HL := Lib.hid hl
      clear hl
      go_wp2_with fail
      go_ret
      exact ⟨A', c', by rw [HL.out] <;> rfl, r, by rw [HL.out]; exact lc', mc', bb⟩

set_option maxRecDepth 100000 in
theorem rMerge_any (D D' : Nat → Prop) (A B : Option Addr) (c d : Nat) (o m : List Int) (w : World) (ho : RdI w D' B o) (h : RdI w D A m) (hc : m.length ≤ c) (hm : c ≤ 9223372036854775807) :
    Calls Try.prog 23 #[.slice B o.length d, .slice A m.length c] w fun e w' => ∃ A' c', e = .returned (.slice A' (mergeO o m).length c') ∧ RowI w' w.heap.size A' (mergeO o m) ∧ (mergeO o m).length ≤ c' ∧ c' ≤ 9223372036854775807 ∧ Below w.heap.size w w' := by
  obtain ⟨n, hn⟩ : ∃ n, n = lastN (gN m) 512 := ⟨_, rfl⟩
  have hn5 : n ≤ 512 := by rw [hn]; exact lastN_le _ _
  have HR : Hid (rowO m = mix (mergeF o m) (gN m) 0 n) := by rw [hn]; exact rowO_mix m _
  have HF : Hid (mergeO o m = mix (mergeF o m) (gN m) n n) := by rw [hn]; exact merge_mix o m
  clear hn
  have hod : RdI w (fun b => D' b ∧ b < w.heap.size) B o := Rd.imp ho (fun b h1 h2 => ⟨h2, h1⟩) (by decide)
  go_enter Try.func23, Try.ntmps23
  go_wp2_with fail
  with_reducible refine (rRowF_any D A c m w h hc hm).mono ?_
  rintro e w1 ⟨A', c', rfl, r, lc', mc', b1⟩
  rw [HR.out, mix_len] at lc'
  rw [HR.out] at r
  rw [HR.out, mix_len]
  go_wp2_with fail
  go_loopw [6] (fun i wr => ∃ j : Nat, j ≤ n ∧ i = .int .i64 (j : Int) ∧ RowI wr w.heap.size A' (mix (mergeF o m) (gN m) j n) ∧ Below w.heap.size w wr) (fun i _ => n - (intOf i).toNat)
  case atStart => exact ⟨0, Nat.zero_le _, rfl, r, b1⟩
  case round =>
    clear r b1
    obtain ⟨j, hj, rfl, r, bb⟩ := hrel
    have ho2 : RdI wr _ B o := Rd.belowB hod bb (fun _ h => h.2)
    by_cases hlt : j < n
    · obtain ⟨g, rfl, hgb, hgl, hcell, hfr, hst⟩ := r.store (k := j) (by rw [mix_len]; exact hlt)
      rw [mix_at] at hcell
      have hcall := rGet_any _ B d o j wr ho2
      rw [gO_nat] at hcall
      by_cases hz : gN m j = 2
      · by_cases hy : gN o j = 1
        · have r2 := hst (mergeF o m j)
          rw [mix_set] at r2
          have e2 : mergeF o m j = 1 := by unfold mergeF; rw [if_pos ⟨hz, hy⟩]
          rw [e2] at r2
          have b2 := below_store (k := j) bb hgb (.int .i64 1)
          rw [hz] at hcell
          rw [hy] at hcall
          clear hst e2 hz hy
          go_wp2_with fail
          with_reducible refine hcall.mono ?_
          rintro e w3 ⟨rfl, rfl⟩
          go_wp2_with fail
          go_roundw
          case rel => exact ⟨j + 1, by omega, by go_num, r2, b2⟩
          case measure => simp [intOf] <;> omega
        · have e2 : mergeF o m j = gN m j := by unfold mergeF; rw [if_neg (fun h => hy h.2)]
          rw [mix_same e2] at r
          have hyb : (gN o j == 1) = false := by simp [hy]
          rw [hz] at hcell
          generalize gN o j = y at *
          clear hst e2 hz
          go_wp2_with fail
          with_reducible refine hcall.mono ?_
          rintro e w3 ⟨rfl, rfl⟩
          go_wp2_with fail
          go_roundw
          case rel => exact ⟨j + 1, by omega, by go_num, r, bb⟩
          case measure => simp [intOf] <;> omega
      · have e2 : mergeF o m j = gN m j := by unfold mergeF; rw [if_neg (fun h => hz h.1)]
        rw [mix_same e2] at r
        have hzb : (gN m j == 2) = false := by simp [hz]
        generalize gN m j = z at *
        clear hst e2
        go_wp2_with fail
        go_roundw
        case rel => exact ⟨j + 1, by omega, by go_num, r, bb⟩
        case measure => simp [intOf] <;> omega
    · obtain rfl : j = n := by omega
      rw [← HF.out] at r
      have hl : (mergeO o m).length = j := by rw [HF.out, mix_len]
      have HL := Lib.hid hl
      clear hl
      go_wp2_with fail
      go_ret
      exact ⟨A', c', by rw [HL.out] <;> rfl, r, by rw [HL.out]; exact lc', mc', bb⟩
end Go.Proofs.Ytmifmnpbkdjbaaa
