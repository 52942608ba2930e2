/- The document's messages: rows in memory; end, At, Count. -/
import Derived.Test.YtpfbiamgnmbhnaaNtB
import Derived.Lib.ConvBytes
namespace Go.Proofs.Ytpfbiamgnmbhnaa
open Go.RowKit
set_option linter.unusedVariables false
set_option maxRecDepth 100000

/-! ### rows of messages -/
def msC (e : Msg) : List Value := [.int .i64 e.1.1, .int .i64 e.1.2, .string (str e.2)]
theorem msC_len (e : Msg) : (msC e).length = 3 := rfl
theorem msC_one (e : Msg) : ∀ v ∈ msC e, v.oneCell' = true := by
  intro v hv
  simp only [msC, List.mem_cons, List.not_mem_nil, or_false] at hv
  rcases hv with rfl | rfl | rfl <;> rfl
def RdMs (w : World) (D : Nat → Prop) (A : Option Addr) (L : List Msg) : Prop := RdL w D 3 msC A L
def OwnMs (w : World) (base : Nat) (v : Value) (L : List Msg) : Prop := OwnC 57 3 msC w base v L
theorem infoMs : (Try.prog.info? 57).map (fun i => (i.zero, i.size, i.bytes)) = some (some (.agg #[.int .i64 0, .int .i64 0, .string (str [])]), 3, 32) := by kernel_rfl
theorem add_at (a : Addr) (n j : Nat) : a.add (n + (j + 1)) = ⟨(a.add n).block, (a.add n).off + (j + 1), none⟩ := by
  rw [← add_of_add]
  generalize a.add n = b
  unfold Addr.add
  rw [if_neg (by omega)]
theorem RdMs.at_ {w : World} {D : Nat → Prop} {A : Option Addr} {L : List Msg} (h : RdMs w D A L) {i : Nat} (hi : i < L.length) :
    ∃ ad, A = some ad ∧ w.cell? (ad.add (i * 3)) = some (.int .i64 L[i].1.1) ∧ w.cell? ⟨(ad.add (i * 3)).block, (ad.add (i * 3)).off + 1, none⟩ = some (.int .i64 L[i].1.2) ∧ w.cell? ⟨(ad.add (i * 3)).block, (ad.add (i * 3)).off + 2, none⟩ = some (.string (str L[i].2)) := by
  obtain ⟨ad, e, _, hc⟩ := h (by omega)
  have hL := List.getElem?_eq_getElem hi
  exact ⟨ad, e, hc i _ hL 0 _ rfl, by rw [← add_at _ _ 0]; exact hc i _ hL 1 _ rfl, by rw [← add_at _ _ 1]; exact hc i _ hL 2 _ rfl⟩
theorem RdMs.below {w w' : World} {D : Nat → Prop} {A : Option Addr} {L : List Msg} (h : RdMs w D A L) (hb : Below w.heap.size w w') : RdMs w' D A L := RdL.below h hb
theorem OwnMs.rd {w : World} {base n c : Nat} {A : Option Addr} {L : List Msg} (h : OwnMs w base (.slice A n c) L) : RdMs w (fun k => base ≤ k ∧ (Value.slice A n c).ownBlock = some k) A L := OwnC.rd msC_len h

/-! ### where a link's message stands -/
def atL (k : Int × Int) (i : Int) : List Msg → Nat → Nat → Int
  | [], _, _ => -1
  | e :: r, n, pos => if e.1 = k then (if (n : Int) = i then (pos : Int) else atL k i r (n + 1) (pos + 1)) else atL k i r n (pos + 1)
theorem atL_eq (k : Int × Int) (i : Int) : ∀ (S : List Msg) (n pos : Nat), atL k i S n pos = match (if (n : Int) ≤ i then placeN k S (i - n).toNat else none) with | some p => ((pos + p : Nat) : Int) | none => -1
  | [], n, pos => by
    unfold atL placeN
    split <;> rename_i h
    · split at h <;> cases h
    · rfl
  | e :: r, n, pos => by
    unfold atL placeN
    by_cases hk : e.1 = k
    · rw [if_pos hk, if_pos hk]
      by_cases hn : (n : Int) = i
      · rw [if_pos hn, if_pos (by omega), show (i - n).toNat = 0 by omega]
        simp
      · rw [if_neg hn, atL_eq k i r]
        by_cases hlt : (n : Int) ≤ i
        · rw [if_pos hlt, if_pos (by omega)]
          obtain ⟨m, hm⟩ : ∃ m, (i - n).toNat = m + 1 := ⟨(i - n).toNat - 1, by omega⟩
          rw [hm, show (i - ((n + 1 : Nat) : Int)).toNat = m by omega]
          cases hq : placeN k r m with
          | none => simp only [hq, Option.map_none]
          | some p => simp only [hq, Option.map_some]; show ((pos + 1 + p : Nat) : Int) = ((pos + (p + 1) : Nat) : Int); omega
        · rw [if_neg hlt, if_neg (by omega)]
    · rw [if_neg hk, if_neg hk, atL_eq k i r]
      by_cases hlt : (n : Int) ≤ i
      · rw [if_pos hlt, if_pos hlt]
        cases placeN k r (i - n).toNat with
        | none => rfl
        | some p => simp only [Option.map_some]; show ((pos + 1 + p : Nat) : Int) = ((pos + (p + 1) : Nat) : Int); omega
      · rw [if_neg hlt, if_neg hlt]
def atI (S : List Msg) (a b i : Int) : Int := match atP S a b i with | some p => (p : Int) | none => -1
theorem atI_eq (S : List Msg) (a b i : Int) : atI S a b i = atL (a, b) i S 0 0 := by
  rw [atL_eq]
  unfold atI atP
  by_cases h : 0 ≤ i
  · rw [if_pos h, if_pos (by simpa using h), show (i - ((0 : Nat) : Int)).toNat = i.toNat by omega]
    cases placeN (a, b) S i.toNat <;> simp
  · rw [if_neg h, if_neg (by simpa using h)]

theorem rend_any (n : Int) (w : World) : Calls Try.prog 28 #[.int .i64 n] w fun e w' => e = .returned (.bool (decide (EndP n))) ∧ w = w' := by
  have e : decide (EndP n) = (decide (0 ≤ n) && decide (n ≤ 8)) := by unfold EndP; by_cases h1 : 0 ≤ n <;> by_cases h2 : n ≤ 8 <;> simp [h1, h2]
  rw [e]
  by_cases h : 0 ≤ n
  · go_enter Try.func28, Try.ntmps28
    go_wp2_with fail
    go_ret
    exact ⟨by rw [decide_eq_true h]; rfl, rfl⟩
  · go_enter Try.func28, Try.ntmps28
    go_wp2_with fail
    go_ret
    exact ⟨by rw [decide_eq_false (show ¬ 0 ≤ n by omega)]; rfl, rfl⟩
set_option maxHeartbeats 4000000 in
theorem At_any (D : Nat → Prop) (A : Option Addr) (c : Nat) (S : List Msg) (a b i : Int) (w : World) (hr : RdMs w D A S) (hl : S.length ≤ 1000000) (hc : S.length ≤ c) :
    Calls Try.prog 29 #[.slice A S.length c, .int .i64 a, .int .i64 b, .int .i64 i] w fun e w' => e = .returned (.int .i64 (atI S a b i)) ∧ w = w' := by
  rw [atI_eq]
  go_enter Try.func29, Try.ntmps29
  go_wp2_with fail
  go_loopw [9, 10] (fun s9 s10 wr => ∃ (n j : Nat), s9 = .int .i64 (n : Int) ∧ s10 = .int .i64 (j : Int) ∧ Hid (n ≤ j) ∧ j ≤ S.length ∧ Hid (atL (a, b) i (S.drop j) n j = atL (a, b) i S 0 0) ∧ wr = w) (fun s9 s10 _ => S.length - (intOf s10).toNat)
  case atStart => exact ⟨0, 0, rfl, rfl, Lib.hid (Nat.le_refl _), Nat.zero_le _, Lib.hid rfl, rfl⟩
  case round =>
    obtain ⟨n, j, rfl, rfl, HN, hj, HP, rfl⟩ := hrel
    by_cases hlt : j < S.length
    · obtain ⟨ad, rfl, c0, c1, c2⟩ := hr.at_ hlt
      have hd : S.drop j = S[j] :: S.drop (j + 1) := List.drop_eq_getElem_cons hlt
      have HS : Hid (atL (a, b) i (S.drop j) n j = if S[j].1 = (a, b) then (if (n : Int) = i then (j : Int) else atL (a, b) i (S.drop (j + 1)) (n + 1) (j + 1)) else atL (a, b) i (S.drop (j + 1)) n (j + 1)) := by rw [hd]; exact Lib.hid rfl
      have hnj : n ≤ 1000000 := by have := HN.out; omega
      clear hd
      generalize S[j] = e at *
      obtain ⟨⟨ea, eb⟩, el⟩ := e
      simp only at c0 c1 c2
      by_cases h1 : ea = a
      · by_cases h2 : eb = b
        · subst h1 h2
          by_cases h3 : (n : Int) = i
          · subst h3
            have e : atL (ea, eb) (n : Int) S 0 0 = (j : Int) := by rw [← HP.out, HS.out, if_pos rfl, if_pos rfl]
            have HE := Lib.hid e
            clear e HS HP c2
            go_wp2_with fail
            go_ret
            exact ⟨by rw [HE.out]; rfl, rfl⟩
          · have e : atL (ea, eb) i (S.drop (j + 1)) (n + 1) (j + 1) = atL (ea, eb) i S 0 0 := by rw [← HP.out, HS.out, if_pos rfl, if_neg h3]
            have HE := Lib.hid e
            clear e HS HP c2
            go_wp2_with fail
            go_roundw
            case rel => exact ⟨n + 1, j + 1, by simp, by simp, Lib.hid (by have := HN.out; omega), hlt, HE, trivial⟩
            case measure => simp only [intOf]; omega
        · have e : atL (a, b) i (S.drop (j + 1)) n (j + 1) = atL (a, b) i S 0 0 := by rw [← HP.out, HS.out, if_neg (fun h => h2 (by injection h))]
          have HE := Lib.hid e
          clear e HS HP c2
          go_wp2_with fail
          go_roundw
          case rel => exact ⟨n, j + 1, rfl, by simp, Lib.hid (by have := HN.out; omega), hlt, HE, trivial⟩
          case measure => simp only [intOf]; omega
      · have e : atL (a, b) i (S.drop (j + 1)) n (j + 1) = atL (a, b) i S 0 0 := by rw [← HP.out, HS.out, if_neg (fun h => h1 (by injection h))]
        have HE := Lib.hid e
        have hd : decide (ea = a) = false := decide_eq_false h1
        clear e HS HP c2 c1
        go_wp2_with fail
        go_roundw
        case rel => exact ⟨n, j + 1, rfl, by simp, Lib.hid (by have := HN.out; omega), hlt, HE, trivial⟩
        case measure => simp only [intOf]; omega
    · obtain rfl : j = S.length := by omega
      have e : atL (a, b) i S 0 0 = -1 := by rw [← HP.out, List.drop_length]; rfl
      have HE := Lib.hid e
      clear e HP
      go_wp2_with fail
      go_ret
      exact ⟨by rw [HE.out]; rfl, rfl⟩
theorem bag_step (S : List Msg) (j : Nat) (hj : j < S.length) (k : Int × Int) : (bagN (S.take (j + 1)) k).length = (bagN (S.take j) k).length + if S[j].1 = k then 1 else 0 := by
  rw [List.take_succ_eq_append_getElem hj]
  have := bagN_app (S.take j) S[j].1 S[j].2 k
  rw [show [((S[j]).1, (S[j]).2)] = [S[j]] from rfl] at this
  rw [this]
  by_cases h : k = S[j].1
  · rw [if_pos h, if_pos h.symm, List.length_append]; rfl
  · rw [if_neg h, if_neg (fun e => h e.symm)]; rfl
set_option maxHeartbeats 4000000 in
theorem rCount_any (D : Nat → Prop) (A : Option Addr) (c : Nat) (S : List Msg) (a b : Int) (w : World) (hr : RdMs w D A S) (hl : S.length ≤ 1000000) (hc : S.length ≤ c) :
    Calls Try.prog 12 #[.slice A S.length c, .int .i64 a, .int .i64 b] w fun e w' => e = .returned (.int .i64 ((bagN S (a, b)).length : Int)) ∧ w = w' := by
  go_enter Try.func12, Try.ntmps12
  go_wp2_with fail
  go_loopw [7, 8] (fun s7 s8 wr => ∃ (n j : Nat), s7 = .int .i64 (n : Int) ∧ s8 = .int .i64 (j : Int) ∧ j ≤ S.length ∧ Hid (n = (bagN (S.take j) (a, b)).length) ∧ wr = w) (fun s7 s8 _ => S.length - (intOf s8).toNat)
  case atStart => exact ⟨0, 0, rfl, rfl, Nat.zero_le _, Lib.hid rfl, rfl⟩
  case round =>
    obtain ⟨n, j, rfl, rfl, hj, HP, rfl⟩ := hrel
    by_cases hlt : j < S.length
    · obtain ⟨ad, rfl, c0, c1, c2⟩ := hr.at_ hlt
      have HS := Lib.hid (bag_step S j hlt (a, b))
      have hnj : n ≤ 1000000 := by
        have := bagN_len (S.take j) (a, b)
        rw [List.length_take] at this
        rw [HP.out]; omega
      generalize S[j] = e at *
      obtain ⟨⟨ea, eb⟩, el⟩ := e
      simp only at c0 c1 c2
      by_cases h1 : ea = a
      · by_cases h2 : eb = b
        · subst h1 h2
          have HE : Hid (n + 1 = (bagN (S.take (j + 1)) (ea, eb)).length) := Lib.hid (by rw [HS.out, if_pos rfl, HP.out])
          clear HS HP c2
          go_wp2_with fail
          go_roundw
          case rel => exact ⟨n + 1, j + 1, by simp, by simp, hlt, HE, trivial⟩
          case measure => simp only [intOf]; omega
        · have HE : Hid (n = (bagN (S.take (j + 1)) (a, b)).length) := Lib.hid (by rw [HS.out, if_neg (fun h => h2 (by injection h)), HP.out]; rfl)
          clear HS HP c2
          go_wp2_with fail
          go_roundw
          case rel => exact ⟨n, j + 1, rfl, by simp, hlt, HE, trivial⟩
          case measure => simp only [intOf]; omega
      · have HE : Hid (n = (bagN (S.take (j + 1)) (a, b)).length) := Lib.hid (by rw [HS.out, if_neg (fun h => h1 (by injection h)), HP.out]; rfl)
        have hd : decide (ea = a) = false := decide_eq_false h1
        clear HS HP c2 c1
        go_wp2_with fail
        go_roundw
        case rel => exact ⟨n, j + 1, rfl, by simp, hlt, HE, trivial⟩
        case measure => simp only [intOf]; omega
    · obtain rfl : j = S.length := by omega
      have HE : Hid (n = (bagN S (a, b)).length) := by have := HP.out; rw [List.take_length] at this; exact Lib.hid this
      clear HP
      go_wp2_with fail
      go_ret
      exact ⟨by rw [← HE.out]; rfl, rfl⟩
end Go.Proofs.Ytpfbiamgnmbhnaa
