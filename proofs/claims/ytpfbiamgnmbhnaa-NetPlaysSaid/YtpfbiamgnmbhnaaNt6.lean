/- has; Take. -/
import Derived.Test.YtpfbiamgnmbhnaaNt5
import Derived.BigQuiet
namespace Go.Proofs.Ytpfbiamgnmbhnaa
open Go.RowKit
set_option linter.unusedVariables false
set_option maxRecDepth 100000

theorem NetM.get {w : World} {base m cl : Nat} {L : List NE} {S : List Msg} (h : NetM w base m cl L S) (k : Int × Int) : ∃ rows, BagV w base (getN L k) (bagN S k) rows := h.at_look (getN_look L k)
set_option maxHeartbeats 1000000 in
theorem has_any (base g : Nat) (S : List Msg) (a b i : Int) (w : World) (h : NetV w base g S) :
    Calls Try.prog 27 #[.pointer (some ⟨g, 0, none⟩), .agg #[.int .i64 a, .int .i64 b], .int .i64 i] w fun e w' => e = .returned (.bool (decide (0 ≤ i ∧ i < ((bagN S (a, b)).length : Int)))) ∧ Below w.heap.size w w' := by
  obtain ⟨m, cl, L, h⟩ := h
  have b1 := below_new w (.cells #[.int .i64 a, .int .i64 b] 37)
  have hQ := Blk.new w 37 #[.int .i64 a, .int .i64 b]
  have h1 := h.below b1
  obtain ⟨rows, hv⟩ := h1.msg.get (a, b)
  obtain ⟨A, c, ev, hc, hcm⟩ := hv.form
  by_cases hi : 0 ≤ i
  · have e : decide (0 ≤ i ∧ i < ((bagN S (a, b)).length : Int)) = decide (i < ((bagN S (a, b)).length : Int)) := by simp [hi]
    rw [e]
    have hlk : ∀ n, (Instr.lookup 48 (.map (some m)) (.agg #[.int .i64 a, .int .i64 b]) false).run Try.prog ((w.alloc (.cells #[.int .i64 a, .int .i64 b] 37)).drewN n) = .ok (.slice A (bagN S (a, b)).length c) ((w.alloc (.cells #[.int .i64 a, .int .i64 b] 37)).drewN n) := fun n => by
      have := (h1.msg.map.below (below_drewN (Below.refl _ _) n)).look_get (a, b)
      rw [ev] at this
      exact this
    have c0 := h1.blk.cell 0
    simp at c0
    clear h hv ev h1 hQ
    go_enter Try.func27, Try.ntmps27
    go_upto_region 1 with fail
    go_quiet (fail)
    go_wp2_with fail
    go_ret
    exact ⟨rfl, below_drewN b1 _⟩
  · have e : decide (0 ≤ i ∧ i < ((bagN S (a, b)).length : Int)) = false := by simp [hi]
    rw [e]
    have hd : decide (0 ≤ i) = false := decide_eq_false hi
    clear h hv ev h1 hQ
    go_enter Try.func27, Try.ntmps27
    go_upto_region 1 with fail
    go_quiet (fail)
    go_wp2_with fail
    go_ret
    exact ⟨rfl, below_drewN b1 _⟩

/-! ### the i-th message of a link -/
def placeN (k : Int × Int) : List Msg → Nat → Option Nat
  | [], _ => none
  | e :: r, i => if e.1 = k then (match i with
    | 0 => some 0
    | i + 1 => (placeN k r i).map (· + 1)) else (placeN k r i).map (· + 1)
theorem bagN_cons (e : Msg) (S : List Msg) (k : Int × Int) : bagN (e :: S) k = if e.1 = k then e.2 :: bagN S k else bagN S k := by
  unfold bagN
  by_cases h : e.1 = k
  · rw [List.filter_cons, if_pos (by simpa using h), List.map_cons, if_pos h]
  · rw [List.filter_cons, if_neg (by simpa using h), if_neg h]
theorem place_some (k : Int × Int) : ∀ (S : List Msg) (i : Nat), i < (bagN S k).length → ∃ p e, placeN k S i = some p ∧ S[p]? = some e ∧ e.1 = k ∧ (bagN S k)[i]? = some e.2 ∧ bagN (S.eraseIdx p) k = (bagN S k).eraseIdx i ∧ ∀ j, j ≠ k → bagN (S.eraseIdx p) j = bagN S j
  | [], i, h => by simp [bagN] at h
  | e :: r, i, h => by
    rw [bagN_cons] at h ⊢
    unfold placeN
    by_cases hk : e.1 = k
    · rw [if_pos hk] at h ⊢
      rw [if_pos hk]
      cases i with
      | zero =>
        refine ⟨0, e, rfl, rfl, hk, rfl, rfl, fun j hj => ?_⟩
        rw [bagN_cons, if_neg (fun x => hj (x.symm.trans hk))]
        rfl
      | succ i =>
        obtain ⟨p, x, h1, h2, h3, h4, h5, h6⟩ := place_some k r i (by simpa using h)
        refine ⟨p + 1, x, by simp only [h1, Option.map_some], by simpa using h2, h3, by simpa using h4, ?_, fun j hj => ?_⟩
        · rw [List.eraseIdx_cons_succ, bagN_cons, if_pos hk, h5, List.eraseIdx_cons_succ]
        · rw [List.eraseIdx_cons_succ, bagN_cons, bagN_cons, h6 j hj]
    · rw [if_neg hk] at h ⊢
      rw [if_neg hk]
      obtain ⟨p, x, h1, h2, h3, h4, h5, h6⟩ := place_some k r i h
      refine ⟨p + 1, x, by simp only [h1, Option.map_some], by simpa using h2, h3, h4, ?_, fun j hj => ?_⟩
      · rw [List.eraseIdx_cons_succ, bagN_cons, if_neg hk, h5]
      · rw [List.eraseIdx_cons_succ, bagN_cons, bagN_cons, h6 j hj]
theorem place_none (k : Int × Int) : ∀ (S : List Msg) (i : Nat), (bagN S k).length ≤ i → placeN k S i = none
  | [], i, h => rfl
  | e :: r, i, h => by
    rw [bagN_cons] at h
    unfold placeN
    by_cases hk : e.1 = k
    · rw [if_pos hk] at h
      rw [if_pos hk]
      cases i with
      | zero => simp at h
      | succ i => simp only [place_none k r i (by simpa using h), Option.map_none]
    · rw [if_neg hk] at h
      rw [if_neg hk]
      simp only [place_none k r i h, Option.map_none]
def atP (S : List Msg) (a b i : Int) : Option Nat := if 0 ≤ i then placeN (a, b) S i.toNat else none
def takeP (S : List Msg) (a b i : Int) : List Msg × List UInt8 × Bool := match atP S a b i with
  | some p => (S.eraseIdx p, (S.getD p ((0, 0), [])).2, true)
  | none => (S, [], false)

/-! ### a bag's row without one -/
theorem BagO.cutrow {w : World} {base : Nat} {v : Value} {vs : List Value} {A : Option Addr} {c : Nat} (h : BagO w base v vs) (hv : v = .slice A vs.length c) (i : Nat) (hi : i < vs.length) (h1 : ∀ u ∈ vs, u.oneCell' = true) (hlen : vs.length ≤ 1000000) (hb : base ≤ w.heap.size) (ty : TypeId) :
    ∃ v' w', (Builtin.append_ #[55, 55] ty #[.slice A i i, .slice (cutA A (i + 1) c 1) (vs.length - (i + 1)) (c - (i + 1))]).run Try.prog w = .ok v' w' ∧ BagO w' base v' (vs.eraseIdx i) ∧ Below w.heap.size w w' ∧ (v'.ownBlock = v.ownBlock ∨ ∀ k, v'.ownBlock = some k → w.heap.size ≤ k) := by
  subst hv
  obtain ⟨_, hrd⟩ := h.rd rfl
  obtain ⟨t, hi', hz0, hz1, hz2⟩ := info_parts infoS
  rcases id h with ⟨hv, rfl⟩ | ⟨g, cap, cs, hv, hg, hB, hc, hm, ht, hs⟩
  · simp at hi
  · injection hv with hA _ hcc
    subst hA hcc
    have herase : vs.eraseIdx i = vs.take i ++ vs.drop (i + 1) := List.eraseIdx_eq_take_drop_succ ..
    rcases Nat.eq_zero_or_pos (vs.length - (i + 1)) with h0 | h0
    · refine ⟨.slice (some ⟨g, 0, none⟩) i i, w, ?_, ?_, Below.refl _ _, .inl rfl⟩
      · rw [h0]
        have : ∃ ad, cutA (some ⟨g, 0, none⟩) (i + 1) c 1 = some ad := by unfold cutA; split <;> exact ⟨_, rfl⟩
        obtain ⟨ad, had⟩ := this
        rw [had]
        simp [Builtin.append_, run_underlying Try.underlying55, sizeOf, typeInfo, hi', Builtin.lenOf, Builtin.firstCells, loadCells, loadCellsFrom, storeCells]
      · rw [herase, List.drop_of_length_le (by omega), List.append_nil]
        have hl : (vs.take i).length = i := by rw [List.length_take]; omega
        refine .inr ⟨g, i, cs, by rw [hl], hg, hB, by rw [hl]; exact Nat.le_refl _, by unfold maxLen; omega, ?_, .inr hl.symm⟩
        rw [hl, ← ht, List.take_take]
        congr 1
        omega
    · have olds : ∀ j x, (vs.take i)[j]? = some x → w.cell? ((⟨g, 0, none⟩ : Addr).add j) = some x := fun j x hx => by
        have hj := (List.getElem?_eq_some_iff.1 hx).1
        rw [List.length_take] at hj
        obtain ⟨ad, e, _, hcell⟩ := hrd.2 (by omega)
        injection e with e
        subst e
        rw [List.getElem?_take, if_pos (by omega)] at hx
        exact hcell j x hx
      have hcut : cutA (some ⟨g, 0, none⟩) (i + 1) c 1 = some ⟨g, i + 1, none⟩ := by
        unfold cutA
        rw [if_neg (by omega)]
        simp [add_head]
      have news : ∀ j x, (vs.drop (i + 1))[j]? = some x → w.cell? ((⟨g, i + 1, none⟩ : Addr).add j) = some x := fun j x hx => by
        rw [List.getElem?_drop] at hx
        obtain ⟨ad, e, _, hcell⟩ := hrd.2 (by omega)
        injection e with e
        subst e
        have := hcell _ x hx
        rw [← add_head, add_of_add]
        exact this
      obtain ⟨v', w', hrun, h2, h3⟩ := run_append_arg_grows w (P := Try.prog) 55 ty 27 t (.slice none 0 0) 1 24 Try.underlying55 hi' hz0 hz1 hz2 rfl (by decide) ⟨g, 0, none⟩ i i (vs.take i) (by rw [List.length_take]; omega) olds ⟨g, i + 1, none⟩ (vs.length - (i + 1)) (c - (i + 1)) (vs.drop (i + 1)) (by rw [List.length_drop]; omega) news (by omega) (by unfold maxLen; omega) (by omega)
      have hel : (vs.eraseIdx i).length = i + (vs.length - (i + 1)) := by rw [List.length_eraseIdx, if_pos hi]; omega
      refine ⟨v', w', by rw [hcut]; exact hrun, .of_own ?_, ⟨h3.os, h3.tape, h3.output, h3.size, fun k hk => h3.block k hk (by simp)⟩, .inr fun k hk => (h2.lt k hk).1⟩
      unfold OwnS
      rw [hel, herase]
      exact own_low h2 hb
/-- Take's memory: the bag's new value, where something is left. -/
theorem take_some {w0 w5 w6 : World} {base m cl cl' : Nat} {L L' : List NE} {S : List Msg} {k : Int × Int} {v' : Value} {rows : List BV} {i p : Nat} (h : NetM w0 base m cl L S) (hv : BagV w0 base (getN L k) (bagN S k) rows)
    (ho : BagO w5 base v' ((rows.eraseIdx i).map cS)) (b5 : Below w0.heap.size w0 w5) (hlies : v'.ownBlock = (getN L k).ownBlock ∨ ∀ j, v'.ownBlock = some j → w0.heap.size ≤ j)
    (hM : MapN w6 m L' cl') (hp : PutN L k v' L') (m6 : Mod (· = m) w5 w6) (hbag : bagN (S.eraseIdx p) k = (bagN S k).eraseIdx i) (hoth : ∀ j, j ≠ k → bagN (S.eraseIdx p) j = bagN S j) (hne : bagN (S.eraseIdx p) k ≠ []) :
    NetM w6 base m cl' L' (S.eraseIdx p) := by
  have hM5 := h.map.below b5
  refine h.turned hM hp (rows' := rows.eraseIdx i) ?_ ?_ hne ?_ hoth ?_ ?_
  · intro y hy hne
    obtain ⟨_, r, hr⟩ := h.bags y hy
    exact ⟨r, (hr.below b5).ofMap hM5 m6⟩
  · refine BagV.ofMap (w := w5) ⟨ho, ?_, fun s hs => own_below' (hv.all s ((List.eraseIdx_sublist _ _).subset hs)) b5⟩ hM5 m6
    rw [hbag, ← hv.txt, Go.ChangeMaps.map_eraseIdx]
  · intro y hy hne j hj e
    obtain ⟨_, r, hr⟩ := h.bags y hy
    rcases hlies with l | l
    · rw [l] at hj
      rcases getN_look L k with ⟨z, hz, hzk, hzv⟩ | ⟨_, h0⟩
      · rw [← hzv] at hj
        exact h.sep z hz y hy (by rw [hzk]; exact Ne.symm hne) j hj e
      · rw [h0] at hj
        simp [Value.ownBlock] at hj
    · have := l j hj
      have := hr.own.lt j e
      omega
  · have := List.length_eraseIdx_le S p
    have := h.few
    omega
  · exact fun e he => h.ends e ((List.eraseIdx_sublist _ _).subset he)
/-- Take's memory, where nothing is left: the link is gone. -/
theorem take_none {w0 w5 w6 w7 : World} {base m cl cl' : Nat} {L L' L2 : List NE} {S : List Msg} {k : Int × Int} {v' : Value} {p : Nat} (h : NetM w0 base m cl L S)
    (b5 : Below w0.heap.size w0 w5) (hM : MapN w6 m L' cl') (hp : PutN L k v' L') (m6 : Mod (· = m) w5 w6) (hM2 : MapN w7 m L2 cl') (hd : ∀ x, x ∈ L2 ↔ x ∈ L' ∧ x.k ≠ k) (m7 : Mod (· = m) w6 w7)
    (hoth : ∀ j, j ≠ k → bagN (S.eraseIdx p) j = bagN S j) (hne : bagN (S.eraseIdx p) k = []) : NetM w7 base m cl' L2 (S.eraseIdx p) := by
  have hM5 := h.map.below b5
  have hin : ∀ x ∈ L2, x ∈ L ∧ x.k ≠ k := fun x hx => by
    obtain ⟨h1, h2⟩ := (hd x).1 hx
    rcases hp.mem x h1 with h3 | ⟨h3, _⟩
    · exact h3
    · exact absurd h3 h2
  refine ⟨h.hm, hM2, fun x hx => ?_, fun j hj => ?_, fun x hx y hy => h.sep x (hin x hx).1 y (hin y hy).1, ?_, ?_⟩
  · obtain ⟨h1, h2⟩ := hin x hx
    rw [hoth _ h2]
    obtain ⟨h3, r, hr⟩ := h.bags x h1
    exact ⟨h3, r, ((hr.below b5).ofMap hM5 m6).ofMap hM m7⟩
  · by_cases e : j = k
    · subst e; exact absurd hne hj
    · rw [hoth _ e] at hj
      obtain ⟨x, hx, rfl⟩ := h.keys j hj
      exact ⟨x, (hd x).2 ⟨hp.kept x hx e, e⟩, rfl⟩
  · have := List.length_eraseIdx_le S p
    have := h.few
    omega
  · exact fun e he => h.ends e ((List.eraseIdx_sublist _ _).subset he)
end Go.Proofs.Ytpfbiamgnmbhnaa
