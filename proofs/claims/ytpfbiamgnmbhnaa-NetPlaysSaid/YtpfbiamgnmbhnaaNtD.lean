/- The document's Put, Take, Double. -/
import Derived.Test.YtpfbiamgnmbhnaaNtC
namespace Go.Proofs.Ytpfbiamgnmbhnaa
open Go.RowKit
set_option linter.unusedVariables false
set_option maxRecDepth 100000

section
variable {w : World} {ops : Array Oper} {rest : List Oper} {o : Oper} {a : Act} {Q : Exit → Act → World → Prop}
theorem wpList_appMs (hgd : o.guard = none) (s x : Operand) (ho : o.op = .call { callee := .builtin .append, args := #[s, x], argTypes := #[26, 26] })
    (base : Nat) (v : Value) (L news : List Msg) (hs : a.eval s = v) (hown : OwnMs w base v L)
    (D : Nat → Prop) (A : Option Addr) (n c : Nat) (hx : a.eval x = .slice A n c) (hn : n = news.length) (hr : Rd w D 3 A n (flC msC news))
    (hlen : L.length + news.length ≤ 1000000) (hbase : base ≤ w.heap.size)
    (h : ∀ v' w', OwnMs w' base v' (L ++ news) → Ext w w' v v' → wpList Try.prog ops Q rest (a.put o.dst v') w') :
    wpList Try.prog ops Q (o :: rest) a w := by
  subst hn
  refine wpList_plain hgd fun _ hK => wp_app s x _ ho base 57 _ 3 32 Try.underlying26 infoMs rfl (by decide) v _ _ hs hown D A _ c _ hx hr (flC_one msC_one news) ?_ ?_ hbase fun v' w' h2 h3 h4 => hK _ _ (h v' w' ?_ ⟨h3, h4.imp id fun e k hk => by rw [e] at hk; injection hk with hk; omega⟩)
  · unfold maxLen; omega
  · omega
  · unfold OwnMs OwnC
    rw [List.length_append, flC_app]
    exact h2
end
theorem OwnMs.flat {w : World} {base c : Nat} {A : Option Addr} {L : List Msg} (h : OwnMs w base (.slice A L.length c) L) : Rd w (fun k => base ≤ k) 3 A L.length (flC msC L) := Rd.imp (Rd.of_own h) (fun k _ hk => hk.1) (by decide)
theorem rd_newMs (w : World) (e : Msg) : Rd (w.alloc (.cells #[.int .i64 e.1.1, .int .i64 e.1.2, .string (str e.2)] 57)) (· = w.heap.size) 3 (some ⟨w.heap.size, 0, none⟩) 1 (flC msC [e]) := by
  rw [flC_single]
  refine ⟨rfl, fun _ => ⟨_, rfl, rfl, fun j u hu => ?_⟩⟩
  rw [add_head, (Blk.new w 57 #[.int .i64 e.1.1, .int .i64 e.1.2, .string (str e.2)]).cell]
  unfold msC at hu
  simpa using hu
theorem flC_take {α : Type} {C : α → List Value} {k : Nat} (hk : ∀ x, (C x).length = k) : ∀ (L : List α) (p : Nat), (flC C L).take (p * k) = flC C (L.take p)
  | [], p => by simp [flC]
  | x :: L, 0 => by simp [flC]
  | x :: L, p + 1 => by
    have ih := flC_take hk L p
    unfold flC at ih ⊢
    rw [List.flatMap_cons, List.take_succ_cons, List.flatMap_cons, ← ih, List.take_append, hk, List.take_of_length_le (by rw [hk, Nat.succ_mul]; omega), show (p + 1) * k - k = p * k by rw [Nat.succ_mul]; omega]
theorem flC_drop {α : Type} {C : α → List Value} {k : Nat} (hk : ∀ x, (C x).length = k) : ∀ (L : List α) (p : Nat), (flC C L).drop (p * k) = flC C (L.drop p)
  | [], p => by simp [flC]
  | x :: L, 0 => by simp [flC]
  | x :: L, p + 1 => by
    have ih := flC_drop hk L p
    unfold flC at ih ⊢
    rw [List.flatMap_cons, List.drop_succ_cons, ← ih, List.drop_append, hk, List.drop_of_length_le (by rw [hk, Nat.succ_mul]; omega), show (p + 1) * k - k = p * k by rw [Nat.succ_mul]; omega, List.nil_append]

set_option maxHeartbeats 4000000 in
theorem rPut_any (base : Nat) (v : Value) (S : List Msg) (fr tt : Int) (D : Nat → Prop) (A : Option Addr) (c : Nat) (b : List UInt8) (w : World) (h : OwnMs w base v S) (hb : base ≤ w.heap.size) (hl : S.length ≤ 1000) (hr : RdB w D A b) :
    Calls Try.prog 18 #[v, .int .i64 fr, .int .i64 tt, .slice A b.length c] w fun e w' => ∃ v', e = .returned (.tuple #[v', .bool (putP S fr tt b).2]) ∧ OwnMs w' base v' (putP S fr tt b).1 ∧ Below w.heap.size w w' := by
  obtain ⟨B, cc, rfl, hc, hm⟩ := OwnC.form h
  have e1 := rend_any fr w
  have e2 := rend_any tt w
  by_cases h1 : EndP fr
  · rw [decide_eq_true h1] at e1
    by_cases h2 : EndP tt
    · rw [decide_eq_true h2] at e2
      by_cases h3 : S.length < 1000
      · have e : putP S fr tt b = (S ++ [((fr, tt), b)], true) := if_pos ⟨h1, h2, h3⟩
        rw [e]
        have hlt : ¬ (1000 : Int) ≤ (S.length : Int) := by omega
        have hfl := h.flat
        clear e
        go_enter Try.func18, Try.ntmps18
        go_wp2_with fail
        refine e1.mono ?_
        clear e1
        rintro e w1 ⟨rfl, rfl⟩
        go_wp2_with fail
        refine e2.mono ?_
        clear e2
        rintro e w1 ⟨rfl, rfl⟩
        go_wp2_with first
          | (at_builtin; refine wpList_appMs rfl (.tmp 29) (.tmp 30) rfl w.heap.size (.slice none 0 0) [] S rfl OwnC.nil _ B S.length cc rfl rfl hfl (by simp; omega) (Nat.le_refl _) ?_; intro v2 w2 h2' x2
             have b2 := x2.of_nil
             have s2 := str_rd (n := b.length) (c := c) (hr.below b2) rfl
             have bn := below_new w2 (.cells #[.int .i64 fr, .int .i64 tt, .string (str b)] 57)
             have h2'' := OwnC.below h2' bn
             have hnew := rd_newMs w2 ((fr, tt), b)
             have hsz := b2.size)
          | (at_builtin; refine wpList_appMs rfl (.tmp 32) (.tmp 38) rfl w.heap.size _ ([] ++ S) [((fr, tt), b)] rfl h2'' _ _ 1 1 rfl rfl hnew (by simp; omega) (Nat.le_trans hsz bn.size) ?_; intro v3 w3 h3' x3)
        go_ret2
        exact ⟨_, rfl, OwnC.low h3' hb, below_app (b2.thenB' bn) h2'' x3.grown (Nat.le_refl _) (Nat.le_trans hsz bn.size)⟩
      · have e : putP S fr tt b = (S, false) := if_neg fun x => h3 x.2.2
        rw [e]
        have hlt : (1000 : Int) ≤ (S.length : Int) := by omega
        go_enter Try.func18, Try.ntmps18
        go_wp2_with fail
        refine e1.mono ?_
        rintro e w1 ⟨rfl, rfl⟩
        go_wp2_with fail
        refine e2.mono ?_
        rintro e w1 ⟨rfl, rfl⟩
        go_wp2_with fail
        go_ret2
        exact ⟨_, rfl, h, Below.refl _ _⟩
    · have e : putP S fr tt b = (S, false) := if_neg fun x => h2 x.2.1
      rw [e]
      rw [decide_eq_false h2] at e2
      go_enter Try.func18, Try.ntmps18
      go_wp2_with fail
      refine e1.mono ?_
      rintro e w1 ⟨rfl, rfl⟩
      go_wp2_with fail
      refine e2.mono ?_
      rintro e w1 ⟨rfl, rfl⟩
      go_wp2_with fail
      go_ret2
      exact ⟨_, rfl, h, Below.refl _ _⟩
  · have e : putP S fr tt b = (S, false) := if_neg fun x => h1 x.1
    rw [e]
    rw [decide_eq_false h1] at e1
    go_enter Try.func18, Try.ntmps18
    go_wp2_with fail
    refine e1.mono ?_
    rintro e w1 ⟨rfl, rfl⟩
    go_wp2_with fail
    refine e2.mono ?_
    rintro e w1 ⟨rfl, rfl⟩
    go_wp2_with fail
    go_ret2
    exact ⟨_, rfl, h, Below.refl _ _⟩

/-- []byte(s). -/
theorem conv_str (w : World) (bs : List UInt8) : ∃ W c, (convert 9 27 (.string (str bs))).run Try.prog w = .ok (.slice (some ⟨w.heap.size, 0, none⟩) bs.length c) W ∧ RdB W (· = w.heap.size) (some ⟨w.heap.size, 0, none⟩) bs ∧ Below w.heap.size w W := by
  have h := Lib.run_convert_string_bytes (P := Try.prog) w 9 27 5 (str bs) Try.underlying9 Try.underlying27 Try.underlying5
  rw [str_size] at h
  refine ⟨_, _, h, ⟨by simp, fun _ => ⟨_, rfl, rfl, fun j u hu => ?_⟩⟩, ⟨rfl, rfl, rfl, by rw [Lib.bytesWorld_size]; omega, fun k hk => Lib.bytesWorld_at_old _ _ _ k hk⟩⟩
  have hj := (List.getElem?_eq_some_iff.1 hu).1
  rw [List.length_map] at hj
  rw [add_head, Lib.bytesWorld_cell w 5 (str bs) j (by rw [str_size]; exact hj)]
  rw [List.getElem?_map, List.getElem?_eq_getElem hj] at hu
  injection hu with hu
  rw [← hu]
  simp [cB, str, hj]
theorem place_lt (k : Int × Int) : ∀ (S : List Msg) (i p : Nat), placeN k S i = some p → p < S.length
  | [], i, p, h => by unfold placeN at h; cases h
  | e :: r, i, p, h => by
    unfold placeN at h
    rw [List.length_cons]
    split at h
    · cases i with
      | zero =>
        injection h with h
        omega
      | succ i =>
        obtain ⟨q, hq, rfl⟩ := Option.map_eq_some_iff.1 h
        have := place_lt k r i q hq
        omega
    · obtain ⟨q, hq, rfl⟩ := Option.map_eq_some_iff.1 h
      have := place_lt k r i q hq
      omega
theorem atP_lt {S : List Msg} {a b i : Int} {p : Nat} (h : atP S a b i = some p) : p < S.length := by
  unfold atP at h
  split at h
  · exact place_lt _ _ _ _ h
  · cases h
set_option maxHeartbeats 4000000 in
theorem rTake_any (base : Nat) (v : Value) (S : List Msg) (fr tt i : Int) (w : World) (h : OwnMs w base v S) (hb : base ≤ w.heap.size) (hl : S.length ≤ 1000) :
    Calls Try.prog 19 #[v, .int .i64 fr, .int .i64 tt, .int .i64 i] w fun e w' => ∃ v', e = .returned (.tuple #[v', .string (str (takeP S fr tt i).2.1), .bool (takeP S fr tt i).2.2]) ∧ OwnMs w' base v' (takeP S fr tt i).1 ∧ Below w.heap.size w w' := by
  obtain ⟨B, cc, rfl, hc, hm⟩ := OwnC.form h
  have hat := At_any _ B cc S fr tt i w h.rd (by omega) hc
  cases hp : atP S fr tt i with
  | none =>
    have e : takeP S fr tt i = (S, [], false) := by unfold takeP; rw [hp]
    have e1 : atI S fr tt i = -1 := by unfold atI; rw [hp]
    rw [e1] at hat
    rw [e]
    go_enter Try.func19, Try.ntmps19
    go_wp2_with fail
    refine hat.mono ?_
    rintro e w1 ⟨rfl, rfl⟩
    go_wp2_with fail
    go_ret3
    exact ⟨_, rfl, h, Below.refl _ _⟩
  | some p =>
    have hlt := atP_lt hp
    have e : takeP S fr tt i = (S.eraseIdx p, S[p].2, true) := by unfold takeP; rw [hp]; simp only [List.getD_eq_getElem?_getD, List.getElem?_eq_getElem hlt, Option.getD_some]
    have e1 : atI S fr tt i = (p : Int) := by unfold atI; rw [hp]
    rw [e1] at hat
    rw [e]
    clear e e1 hp
    obtain ⟨el, hel⟩ : ∃ el, S[p] = el := ⟨_, rfl⟩
    rw [hel]
    have hfl := h.flat
    have hf1 : Rd w (fun k => base ≤ k) 3 B p (flC msC (S.take p)) := by
      have := Rd.take hfl (k := p) (by omega)
      rwa [flC_take msC_len] at this
    have hf2 : Rd w (fun k => base ≤ k) 3 (cutA B (p + 1) cc 3) (S.length - (p + 1)) (flC msC (S.drop (p + 1))) := by
      have := Rd.cut hfl (k := p + 1) (cap := cc) (by omega) hc
      rwa [flC_drop msC_len] at this
    have herase : S.eraseIdx p = S.take p ++ S.drop (p + 1) := List.eraseIdx_eq_take_drop_succ ..
    have hpc : p ≤ cc := by omega
    have hwr : IntKind.i64.wrap ((p : Int) + 1) = (p : Int) + 1 := by rw [IntKind.wrap_i64]; omega
    have htn : ((p : Int) + 1).toNat = p + 1 := by omega
    have h0p : (0 : Int) ≤ (p : Int) + 1 ∧ (p : Int) + 1 ≤ (S.length : Int) := by omega
    go_enter Try.func19, Try.ntmps19
    go_wp2_with fail
    refine hat.mono ?_
    clear hat
    rintro e w1 ⟨rfl, rfl⟩
    go_wp2_with first
      | (at_builtin; refine wpList_appMs rfl (.tmp 21) (.tmp 24) rfl w.heap.size (.slice none 0 0) [] (S.take p) rfl OwnC.nil _ B p cc rfl (by rw [List.length_take]; omega) hf1 (by simp; omega) (Nat.le_refl _) ?_; intro v2 w2 h2' x2
         have b2 := x2.of_nil
         have hf2' := Rd.below hf2 b2
         have hsz := b2.size)
      | (at_builtin; refine wpList_appMs rfl (.tmp 26) (.tmp 30) rfl w.heap.size _ ([] ++ S.take p) (S.drop (p + 1)) rfl h2' _ _ (S.length - (p + 1)) (cc - (p + 1)) rfl (by rw [List.length_drop]) hf2' (by simp; omega) hsz ?_; intro v3 w3 h3' x3)
    have bb := below_app b2 h2' x3.grown (Nat.le_refl _) hsz
    rw [List.nil_append, ← herase] at h3'
    have hrd := (RdMs.below h.rd bb).at_ hlt
    obtain ⟨ad, rfl, _, _, c2⟩ := hrd
    clear h2' hf2' hf1 hf2 hfl x2 x3 herase hc hm hwr htn h0p
    rw [hel] at c2
    clear hel
    go_quiet (fail)
    go_wp2_with fail
    go_ret3
    exact ⟨_, rfl, OwnC.low (OwnC.below h3' (below_drewN (Below.refl _ _) _)) hb, below_drewN bb _⟩
set_option maxHeartbeats 4000000 in
theorem rDouble_any (base : Nat) (v : Value) (S : List Msg) (fr tt i : Int) (w : World) (h : OwnMs w base v S) (hb : base ≤ w.heap.size) (hl : S.length ≤ 1000) :
    Calls Try.prog 20 #[v, .int .i64 fr, .int .i64 tt, .int .i64 i] w fun e w' => ∃ v', e = .returned (.tuple #[v', .bool (doubleP S fr tt i).2]) ∧ OwnMs w' base v' (doubleP S fr tt i).1 ∧ Below w.heap.size w w' := by
  obtain ⟨B, cc, rfl, hc, hm⟩ := OwnC.form h
  have hat := At_any _ B cc S fr tt i w h.rd (by omega) hc
  cases hp : atP S fr tt i with
  | none =>
    have e : doubleP S fr tt i = (S, false) := by unfold doubleP; rw [hp]
    have e1 : atI S fr tt i = -1 := by unfold atI; rw [hp]
    rw [e1] at hat
    rw [e]
    go_enter Try.func20, Try.ntmps20
    go_wp2_with fail
    refine hat.mono ?_
    rintro e w1 ⟨rfl, rfl⟩
    go_wp2_with fail
    go_ret2
    exact ⟨_, rfl, h, Below.refl _ _⟩
  | some p =>
    have hlt := atP_lt hp
    have e : doubleP S fr tt i = putP S fr tt S[p].2 := by unfold doubleP; rw [hp]; simp only [List.getD_eq_getElem?_getD, List.getElem?_eq_getElem hlt, Option.getD_some]
    have e1 : atI S fr tt i = (p : Int) := by unfold atI; rw [hp]
    rw [e1] at hat
    rw [e]
    clear e e1 hp
    have hrd := h.rd.at_ hlt
    obtain ⟨ad, rfl, _, _, c2⟩ := hrd
    obtain ⟨W, cw, hcv, hrb, bW⟩ := conv_str w S[p].2
    have hput := rPut_any base (.slice (some ad) S.length cc) S fr tt _ _ cw S[p].2 W (OwnC.below h bW) (Nat.le_trans hb bW.size) hl hrb
    generalize S[p] = el at *
    go_enter Try.func20, Try.ntmps20
    go_wp2_with fail
    refine hat.mono ?_
    clear hat
    rintro e w1 ⟨rfl, rfl⟩
    go_wp2_with fail
    refine hput.mono ?_
    clear hput
    rintro e w1 ⟨v', rfl, q1, q2⟩
    go_wp2_with fail
    go_ret2
    exact ⟨_, rfl, q1, bW.thenB' q2⟩
end Go.Proofs.Ytpfbiamgnmbhnaa
