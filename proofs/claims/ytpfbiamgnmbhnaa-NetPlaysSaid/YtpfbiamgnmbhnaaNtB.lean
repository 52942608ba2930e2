/- Links: the comparison, the sort, the function. -/
import Derived.Test.YtpfbiamgnmbhnaaNtA
import Derived.Test.YtpfbiamgnmbhnaaSortP
namespace Go.Proofs.Ytpfbiamgnmbhnaa
open Go.RowKit
set_option linter.unusedVariables false
set_option maxRecDepth 100000

def orV (x y : Int) : Int := if x ≠ 0 then x else y
theorem Or_any (g : Nat) (x y : Int) (w : World) (hB : Blk w g 3 #[.int .i64 x, .int .i64 y]) : Calls Try.prog 24 #[.slice (some ⟨g, 0, none⟩) 2 2] w fun e w' => e = .returned (.int .i64 (orV x y)) ∧ w = w' := by
  have c0 := hB.cell 0
  have c1 := hB.cell 1
  simp at c0 c1
  by_cases hx : x = 0
  · have e : orV x y = y := if_neg (fun h => h hx)
    rw [e]
    subst hx
    by_cases hy : y = 0
    · subst hy
      go_enter Try.func24, Try.ntmps24
      go_wp2_with fail
      refine wp_loop_rounds 3 ?_
      rw [rounds_succ]
      go_wp2_with fail
      rw [rounds_succ]
      go_wp2_with fail
      rw [rounds_succ]
      go_wp2_with fail
      go_ret
      exact ⟨rfl, rfl⟩
    · go_enter Try.func24, Try.ntmps24
      go_wp2_with fail
      refine wp_loop_rounds 2 ?_
      rw [rounds_succ]
      go_wp2_with fail
      rw [rounds_succ]
      go_wp2_with fail
      go_ret
      exact ⟨rfl, rfl⟩
  · have e : orV x y = x := if_pos hx
    rw [e]
    go_enter Try.func24, Try.ntmps24
    go_wp2_with fail
    refine wp_loop_rounds 1 ?_
    rw [rounds_succ]
    go_wp2_with fail
    go_ret
    exact ⟨rfl, rfl⟩

/-! ### the comparison -/
def cmpV (x y : Int × Int) : Int := orV (x.1 - y.1) (x.2 - y.2)
theorem cmpV_lt (x y : Int × Int) : cmpV x y < 0 ↔ x.1 < y.1 ∨ x.1 = y.1 ∧ x.2 < y.2 := by
  unfold cmpV orV
  split <;> omega
theorem cmpV_anti (x y : Int × Int) : cmpV x y = - cmpV y x := by
  unfold cmpV orV
  split <;> split <;> omega
/-- A link between ends. -/
abbrev LnB := { k : Int × Int // EndP k.1 ∧ EndP k.2 }
instance lnInh : Inhabited LnB := ⟨⟨(0, 0), by decide, by decide⟩⟩
def lnB (x : LnB) : List Value := lnC x.1
theorem lnB_len (x : LnB) : (lnB x).length = 2 := rfl
set_option maxHeartbeats 1000000 in
theorem cmp_any (x y : LnB) (W : World) : Calls Try.prog 23 #[.agg (lnB x).toArray, .agg (lnB y).toArray] W fun e w' => e = .returned (.int .i64 (cmpV x.1 y.1)) ∧ ∃ q os', w' = Go.Sort.grow (W.drewN q) os' := by
  obtain ⟨⟨a, b⟩, ha, hb⟩ := x
  obtain ⟨⟨a2, b2⟩, ha2, hb2⟩ := y
  unfold EndP at ha hb ha2 hb2
  simp only at ha hb ha2 hb2
  show Calls Try.prog 23 #[.agg #[.int .i64 a, .int .i64 b], .agg #[.int .i64 a2, .int .i64 b2]] W fun e w' => e = .returned (.int .i64 (orV (a - a2) (b - b2))) ∧ ∃ q os', w' = Go.Sort.grow (W.drewN q) os'
  have hor := Or_any (W.heap.size + 2) (a - a2) (b - b2) (((W.alloc (.cells #[.int .i64 a, .int .i64 b] 37)).alloc (.cells #[.int .i64 a2, .int .i64 b2] 37)).alloc (.cells #[.int .i64 (a - a2), .int .i64 (b - b2)] 3)) (by
    have := Blk.new ((W.alloc (.cells #[.int .i64 a, .int .i64 b] 37)).alloc (.cells #[.int .i64 a2, .int .i64 b2] 37)) 3 #[.int .i64 (a - a2), .int .i64 (b - b2)]
    simpa using this)
  go_enter Try.func23, Try.ntmps23
  go_wp2_with fail
  refine hor.mono ?_
  rintro e w1 ⟨rfl, rfl⟩
  go_wp2_with fail
  go_ret
  exact ⟨rfl, 0, _, by rw [Go.Sort.alloc_eq_grow, Go.Sort.alloc_eq_grow, Go.Sort.alloc_eq_grow, Go.Sort.grow_grow, Go.Sort.grow_grow]; rfl⟩
theorem swo_ln : Go.Sort.SWO (ltOf fun x y : LnB => cmpV x.1 y.1) where
  irrefl x := by unfold ltOf; simp [cmpV, orV]
  trans x y z h1 h2 := by
    unfold ltOf at *
    simp only [decide_eq_true_eq, cmpV_lt] at *
    omega
  ntrans x y z h1 h2 := by
    unfold ltOf at *
    simp only [decide_eq_false_iff_not, cmpV_lt] at *
    omega
theorem to_lnB (E : List (Int × Int)) (hE : ∀ e ∈ E, EndP e.1 ∧ EndP e.2) : ∃ B : List LnB, E = B.map fun x => x.1 := by
  induction E with
  | nil => exact ⟨[], rfl⟩
  | cons e E ih =>
    obtain ⟨B, hB⟩ := ih fun x hx => hE x (List.mem_cons_of_mem _ hx)
    exact ⟨⟨e, hE e (List.mem_cons_self ..)⟩ :: B, by rw [List.map_cons, ← hB]⟩
theorem OwnLn.iff {w : World} {base : Nat} {v : Value} (B : List LnB) : OwnLn w base v (B.map fun x => x.1) ↔ OwnC 37 2 lnB w base v B := by
  unfold OwnLn OwnC flC
  rw [List.length_map, List.flatMap_map]
  rfl
theorem isAgg_ln (w : World) : (isAgg 37).run Try.prog w = .ok true w := by kernel_rfl
theorem size_ln (w : World) : (Go.sizeOf 37).run Try.prog w = .ok 2 w := by kernel_rfl
set_option maxRecDepth 100000 in
theorem ins_nil (f : Value) (w : World) : Calls Try.prog 36 #[.slice none 0 0, .int .i64 0, .int .i64 0, f] w fun e w' => e = .returned (.tuple #[]) ∧ w = w' := by
  go_enter Try.func36, Try.ntmps36
  go_wp2_with fail
  refine wp_loop_rounds 1 ?_
  rw [rounds_succ]
  go_wp2_with fail
  go_end0
  exact ⟨rfl, rfl⟩
set_option maxRecDepth 100000 in
theorem pdq_nil (l : Int) (f : Value) (w : World) : Calls Try.prog 34 #[.slice none 0 0, .int .i64 0, .int .i64 0, .int .i64 l, f] w fun e w' => e = .returned (.tuple #[]) ∧ w = w' := by
  have hi := ins_nil f w
  go_enter Try.func34, Try.ntmps34
  go_wp2_with fail
  refine wp_loop_rounds 1 ?_
  rw [rounds_succ]
  go_wp2_with fail
  refine hi.mono ?_
  rintro e w1 ⟨rfl, rfl⟩
  go_wp2_with fail
  exact bodyPost_ret (v := .tuple #[]) (by simp [results, Try.results34, go_sem]) rfl ⟨rfl, rfl⟩
set_option maxRecDepth 100000 in
theorem sort_nil (w : World) : Calls Try.prog 31 #[.slice none 0 0, .func (.func 23) #[] #[]] w fun e w' => e = .returned (.tuple #[]) ∧ w = w' := by
  have hb := Any.bits_Len (SlLaysF0.n15.bits (P := Try.prog) (ρ := Try.sortLn_ren) { Try.sortLn with }) 0 w (by omega) (by omega)
  change Calls Try.prog 35 _ _ _ at hb
  have hp := fun l => pdq_nil l (.func (.func 23) #[] #[]) w
  go_enter Try.func31, Try.ntmps31
  go_wp2_with fail
  refine hb.mono ?_
  rintro e w1 ⟨rfl, rfl⟩
  go_wp2_with fail
  refine (hp _).mono ?_
  rintro e w1 ⟨rfl, rfl⟩
  go_wp2_with fail
  go_end0
  exact ⟨rfl, rfl⟩
theorem sort_any (E : List (Int × Int)) (hE : ∀ e ∈ E, EndP e.1 ∧ EndP e.2) (hl : E.length ≤ 1000000) (v : Value) (w : World) (base : Nat) (h : OwnLn w base v E) :
    Calls Try.prog 31 #[v, .func (.func 23) #[] #[]] w fun e w' => e = .returned (.tuple #[]) ∧ ∃ E' : List (Int × Int), E'.Perm E ∧ E'.Pairwise (fun x y => cmpV x y ≤ 0) ∧ OwnLn w' base v E' ∧ Below base w w' := by
  obtain ⟨B, rfl⟩ := to_lnB E hE
  rw [List.length_map] at hl
  obtain ⟨A, c, rfl, h1, h2⟩ := OwnC.form h
  rcases A with _ | ad
  · have h0 : (B.map fun x => x.1).length = 0 ∧ c = 0 := by
      rcases h.2 with ⟨hv, h0⟩ | ⟨g', cap, cur, hv, _⟩
      · injection hv with _ _ hc
        exact ⟨h0, hc⟩
      · injection hv with hA; cases hA
    have hn := List.eq_nil_of_length_eq_zero h0.1
    rw [h0.1, h0.2, hn]
    refine (sort_nil w).mono ?_
    rintro e w' ⟨rfl, rfl⟩
    exact ⟨rfl, [], List.Perm.refl _, List.Pairwise.nil, OwnC.nil, Below.refl _ _⟩
  · have hB := (OwnLn.iff B).1 h
    rw [List.length_map] at *
    obtain ⟨g, o, x⟩ := ad
    have hx : x = none := by
      rcases hB.2 with ⟨hv, _⟩ | ⟨g', cap, cur, hv, _⟩
      · injection hv with hA; cases hA
      · injection hv with hA; injection hA with hA; injection hA
    subst hx
    obtain ⟨rfl, hg, hgs, hH⟩ := OwnC.holds (x := none) lnB_len hB
    have eg : ∀ args w, (callFunc 23 args).run Try.prog w = .ok (.enter 23 args) w := enters_of Try.func23 (by kernel_rfl) rfl
    have hcon := AnyQ.slices_SortFunc Try.sortLn 2 isAgg_ln size_ln lnB lnB_len (fun x v hv => lnC_one x.1 v hv) (fun x y : LnB => cmpV x.1 y.1) swo_ln 23 #[] g 0 c B.toArray w eg (fun _ _ _ _ x y => cmp_any x y _) hH hgs (by simp; omega)
    rw [show B.toArray.size = B.length from by simp] at hcon
    change Calls Try.prog 31 _ _ _ at hcon
    refine hcon.mono ?_
    clear hcon
    rintro e w' ⟨rfl, d', n, os, ⟨p1, _, p3⟩, p4, rfl⟩
    have hd : d'.size = B.length := by simpa using p1
    obtain ⟨q1, q2⟩ := OwnC.sorted lnB_len hB d' hd n os
    refine ⟨rfl, d'.toList.map (fun x => x.1), ?_, ?_, ?_, q2⟩
    · refine List.Perm.map _ ?_
      have e1 : d'.extract 0 B.length = d' := by rw [← hd]; simp
      have e2 : B.toArray.extract 0 B.length = B.toArray := by simp
      rw [e1, e2] at p3
      simpa using p3
    · rw [List.pairwise_map, List.pairwise_iff_getElem]
      intro i j hi hj hij
      have h1 := p4 i j (Nat.zero_le _) hij (by rw [← hd]; simpa using hj)
      rw [getElem!_pos d' i (by simpa using hi), getElem!_pos d' j (by simpa using hj)] at h1
      unfold ltOf at h1
      simp only [Array.getElem_toList]
      simp at h1
      have h2 := cmpV_anti (d'[i]'(by simpa using hi)).val (d'[j]'(by simpa using hj)).val
      omega
    · have h3 := (OwnLn.iff d'.toList).2 q1
      exact h3

theorem SortedFunc_any (Bm b cl : Nat) (L : List NE) (w : World) (hBm : Bm < w.heap.size) (hm : w.cell? ⟨Bm, 0, none⟩ = some (.map (some b))) (hM : MapN w b L cl) (hl : L.length ≤ 1000000) (hE : ∀ x ∈ L, EndP x.k.1 ∧ EndP x.k.2) :
    Calls Try.prog 21 #[.func (.func 32) #[] #[.pointer (some ⟨Bm, 0, none⟩)], .func (.func 23) #[] #[]] w fun e w' => ∃ v E, e = .returned v ∧ E.Perm (L.map (·.k)) ∧ E.Pairwise (fun x y => cmpV x y ≤ 0) ∧ OwnLn w' w.heap.size v E ∧ Below w.heap.size w w' := by
  have h1 := Collect_any Bm b cl L w hBm hm hM hl
  go_enter Try.func21, Try.ntmps21
  go_wp2_with fail
  refine h1.mono ?_
  rintro e w1 ⟨v, ys, rfl, q1, q2, q3⟩
  have hEy : ∀ y ∈ ys, EndP y.1 ∧ EndP y.2 := fun y hy => by
    obtain ⟨x, hx, rfl⟩ := List.mem_map.1 (q1.mem_iff.1 hy)
    exact hE x hx
  have h2 := sort_any ys hEy (by rw [q1.length_eq, List.length_map]; exact hl) v w1 w.heap.size q2
  go_wp2_with fail
  refine h2.mono ?_
  rintro e w2 ⟨rfl, E, p1, p2, p3, p4⟩
  go_wp2_with fail
  go_ret
  exact ⟨_, E, rfl, p1.trans q1, p2, p3, q3.trans p4⟩
set_option maxHeartbeats 1000000 in
theorem Links_any (base g : Nat) (S : List Msg) (w : World) (h : NetV w base g S) :
    Calls Try.prog 13 #[.pointer (some ⟨g, 0, none⟩)] w fun e w' => ∃ v E, e = .returned v ∧ E.Pairwise (fun x y => cmpV x y < 0) ∧ (∀ k, k ∈ E ↔ bagN S k ≠ []) ∧ OwnLn w' w.heap.size v E ∧ Below w.heap.size w w' := by
  obtain ⟨m, cl, L, h⟩ := h
  have c0 := h.blk.cell 0
  simp at c0
  have hk := Keys_any m w
  have b1 := below_new w (.cells #[.map (some m)] 48)
  have hB := Blk.new w 48 #[.map (some m)]
  have d0 := hB.cell 0
  have hends : ∀ x ∈ L, EndP x.k.1 ∧ EndP x.k.2 := fun x hx => by
    obtain ⟨hne, _⟩ := h.msg.bags x hx
    unfold bagN at hne
    obtain ⟨e, he⟩ : ∃ e, e ∈ S.filter fun e => e.1 == x.k := List.exists_mem_of_ne_nil _ fun e => hne (by rw [e]; rfl)
    obtain ⟨h1, h2⟩ := List.mem_filter.1 he
    have := h.msg.ends e h1
    rw [show e.1 = x.k by simpa using h2] at this
    exact this
  have hL : L.length ≤ 1000000 := by
    have h1 : (L.map (·.k)).Nodup := by rw [List.Nodup, List.pairwise_map]; exact h.msg.map.keys
    have h2 : ∀ k ∈ L.map (·.k), k ∈ S.map (·.1) := fun k hk => by
      obtain ⟨x, hx, rfl⟩ := List.mem_map.1 hk
      obtain ⟨hne, _⟩ := h.msg.bags x hx
      unfold bagN at hne
      obtain ⟨e, he⟩ : ∃ e, e ∈ S.filter fun e => e.1 == x.k := List.exists_mem_of_ne_nil _ fun e => hne (by rw [e]; rfl)
      obtain ⟨h1, h2⟩ := List.mem_filter.1 he
      exact List.mem_map.2 ⟨e, h1, by simpa using h2⟩
    have := nodup_len _ _ h1 h2
    rw [List.length_map, List.length_map] at this
    have := h.msg.few
    omega
  have hs := SortedFunc_any w.heap.size m cl L _ (by simp) d0 (h.msg.map.below b1) hL hends
  go_enter Try.func13, Try.ntmps13
  go_wp2_with fail
  refine hk.mono ?_
  rintro e w1 ⟨rfl, rfl⟩
  go_wp2_with fail
  refine hs.mono ?_
  rintro e w2 ⟨v, E, rfl, p1, p2, p3, p4⟩
  go_wp2_with fail
  go_ret
  refine ⟨_, E, rfl, ?_, fun k => ?_, OwnC.low p3 (by simp), b1.thenB' p4⟩
  · have hnd : E.Nodup := p1.nodup_iff.2 (by rw [List.Nodup, List.pairwise_map]; exact h.msg.map.keys)
    exact (p2.and hnd).imp fun {x y} ⟨h1, h2⟩ => by
      rcases Int.lt_or_eq_of_le h1 with h | h
      · exact h
      · exfalso
        refine h2 ?_
        have h3 := mt (cmpV_lt x y).2
        have h4 := cmpV_anti x y
        have h5 := mt (cmpV_lt y x).2
        obtain ⟨x1, x2⟩ := x
        obtain ⟨y1, y2⟩ := y
        simp only at h3 h5
        have h6 := h3 (by omega)
        have h7 := h5 (by omega)
        have e1 : x1 = y1 := by omega
        have e2 : x2 = y2 := by omega
        rw [e1, e2]
  · rw [p1.mem_iff, List.mem_map]
    constructor
    · rintro ⟨x, hx, rfl⟩
      exact (h.msg.bags x hx).1
    · intro hne
      obtain ⟨x, hx, e⟩ := h.msg.keys k hne
      exact ⟨x, hx, e⟩
end Go.Proofs.Ytpfbiamgnmbhnaa
