/- The links that have messages: rows of links; AppendSeq and Collect over the keys. -/
import Derived.Test.YtpfbiamgnmbhnaaNt9
import Derived.Test.YtpfbiamgnmbhnaaElems
import Derived.Shelf.SlSortCmp.WholeK
namespace Go.Proofs.Ytpfbiamgnmbhnaa
open Go.RowKit Go.Shelf Go.Proofs
set_option linter.unusedVariables false
set_option maxRecDepth 100000
attribute [local go_sem] Oper.semAt_some

/-! ### rows of elements of k one-cell fields, of the call's own -/
section
variable {α : Type} {C : α → List Value} {k : Nat}
def flC (C : α → List Value) (L : List α) : List Value := L.flatMap C
theorem flC_len (hk : ∀ x, (C x).length = k) (L : List α) : (flC C L).length = L.length * k := by
  unfold flC
  induction L with
  | nil => simp
  | cons s L ih => rw [List.flatMap_cons, List.length_append, ih, List.length_cons, hk, Nat.succ_mul]; omega
theorem flC_one (h1 : ∀ x, ∀ v ∈ C x, v.oneCell' = true) (L : List α) : ∀ v ∈ flC C L, v.oneCell' = true := by
  intro v hv
  obtain ⟨s, _, hs⟩ := List.mem_flatMap.1 hv
  exact h1 s v hs
theorem flC_at (hk : ∀ x, (C x).length = k) : ∀ (L : List α) (i : Nat) (s : α), L[i]? = some s → ∀ (j : Nat) (v : Value), (C s)[j]? = some v → (flC C L)[i * k + j]? = some v
  | [], i, s, h, j, v, hv => by simp at h
  | x :: L, 0, s, h, j, v, hv => by
    obtain rfl : x = s := by simpa using h
    have hj : j < (C x).length := (List.getElem?_eq_some_iff.1 hv).1
    unfold flC
    rw [List.flatMap_cons, Nat.zero_mul, Nat.zero_add, List.getElem?_append_left hj]
    exact hv
  | x :: L, i + 1, s, h, j, v, hv => by
    have h' : L[i]? = some s := by simpa using h
    unfold flC
    have e := hk x
    rw [List.flatMap_cons, List.getElem?_append_right (by rw [e, Nat.succ_mul]; omega), show (i + 1) * k + j - (C x).length = i * k + j by rw [e, Nat.succ_mul]; omega]
    exact flC_at hk L i s h' j v hv
theorem flC_app (a b : List α) : flC C (a ++ b) = flC C a ++ flC C b := by unfold flC; rw [List.flatMap_append]
theorem flC_single (s : α) : flC C [s] = C s := by unfold flC; simp
/-- A row of the call's own. -/
def OwnC (T : TypeId) (k : Nat) (C : α → List Value) (w : World) (base : Nat) (v : Value) (L : List α) : Prop := w.ownsRow base T k v L.length (flC C L)
variable {T : TypeId} {w w' : World} {base : Nat} {v : Value} {L : List α}
theorem OwnC.nil : OwnC T k C w base (.slice none 0 0) [] := World.ownsRow_nil _ _ _ _
theorem OwnC.form (h : OwnC T k C w base v L) : ∃ A c, v = .slice A L.length c ∧ L.length ≤ c ∧ c ≤ maxLen := own_form h
theorem OwnC.form' (h : OwnC T k C w base v L) : ∃ A n c, v = .slice A n c ∧ Hid (n = L.length) ∧ n ≤ c ∧ c ≤ maxLen := by
  obtain ⟨A, c, rfl, h1, h2⟩ := h.form
  exact ⟨A, _, c, rfl, Lib.hid rfl, h1, h2⟩
theorem OwnC.below (h : OwnC T k C w base v L) (hb : Below w.heap.size w w') : OwnC T k C w' base v L := own_below h hb
theorem OwnC.low {base' : Nat} (h : OwnC T k C w base v L) (hb : base' ≤ base) : OwnC T k C w base' v L := own_base h hb
theorem OwnC.mod {X : Nat → Prop} (h : OwnC T k C w base v L) (hb : Mod X w w') (hx : ∀ j, v.ownBlock = some j → ¬ X j) : OwnC T k C w' base v L := by
  refine ⟨h.1, ?_⟩
  rcases h.2 with h0 | ⟨g, cap, cur, rfl, hg, hh, r⟩
  · exact .inl h0
  · exact .inr ⟨g, cap, cur, rfl, hg, by rw [hb.block g (Array.getElem?_eq_some_iff.1 hh).1 (hx g rfl)]; exact hh, r⟩
theorem OwnC.rd (hk : ∀ x, (C x).length = k) {A : Option Addr} {n c : Nat} (h : OwnC T k C w base (.slice A n c) L) : RdL w (fun b => base ≤ b ∧ (Value.slice A n c).ownBlock = some b) k C A L := by
  intro hn
  rcases h.2 with ⟨_, h0⟩ | ⟨g, cap, cur, hv, hg, hh, hnc, hcm, hcs, htake⟩
  · omega
  · injection hv with hA _ _
    subst hA
    refine ⟨_, rfl, ⟨hg, rfl⟩, fun i s hs j u hu => ?_⟩
    have h1 := flC_at hk L i s hs j u hu
    have hlt := (List.getElem?_eq_some_iff.1 h1).1
    rw [flC_len hk] at hlt
    rw [← htake, List.getElem?_take, if_pos (by omega)] at h1
    rw [add_head, (show Blk w g _ cur from hh).cell]
    rw [← h1]; simp
theorem RdL.imp (hC : ∀ x, 0 < (C x).length) {D D' : Nat → Prop} {A : Option Addr} (h : RdL w D k C A L) (hd : ∀ b, b < w.heap.size → D b → D' b) : RdL w D' k C A L := fun hn => by
  obtain ⟨ad, e, hb, hc⟩ := h hn
  refine ⟨ad, e, hd _ ?_ hb, hc⟩
  have h1 := hc 0 L[0] (List.getElem?_eq_getElem hn) 0 _ (List.getElem?_eq_getElem (hC _))
  have := World.block_lt_of_cell? w _ h1
  rwa [block_of_add] at this
end

/-! ### the sort of a row of one's own -/
section
variable {α : Type} [Inhabited α] {C : α → List Value} {k : Nat} {T : TypeId} {w : World} {base : Nat} {L : List α}
theorem flC_get (hk : ∀ x, (C x).length = k) (L : List α) (t : Nat) (h : t < L.length * k) : (flC C L)[t]? = some ((C (L.toArray[t / k]!))[t % k]!) := by
  have k0 : 0 < k := by rcases Nat.eq_zero_or_pos k with e | e; · subst e; simp at h
                        · exact e
  have h1 : t / k < L.length := by rwa [Nat.div_lt_iff_lt_mul k0]
  have h2 : t % k < (C L[t / k]).length := by rw [hk]; exact Nat.mod_lt _ k0
  have e := flC_at hk L (t / k) L[t / k] (List.getElem?_eq_getElem h1) (t % k) _ (List.getElem?_eq_getElem h2)
  rw [Nat.mul_comm, Nat.div_add_mod] at e
  rw [e]
  have e1 : L.toArray[t / k]! = L[t / k] := by rw [getElem!_pos L.toArray _ (by simpa using h1)]; simp
  rw [e1, getElem!_pos (C L[t / k]) _ h2]
theorem OwnC.holds (hk : ∀ x, (C x).length = k) {g o : Nat} {x : Option Nat} {n c : Nat} (h : OwnC T k C w base (.slice (some ⟨g, o, none⟩) n c) L) : o = 0 ∧ base ≤ g ∧ g < w.heap.size ∧ Go.Sort.HoldsK C k w g 0 L.toArray := by
  have hl := flC_len hk L
  rcases h.2 with ⟨h0, _⟩ | ⟨g', cap, cur, hv, hg, hh, hnc, hcm, hcs, htake⟩
  · cases h0
  · have hB : Blk w g' T cur := hh
    injection hv with hA hn hc
    injection hA with hA
    injection hA with h1 h2
    subst h1 h2
    refine ⟨rfl, hg, hB.lt, fun j hj => ?_⟩
    rw [Go.Sort.size_flatK] at hj
    have hj' : j < L.length * k := by simpa using hj
    have e := flC_get hk L j hj'
    rw [← htake, List.getElem?_take, if_pos hj'] at e
    rw [Nat.zero_add, Go.Sort.get_flatK _ _ _ _ hj]
    exact ⟨by rw [hB.cell]; simpa using e, hB.frozen _⟩
theorem OwnC.sorted (hk : ∀ x, (C x).length = k) {g n c : Nat} (h : OwnC T k C w base (.slice (some ⟨g, 0, none⟩) n c) L) (d' : Array α) (hd : d'.size = L.length) (m : Nat) (os : Array Obj) :
    OwnC T k C (sortWorldK C k w g 0 m d' os) base (.slice (some ⟨g, 0, none⟩) n c) d'.toList ∧ Below base w (sortWorldK C k w g 0 m d' os) := by
  have hl := flC_len hk d'.toList
  rcases h.2 with ⟨h0, _⟩ | ⟨g', cap, cur, hv, hg, hh, hnc, hcm, hcs, htake⟩
  · cases h0
  · have hB : Blk w g' T cur := hh
    injection hv with hA hn hc
    injection hA with hA
    injection hA with h1 h2
    subst h1
    have hsz : g < w.heap.size := hB.lt
    have hw : ∀ i, i < w.heap.size → (sortWorldK C k w g 0 m d' os).heap[i]? = (w.heap.modify g (Go.Sort.onCells (Go.Sort.putCells id 0 (Go.Sort.flatK C k d'))))[i]? := fun i hi => by
      show ((w.heap.modify g _) ++ os)[i]? = _
      rw [Array.getElem?_append, if_pos (by simpa using hi)]
    have hgg : (sortWorldK C k w g 0 m d' os).heap[g]? = some (.cells (Go.Sort.putCells id 0 (Go.Sort.flatK C k d') cur) T (0, 0)) := by
      rw [hw g hsz, Array.getElem?_modify, if_pos rfl, show w.heap[g]? = some (.cells cur T (0, 0)) from hh]
      rfl
    have hdl : d'.toList.length = L.length := by simpa using hd
    refine ⟨⟨hl, .inr ⟨g, c, _, by rw [hn, hdl], hg, hgg, by rw [hdl, hc]; exact hnc, by rw [hc]; exact hcm, ?_, ?_⟩⟩, rfl, rfl, rfl, ?_, fun i hi => ?_⟩
    · unfold Go.Sort.putCells
      rw [Array.size_mapIdx, hc]; exact hcs
    · apply List.ext_getElem?
      intro t
      rw [List.getElem?_take]
      by_cases ht : t < d'.toList.length * k
      · rw [if_pos ht, flC_get hk _ t ht]
        have htc : t < cur.size := by
          have := Nat.mul_le_mul_right k hnc
          rw [hdl] at ht; omega
        have hF : t < (Go.Sort.flatK C k d').size := by rw [Go.Sort.size_flatK]; simpa using ht
        unfold Go.Sort.putCells
        rw [← Array.getElem?_toList.symm, Array.getElem?_mapIdx, Array.getElem?_eq_getElem htc, Option.map_some, if_pos ⟨Nat.zero_le _, by omega⟩]
        rw [Nat.sub_zero, Go.Sort.get_flatK _ _ _ _ (by rw [Go.Sort.size_flatK] at hF; exact hF)]
        rfl
      · rw [if_neg ht]
        exact (List.getElem?_eq_none (by rw [hl]; omega)).symm
    · show _ ≤ ((w.heap.modify g _) ++ os).size
      simp
    · rw [hw i (by omega), Array.getElem?_modify, if_neg (by omega)]
end

/-! ### links -/
def lnC (x : Int × Int) : List Value := [.int .i64 x.1, .int .i64 x.2]
theorem lnC_len (x : Int × Int) : (lnC x).length = 2 := rfl
theorem lnC_one (x : Int × Int) : ∀ v ∈ lnC x, v.oneCell' = true := by
  intro v hv
  simp only [lnC, List.mem_cons, List.not_mem_nil, or_false] at hv
  rcases hv with rfl | rfl <;> rfl
def OwnLn (w : World) (base : Nat) (v : Value) (L : List (Int × Int)) : Prop := OwnC 37 2 lnC w base v L
theorem infoLn : (Try.prog.info? 37).map (fun i => (i.zero, i.size, i.bytes)) = some (some (.agg #[.int .i64 0, .int .i64 0]), 2, 16) := by kernel_rfl

theorem blk_own {β : Type} (B : Nat) (t : TypeId) (cs : Array Value) : Own (fun (_ : β) W => Blk W B t cs) := fun s X Y row hs hg hrow => by
  refine (hg.block B hs.lt fun e => ?_).trans hs
  obtain ⟨o, ho, hc⟩ := hrow B e.symm
  rw [show X.heap[B]? = _ from hs] at ho
  cases ho
  cases hc
theorem walks_of_others {W W' : World} (h : KeepsOthers W W') : KeepsWalks W W' := ⟨h.size, fun k o hk hw => h.same k o hk (Obj.not_cells_of_walk hw)⟩
set_option maxHeartbeats 4000000 in
theorem appendSeq_in (F : Fence) (n : Nat) (hf : F.fn 33) (hf2 : F.fn 32) (hro : F.round = none) (hn : 3 ≤ n) (Bm b cl : Nat) (L : List NE) (w : World) (hBm : Bm < w.heap.size) (hm : w.cell? ⟨Bm, 0, none⟩ = some (.map (some b))) (hM : MapN w b L cl) (hl : L.length ≤ 1000000) :
    CallsIn F n Try.prog 33 #[.slice none 0 0, .func (.func 32) #[] #[.pointer (some ⟨Bm, 0, none⟩)]] w fun e w' => ∃ v ys, e = .returned v ∧ ys.Perm (L.map (·.k)) ∧ OwnLn w' w.heap.size v ys ∧ Below w.heap.size w w' := by
  have h1 : 1 ≤ n := by omega
  obtain ⟨i0, hi, hz0, hz1, hz2⟩ := info_parts infoLn
  refine callsIn_of_wp_marks Try.func33 rfl hf ?_ hro
  simp only [Try.ntmps33, List.size_toArray, List.length_cons, List.length_nil, Nat.reduceAdd, Nat.reduceSub, Array.replicate_succ, Array.replicate_zero, List.push_toArray, List.append_toArray, List.nil_append, List.cons_append]
  gi_wp2
  have bO := Boxed.new w 35 (.slice none 0 0)
  have hB0 : Below w.heap.size w (w.alloc (.cells #[.slice none 0 0] 35)) := below_new w _
  refine wpIn_rangeFunc_ownH hro h1 (gf := 32) (lb := #[.pointer (some ⟨Bm, 0, none⟩)]) rfl hf2 (enters_of Try.func32 (by kernel_rfl) rfl)
    ((keys_stops F (n - 1) hf2 hro (by omega) Bm b cl L _ (by simp; omega) ((hB0.cell (p := ⟨Bm, 0, none⟩) hBm).trans hm) (hM.below hB0))) walksK_t walksK_b (Below.refl _ _) (fun _ => rfl)
    (fun pre W => (∃ v, Boxed W w.heap.size 35 v ∧ W.ownsRow w.heap.size 37 2 v pre.length (flC lnC pre) ∧ True) ∧ Below w.heap.size w W)
    (fun _ _ _ => False)
    (OwnFrom.and (Own.from (holdsRow_own w.heap.size w.heap.size 35 37 2 (fun (pre : List (Int × Int)) => pre.length) (fun pre => flC lnC pre) (fun _ _ => True)) _) (ownFrom_below (Nat.le_refl _) (by simp)))
    (fun _ _ _ _ _ hs _ _ => hs)
    ⟨⟨_, bO, World.ownsRow_nil _ _ _ _, trivial⟩, hB0⟩
    (fun x a' W => ∃ Bx, w.heap.size < Bx ∧ Blk W Bx 37 #[.int .i64 x.1, .int .i64 x.2] ∧ a' = { tmps := #[.slice none 0 0, .func (.func 32) #[] #[.pointer (some ⟨Bm, 0, none⟩)], .pointer (some ⟨w.heap.size, 0, none⟩), undef, .slice none 0 0, .pointer (some ⟨Bx, 0, none⟩), .func (.func 32) #[] #[.pointer (some ⟨Bm, 0, none⟩)], .agg #[.int .i64 x.1, .int .i64 x.2], undef, undef, undef, undef, undef], defers := [] })
    (fun x a' s X Y row ⟨Bx, q1, q2, q3⟩ hg hr => ⟨Bx, q1, (blk_own (β := Unit) Bx _ _) s X Y row q2 hg (fun r e => (hr r e).2), q3⟩)
    ?assign ?body ?done ?stop
  case assign =>
    rintro l pre x W K ⟨⟨v, hv, hrow, _⟩, hB⟩ hK
    gi_wp2
    exact hK _ _ ((KeepsOthers.alloc _ _).from _) (KeepsWalks.alloc _ _) ⟨⟨v, hv.alloc _, hrow.alloc _, trivial⟩, hB.alloc hB.size _⟩ ⟨W.heap.size, hv.lt, Blk.new W _ _, rfl⟩
  case body =>
    rintro l pre x a' W hl' ⟨r, hr⟩ ⟨⟨v, hv, hrow, _⟩, hB⟩ ⟨Bx, hBx, bX, rfl⟩ hlt
    have hc := hv.cell
    have d0 := bX.cell 0
    have d1 := bX.cell 1
    simp at d0 d1
    have hnew := Blk.new W 37 #[.int .i64 x.1, .int .i64 x.2]
    have hcells : ∀ (j : Nat) u, ([.int .i64 x.1, .int .i64 x.2] : List Value)[j]? = some u → (W.alloc (.cells #[.int .i64 x.1, .int .i64 x.2] 37)).cell? ((⟨W.heap.size, 0, none⟩ : Addr).add j) = some u := fun j u hu => by
      rw [add_head, hnew.cell]
      simpa using hu
    gi_wp2_with (gi_at_builtin; refine wpListIn_append_own _ rfl _ _ 35 rfl w.heap.size 37 i0 _ 2 16 Try.underlying35 hi hz0 hz1 hz2 rfl (by decide) _ _ _ rfl (hrow.alloc _) ⟨W.heap.size, 0, none⟩ 1 1 [.int .i64 x.1, .int .i64 x.2] rfl rfl hcells (by intro u hu; exact lnC_one x u hu) (by unfold maxLen; omega) (by omega) (by have := hB.size; simp; omega) ?_; intro v' w1 hown' hgrow _; obtain ⟨g', cap', rfl⟩ := ownsRow_succ hown'; obtain ⟨hv1, hv2, hr2, hk2, hb2⟩ := hv.appended (by decide) hrow hB.size (Nat.le_refl _) hown' hgrow; have hc1 := hv1.cell; have hf1 := hv1.frozen)
    refine ⟨hk2.from _, walks_of_others hk2, ⟨⟨_, hv2, ?_, trivial⟩, hB.trans hb2⟩⟩
    rw [List.length_append, flC_app, flC_single]
    exact hr2
  case done =>
    rintro D ys W hD hS ⟨⟨v, hv, hrow, _⟩, hB⟩ hK
    have hc := hv.cell
    gi_wp2
    refine ⟨by simp, .inl ⟨_, _, rfl, run_takeDeferred hK, ?_⟩⟩
    exact ⟨_, results_tmp rfl _ _ _, v, ys, rfl, hS, ownsRow_putObj hrow _ hK rfl, hB.trans (belowK_b (w := w) (Nat.le_refl _) W D _ _ (by simp at hD; omega) hK rfl rfl)⟩
  case stop =>
    rintro D c pre W _ _ h _
    exact h.elim

theorem Keys_any (m : Nat) (w : World) : Calls Try.prog 22 #[.map (some m)] w fun e w' => e = .returned (.func (.func 32) #[] #[.pointer (some ⟨w.heap.size, 0, none⟩)]) ∧ w' = w.alloc (.cells #[.map (some m)] 48) := by
  go_enter Try.func22, Try.ntmps22
  go_wp2_with fail
  go_ret
  exact ⟨rfl, rfl⟩
theorem AppendSeq_any (Bm b cl : Nat) (L : List NE) (w : World) (hBm : Bm < w.heap.size) (hm : w.cell? ⟨Bm, 0, none⟩ = some (.map (some b))) (hM : MapN w b L cl) (hl : L.length ≤ 1000000) :
    Calls Try.prog 33 #[.slice none 0 0, .func (.func 32) #[] #[.pointer (some ⟨Bm, 0, none⟩)]] w fun e w' => ∃ v ys, e = .returned v ∧ ys.Perm (L.map (·.k)) ∧ OwnLn w' w.heap.size v ys ∧ Below w.heap.size w w' :=
  callsIn_wide.1 (appendSeq_in Fence.wide 6 trivial trivial rfl (by omega) Bm b cl L w hBm hm hM hl)
theorem Collect_any (Bm b cl : Nat) (L : List NE) (w : World) (hBm : Bm < w.heap.size) (hm : w.cell? ⟨Bm, 0, none⟩ = some (.map (some b))) (hM : MapN w b L cl) (hl : L.length ≤ 1000000) :
    Calls Try.prog 30 #[.func (.func 32) #[] #[.pointer (some ⟨Bm, 0, none⟩)]] w fun e w' => ∃ v ys, e = .returned v ∧ ys.Perm (L.map (·.k)) ∧ OwnLn w' w.heap.size v ys ∧ Below w.heap.size w w' := by
  have h1 := AppendSeq_any Bm b cl L w hBm hm hM hl
  go_enter Try.func30, Try.ntmps30
  go_wp2_with fail
  refine h1.mono ?_
  rintro e w1 ⟨v, ys, rfl, q1, q2, q3⟩
  go_wp2_with fail
  go_ret
  exact ⟨_, _, rfl, q1, q2, q3⟩
end Go.Proofs.Ytpfbiamgnmbhnaa
