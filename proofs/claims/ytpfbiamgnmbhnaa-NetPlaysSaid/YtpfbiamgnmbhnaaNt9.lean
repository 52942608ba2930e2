/- The keys of a net's map: maps.Keys, in whatever order. -/
import Derived.RangeFuncNested
import Derived.RangeFuncBox
import Derived.RangeFuncBound
import Derived.RangeFuncCalls
import Derived.RangeFuncLeaves
import Derived.Shelf.Abstract
import Derived.Shelf.RegionOpen
import Derived.WalkKit
import Derived.OwnWalkIn
import Derived.TacticsInMore
import Derived.LoopNIn
import Derived.LoopIn
import Derived.Sort.MapsRangeIn
import Derived.Test.YtpfbiamgnmbhnaaNt8
namespace Go.Proofs.Ytpfbiamgnmbhnaa
open Go.RowKit Go.Shelf Go.Proofs
open Go.ChangeMaps (setBlock)
set_option linter.unusedVariables false
set_option maxRecDepth 100000
attribute [local go_sem] Oper.semAt_some

/-- A range over a map under way: vis have come. -/
structure RangeN (w : World) (b r cl : Nat) (L vis : List NE) : Prop where
  map : MapN w b L cl
  it : ∃ c0, w.heap[r]? = some (.mapIter (some b) cl (vis.map (·.born)).toArray c0) ∧ cl ≤ c0
  sub : ∀ x ∈ vis, x ∈ L
  nd : vis.Pairwise fun x y => x.born ≠ y.born
theorem NE.inj {L : List NE} (h : L.Pairwise fun x y => x.born ≠ y.born) {x y : NE} (hx : x ∈ L) (hy : y ∈ L) (e : x.born = y.born) : x = y := by
  obtain ⟨i, hi, rfl⟩ := List.getElem_of_mem hx
  obtain ⟨j, hj, rfl⟩ := List.getElem_of_mem hy
  rcases Nat.lt_trichotomy i j with h1 | h1 | h1
  · exact absurd e (List.pairwise_iff_getElem.1 h i j hi hj h1)
  · subst h1; rfl
  · exact absurd e.symm (List.pairwise_iff_getElem.1 h j i hj hi h1)
theorem RangeN.walk {w : World} {b r cl : Nat} {L vis : List NE} (h : RangeN w b r cl L vis) : ∃ o : Obj, w.heap[r]? = some o ∧ o.isWalk = true := by
  obtain ⟨c0, h1, _⟩ := h.it
  exact ⟨_, h1, rfl⟩
theorem RangeN.of_walks {w w' : World} {b r cl : Nat} {L vis : List NE} (h : RangeN w b r cl L vis) (k : KeepsWalks w w') : RangeN w' b r cl L vis := by
  obtain ⟨c0, h1, h2⟩ := h.it
  exact ⟨⟨k.same b _ h.map.obj rfl, h.map.keys, h.map.born, h.map.old⟩, ⟨c0, k.same r _ h1 rfl, h2⟩, h.sub, h.nd⟩
theorem nodup_len {α : Type} : ∀ (V L : List α), V.Nodup → (∀ x ∈ V, x ∈ L) → V.length ≤ L.length
  | [], _, _, _ => Nat.zero_le _
  | x :: r, L, hn, hs => by
    obtain ⟨h1, h2⟩ := List.nodup_cons.1 hn
    obtain ⟨s, t, rfl⟩ := List.append_of_mem (hs x (List.mem_cons_self ..))
    have := nodup_len r (s ++ t) h2 fun y hy => by
      have := hs y (List.mem_cons_of_mem _ hy)
      rcases List.mem_append.1 this with h | h
      · exact List.mem_append.2 (.inl h)
      · rcases List.mem_cons.1 h with rfl | h
        · exact absurd hy h1
        · exact List.mem_append.2 (.inr h)
    rw [List.length_append] at this
    rw [List.length_cons, List.length_append, List.length_cons]
    omega
theorem RangeN.sub_len {w : World} {b r cl : Nat} {L vis : List NE} (h : RangeN w b r cl L vis) : vis.length ≤ L.length := by
  have nd1 : vis.Nodup := h.nd.imp fun hxy e => hxy (by rw [e])
  exact nodup_len vis L nd1 h.sub
theorem RangeN.start {w : World} {b cl : Nat} {L : List NE} (h : MapN w b L cl) : (Instr.range 48 (.map (some b))).run Try.prog w = .ok (.pointer (some ⟨w.heap.size, 0, none⟩)) (w.alloc (.mapIter (some b) cl #[] cl)) ∧ RangeN (w.alloc (.mapIter (some b) cl #[] cl)) b w.heap.size cl L [] := by
  refine ⟨run_range_map w _ _ _ b _ cl Try.underlying48 h.obj, h.below (below_new w _), ⟨cl, (MapKept.heap_alloc w _).1, Nat.le_refl _⟩, by simp, List.Pairwise.nil⟩
theorem RangeN.next {w : World} {b r cl : Nat} {L vis : List NE} (h : RangeN w b r cl L vis) (ty : TypeId) :
    ((Instr.next (.pointer (some ⟨r, 0, none⟩)) false ty).run Try.prog w = .ok (.tuple #[.bool false]) w ∧ (vis.map (·.k)).Perm (L.map (·.k))) ∨
    ∃ x w', (Instr.next (.pointer (some ⟨r, 0, none⟩)) false ty).run Try.prog w = .ok (.tuple #[.bool true, kV x.k, x.v]) w' ∧ RangeN w' b r cl L (vis ++ [x]) ∧ w'.rangeLeft b r < w.rangeLeft b r ∧ w.grownBy w' (some r) ∧ w'.heap.size = w.heap.size ∧
      (Instr.entry (.pointer (some ⟨r, 0, none⟩))).run Try.prog w' = .ok (.tuple #[kV x.k, x.v]) w' := by
  obtain ⟨c0, hr, hc0⟩ := h.it
  have hne : r ≠ b := fun e => by rw [e, h.map.obj] at hr; cases hr
  have hold : ∀ x ∈ (L.map mE).toArray.toList, x.born < cl := fun x hx => by
    have hx : x ∈ L.map mE := hx
    obtain ⟨y, hy, rfl⟩ := List.mem_map.1 hx
    exact h.map.old y hy
  rcases run_next_at (P := Try.prog) w ty r b cl c0 _ _ cl hr h.map.obj hold hc0 with ⟨h0, hrun⟩ | ⟨e, he, w1, hal, hrun⟩
  · refine .inl ⟨hrun, ?_⟩
    have hall := all_seen _ _ h0
    have hvis : ∀ x ∈ L, x ∈ vis := fun x hx => by
      have := hall (mE x) (by show mE x ∈ L.map mE; exact List.mem_map.2 ⟨x, hx, rfl⟩)
      rw [List.contains_toArray, List.contains_iff_mem] at this
      obtain ⟨y, hy, e⟩ := List.mem_map.1 this
      have : y = x := NE.inj h.map.born (h.sub y hy) hx e
      exact this ▸ hy
    have nd1 : vis.Nodup := h.nd.imp fun hxy e => hxy (by rw [e])
    have nd2 : L.Nodup := h.map.born.imp fun hxy e => hxy (by rw [e])
    exact ((List.perm_ext_iff_of_nodup nd1 nd2).2 fun x => ⟨h.sub x, hvis x⟩).map _
  · obtain ⟨hem, hes⟩ := mem_left he
    have hem : e ∈ L.map mE := hem
    obtain ⟨x, hx, rfl⟩ := List.mem_map.1 hem
    have hr1 : w1.heap[r]? = some (.mapIter (some b) cl (vis.map (·.born)).toArray c0) := by rcases hal with rfl | rfl <;> exact hr
    have hb1 : w1.heap[b]? = some (.map (L.map mE).toArray cl) := by rcases hal with rfl | rfl <;> exact h.map.obj
    have hset : (setBlock w1 r (.mapIter (some b) cl ((vis.map (·.born)).toArray.push (mE x).born) cl)).heap[r]? = some (.mapIter (some b) cl ((vis.map (·.born)).toArray.push (mE x).born) cl) := setBlock_self hr1
    have hb' : (setBlock w1 r (.mapIter (some b) cl ((vis.map (·.born)).toArray.push (mE x).born) cl)).heap[b]? = some (.map (L.map mE).toArray cl) := (setBlock_other (Ne.symm hne)).trans hb1
    have hnd : ((L.map mE).toArray.toList.map (·.born)).Nodup := by
      show ((L.map mE).map (·.born)).Nodup
      rw [List.map_map, List.Nodup, List.pairwise_map]
      exact h.map.born
    refine .inr ⟨x, _, hrun, ⟨⟨hb', h.map.keys, h.map.born, h.map.old⟩, ⟨cl, by rw [hset]; simp [mE], Nat.le_refl _⟩, fun y hy => ?_, ?_⟩, ?_, ?_, ?_, run_entry_at _ r b cl _ _ cl (mE x) hset hb' (by show mE x ∈ L.map mE; exact List.mem_map.2 ⟨x, hx, rfl⟩) hnd⟩
    · rcases List.mem_append.1 hy with hy | hy
      · exact h.sub y hy
      · obtain rfl : y = x := by simpa using hy
        exact hx
    · rw [List.pairwise_append]
      refine ⟨h.nd, List.pairwise_singleton _ _, fun y hy z hz => ?_⟩
      obtain rfl : z = x := by simpa using hz
      intro e
      rw [List.contains_toArray] at hes
      have : (vis.map (·.born)).contains (mE z).born = true := List.contains_iff_mem.2 (List.mem_map.2 ⟨y, hy, e⟩)
      rw [this] at hes
      cases hes
    · have := left_shrinks _ _ (mE x) he
      have e1 : World.rangeLeft (setBlock w1 r (.mapIter (some b) cl ((vis.map (·.born)).toArray.push (mE x).born) cl)) b r = (leftOf (L.map mE).toArray ((vis.map (·.born)).toArray.push (mE x).born)).size := by
        unfold World.rangeLeft
        rw [hb', hset]
      have e2 : World.rangeLeft w b r = (leftOf (L.map mE).toArray (vis.map (·.born)).toArray).size := by
        unfold World.rangeLeft
        rw [h.map.obj, hr]
      rw [e1, e2]
      exact this
    · rcases hal with rfl | rfl <;> exact ⟨rfl, rfl, rfl, by simp [setBlock], fun i _ hi => setBlock_other (fun e1 => hi (by rw [e1]))⟩
    · rcases hal with rfl | rfl <;> simp [setBlock]
theorem rangeLeft_walks {w w' : World} {b r cl : Nat} {L vis : List NE} (h : RangeN w b r cl L vis) (k : KeepsWalks w w') : w'.rangeLeft b r = w.rangeLeft b r := by
  obtain ⟨c0, hr, _⟩ := h.it
  unfold World.rangeLeft
  rw [h.map.obj, hr, k.same b _ h.map.obj rfl, k.same r _ hr rfl]

section
variable {F : Fence} {n : Nat} {w : World} {ops : Array Oper} {rest : List Oper} {o : Oper} {a : Act} {Q : Exit → Act → World → Prop}
theorem wpListIn_rangeN (hg : o.guard = none) (m : Operand) (hop : o.op = Op.range 48 m) {b cl : Nat} {L : List NE} (hm : a.eval m = .map (some b)) (h : MapN w b L cl)
    (hK : RangeN (w.alloc (.mapIter (some b) cl #[] cl)) b w.heap.size cl L [] → wpListIn F n Try.prog ops Q rest (a.put o.dst (.pointer (some ⟨w.heap.size, 0, none⟩))) (w.alloc (.mapIter (some b) cl #[] cl))) :
    wpListIn F n Try.prog ops Q (o :: rest) a w := by
  refine wpListIn_plain hg fun K' hK' => ?_
  obtain ⟨hrun, h2⟩ := RangeN.start h
  unfold Oper.wpIn
  refine ⟨by simp [Oper.about, hop], ?_⟩
  rw [Oper.semAt_plain F _ _ (by rw [hop]; intro c hc'; cases hc')]
  simp [execOp, hop, hm, hrun, Result.andThen]
  exact hK' _ _ (hK h2)
theorem wpListIn_nextN (hg : o.guard = none) (it : Operand) (hop : o.op = Op.next it false) {b r cl : Nat} {L vis : List NE} (hit : a.eval it = .pointer (some ⟨r, 0, none⟩)) (h : RangeN w b r cl L vis)
    (hDone : (vis.map (·.k)).Perm (L.map (·.k)) → wpListIn F n Try.prog ops Q rest (a.put o.dst (.tuple #[.bool false])) w)
    (hMore : ∀ x w', RangeN w' b r cl L (vis ++ [x]) → w'.rangeLeft b r < w.rangeLeft b r → w.grownBy w' (some r) → w'.heap.size = w.heap.size → (Instr.entry (.pointer (some ⟨r, 0, none⟩))).run Try.prog w' = .ok (.tuple #[.agg #[.int .i64 x.k.1, .int .i64 x.k.2], x.v]) w' →
      wpListIn F n Try.prog ops Q rest (a.put o.dst (.tuple #[.bool true, .agg #[.int .i64 x.k.1, .int .i64 x.k.2], x.v])) w') :
    wpListIn F n Try.prog ops Q (o :: rest) a w := by
  refine wpListIn_plain hg fun K' hK' => ?_
  unfold Oper.wpIn
  refine ⟨by simp [Oper.about, hop], ?_⟩
  rw [Oper.semAt_plain F _ _ (by rw [hop]; intro c hc'; cases hc')]
  rcases h.next o.type with ⟨hrun, h2⟩ | ⟨x, w', hrun, h1, h2, h3, h4, h5⟩
  · simp [execOp, hop, hit, hrun, Result.andThen]
    exact hK' _ _ (hDone h2)
  · simp [execOp, hop, hit, hrun, Result.andThen]
    exact hK' _ _ (hMore x w' h1 h2 h3 h4 h5)
end

set_option maxHeartbeats 2000000 in
theorem keys1_in (F : Fence) (n : Nat) (hf : F.fn 32) (hro : F.round = none) (hn : 1 ≤ n) (l Bm b cl : Nat) (L : List NE) (J Jx : List (Int × Int) → World → Prop)
    (hY : ∀ pre x W, J pre W → pre.length < L.length → YieldAt F (n - 1) Try.prog l #[.agg #[.int .i64 x.1, .int .i64 x.2]] W fun e W' => (e = .returned (.bool true) ∧ J (pre ++ [x]) W' ∧ KeepsWalks W W') ∨ (e = .returned (.bool false) ∧ Jx (pre ++ [x]) W'))
    (W : World) (hJ : AbidesFrom W.heap.size J) (hm : W.cell? ⟨Bm, 0, none⟩ = some (.map (some b))) (hM : MapN W b L cl) (h0 : J [] W) :
    CallsIn F n Try.prog 32 #[.func (.yield l) #[] #[], .pointer (some ⟨Bm, 0, none⟩)] W fun e W' => (∃ v, e = .returned v) ∧
      ((∃ ys, ys.Perm (L.map (·.k)) ∧ J ys W') ∨ (∃ pre, True ∧ Jx pre W')) := by
  refine callsIn_of_wp Try.func32 rfl hf ?_ hro
  simp only [Try.ntmps32, List.size_toArray, List.length_cons, List.length_nil, Nat.reduceAdd, Nat.reduceSub, Array.replicate_succ, Array.replicate_zero, List.push_toArray, List.append_toArray, List.nil_append, List.cons_append]
  gi_wp2_with (first
    | (gi_at_range; refine wpListIn_rangeN rfl _ rfl rfl hM ?_; intro hrg0)
    | gi_in)
  go_frame
  have hJ0 : J [] (W.alloc (.mapIter (some b) cl #[] cl)) := hJ [] W _ none h0 (World.grownBy_alloc W _ none) (fun r e => by cases e)
  generalize W.alloc (.mapIter (some b) cl #[] cl) = W0 at *
  gi_loopw [3] (fun _ wr => ∃ (vis : List NE), RangeN wr b W.heap.size cl L vis ∧ J (vis.map (·.k)) wr) (fun _ wr => wr.rangeLeft b W.heap.size)
  case atStart => exact ⟨[], hrg0, hJ0⟩
  case round =>
    obtain ⟨vis, hrg, hJs⟩ := hrel
    gi_wp2_with (first
      | (gi_at_next; refine wpListIn_nextN rfl _ rfl rfl hrg ?_ ?_)
      | gi_in)
    · intro hp
      gi_wp2
      go_end0
      exact ⟨⟨_, rfl⟩, .inl ⟨_, hp, hJs⟩⟩
    · intro x w2 hrg2 hlt hg2 hs2 hen
      have hJ2 : J (vis.map (·.k)) w2 := hJ _ wr w2 (some W.heap.size) hJs hg2 (fun r e => by cases e; exact ⟨Nat.le_refl _, hrg.walk⟩)
      have hJ3 : J (vis.map (·.k)) (w2.alloc (.cells #[.int .i64 x.k.1, .int .i64 x.k.2] 37)) := hJ _ w2 _ none hJ2 (World.grownBy_alloc w2 _ none) (fun r e => by cases e)
      have hlen : (vis.map (·.k)).length < L.length := by
        rw [List.length_map]
        have h1 := hrg2.sub_len
        rw [List.length_append] at h1
        exact h1
      obtain ⟨fn, tmps, assign, body, hy, hR⟩ := hY _ x.k _ hJ3 hlen
      clear hs2
      have hka := KeepsWalks.alloc w2 (.cells #[.int .i64 x.k.1, .int .i64 x.k.2] 37)
      gi_wp2
      refine hR.mono ?_
      rintro e W3 (⟨rfl, hJ4, hk4⟩ | ⟨rfl, hJx⟩)
      · have hkk := hka.trans hk4
        have hrg3 := hrg2.of_walks hkk
        gi_wp2
        go_roundw
        case rel => exact ⟨vis ++ [x], hrg3, by rw [List.map_append]; exact hJ4⟩
        case measure => rw [rangeLeft_walks hrg2 hkk]; exact hlt
      · gi_wp2
        refine bodyPost_ret (results_none rfl _ _ _) rfl ?_
        exact ⟨⟨_, rfl⟩, .inr ⟨_, trivial, hJx⟩⟩
theorem keys_stops (F : Fence) (n : Nat) (hf : F.fn 32) (hro : F.round = none) (hn : 1 ≤ n) (Bm b cl : Nat) (L : List NE) (w : World) (hBm : Bm < w.heap.size) (hm : w.cell? ⟨Bm, 0, none⟩ = some (.map (some b))) (hM : MapN w b L cl) :
    SeqStopsK F n Try.prog 32 #[.pointer (some ⟨Bm, 0, none⟩)] (fun x : Int × Int => #[Value.agg #[.int .i64 x.1, .int .i64 x.2]]) KeepsWalks (fun ys => ys.Perm (L.map (·.k))) (fun _ => True) L.length w := fun l J Jx W hW hJ _ hY h0 =>
  keys1_in F n hf hro hn l Bm b cl L J Jx hY W hJ ((hW.cell (p := ⟨Bm, 0, none⟩) hBm).trans hm) (hM.below hW) h0
end Go.Proofs.Ytpfbiamgnmbhnaa
