/- Parts of the proof, joined: HeF HfA HfB HfC. -/
import Derived.Test.YtpgfhbkggchliaaQp
import Derived.Test.YtpgfhbkggchliaaQa
/- The walks of chapter 06 as the frames take them. -/
namespace Go.Proofs.Ytpgfhbkggchliaa
open Go.RowKit
theorem diffs_fr (W : World) (h : HdV) (r : HdR W (Old W) h) (_ : HdI h) (a : Int) (_ : I64 a) (b : Int) (_ : I64 b) :
    Calls Try.prog 5 #[hdV h, .int .i64 a, .int .i64 b] W fun e w' => e = .returned (.bool true) ∧ Below W.heap.size W w' :=
  diffs_walk (Old W) h a b W r
theorem snaps_fr (W : World) (h : HdV) (r : HdR W (Old W) h) (_ : HdI h) (a : Int) (_ : I64 a) :
    Calls Try.prog 7 #[hdV h, .int .i64 a] W fun e w' => e = .returned (.bool true) ∧ Below W.heap.size W w' :=
  snaps_walk (Old W) h a W r
theorem checks_fr (W : World) (h : HdV) (r : HdR W (Old W) h) (_ : HdI h) (a : Int) (_ : I64 a) (b : Int) (_ : I64 b) :
    Calls Try.prog 3 #[hdV h, .int .i64 a, .int .i64 b] W fun e w' => e = .returned (.bool true) ∧ Below W.heap.size W w' :=
  checks_walk (Old W) h a b W r
theorem packs_fr (W : World) (h : HdV) (r : HdR W (Old W) h) (_ : HdI h) (A : Option Addr) (b : List UInt8) (c : Nat) (rb : RdB W (Old W) A b) (l : b.length ≤ c) (m : c ≤ 9223372036854775807) (_ : A = none → c = 0) :
    Calls Try.prog 4 #[hdV h, .slice A b.length c] W fun e w' => e = .returned (.bool true) ∧ Below W.heap.size W w' :=
  packs_walk (Old W) (Old W) h A b c W r rb l m
end Go.Proofs.Ytpgfhbkggchliaa

/- A snapshot that is made differs from now in nothing; dropped again, it leaves what was there: plain. -/
namespace Go.Proofs.Ytpgfhbkggchliaa
open Go.RowKit
set_option linter.unusedVariables false

theorem freshF_bd (m : List Int) (k : Nat) : 0 ≤ freshF m k ∧ freshF m k ≤ 2 := by have := gN_bd m k; unfold freshF; split <;> omega
theorem mergeF_bd (o m : List Int) (k : Nat) : 0 ≤ mergeF o m k ∧ mergeF o m k ≤ 2 := by have := gN_bd m k; unfold mergeF; split <;> omega
theorem freshF_far (m : List Int) (k : Nat) (h : 512 ≤ k) : freshF m k = 0 := by unfold freshF; rw [gN_far m k (.inr h)]; rfl
theorem mergeF_far (o m : List Int) (k : Nat) (h : 512 ≤ k) : mergeF o m k = 0 := by unfold mergeF; rw [gN_far m k (.inr h)]; rfl
theorem gN_freshO (m : List Int) (k : Nat) : gN (freshO m) k = freshF m k := by
  unfold freshO
  rw [gN_rowF _ fun k _ => freshF_bd m k]
  split
  · rfl
  · exact (freshF_far m k (by omega)).symm
theorem gN_mergeO (o m : List Int) (k : Nat) : gN (mergeO o m) k = mergeF o m k := by
  unfold mergeO
  rw [gN_rowF _ fun k _ => mergeF_bd o m k]
  split
  · rfl
  · exact (mergeF_far o m k (by omega)).symm
theorem rowO_rowF (f : Nat → Int) (hf : ∀ k, k < 512 → 0 ≤ f k ∧ f k ≤ 2) : rowO (rowF f) = rowF f := by
  unfold rowO
  exact rowF_congr fun k hk => by rw [gN_rowF f hf, if_pos hk]
theorem may_rowF (f : Nat → Int) (hf : ∀ k, k < 512 → 0 ≤ f k ∧ f k ≤ 2) : mayO (rowF f) = true := by rw [← rowO_rowF f hf]; exact may_row _
theorem may_fresh (m : List Int) : mayO (freshO m) = true := may_rowF _ fun k _ => freshF_bd m k
theorem may_merge (o m : List Int) : mayO (mergeO o m) = true := may_rowF _ fun k _ => mergeF_bd o m k
theorem len_may {m : List Int} (h : mayO m = true) : lastN (gN m) 512 = m.length := by rw [← rowO_length, row_may m h]
theorem fresh_len {m : List Int} (h : mayO m = true) : (freshO m).length = m.length := by unfold freshO; rw [rowF_length, lastN_freshF, len_may h]
theorem merge_len (o : List Int) {m : List Int} (h : mayO m = true) : (mergeO o m).length = m.length := by unfold mergeO; rw [rowF_length, lastN_mergeF, len_may h]
theorem merge_fresh {m : List Int} (h : mayO m = true) : mergeO m (freshO m) = m := by
  have e : rowO m = m := row_may m h
  conv => rhs; rw [← e]
  unfold mergeO rowO
  refine rowF_congr fun k hk => ?_
  unfold mergeF
  rw [gN_freshO]
  unfold freshF
  have := gN_bd m k
  split <;> split at * <;> omega
theorem fresh_none (m : List Int) : changedO m [freshO m] = [] := by
  unfold changedO
  rw [List.filter_eq_nil_iff.2, List.map_nil]
  intro i _
  unfold diffO
  simp only [List.any_cons, List.any_nil, Bool.or_false, gN_freshO]
  unfold freshF
  have := gN_bd m i
  split
  · rename_i h; rw [h]; decide
  · rename_i h
    rw [decide_eq_false h]
    simp
theorem sized_same {u n o s : Int} {a b : List Int} (h : sizedO u n o s a = true) (hb : mayO b = true) (hl : b.length = a.length) : sizedO u n o s b = true := by
  unfold sizedO at h ⊢
  simp only [Bool.and_eq_true, decide_eq_true_eq] at h ⊢
  exact ⟨h.1, hb, by rw [hl]; exact h.2.2⟩
theorem snaps_more {u n o last last' : Int} (hl : last ≤ last') : ∀ (S : List (Int × Int × List Int)) (a : Int), snapsO u n o last a S = true → snapsO u n o last' a S = true
  | [], _, _ => rfl
  | x :: S, a, h => by
    unfold snapsO at h ⊢
    simp only [Bool.and_eq_true, decide_eq_true_eq] at h ⊢
    exact ⟨h.1, by omega, h.2.2.1, snaps_more hl S x.1 h.2.2.2⟩
theorem snaps_push {u n o last : Int} {x : Int × Int × List Int} (hx : sizedO u n o x.2.1 x.2.2 = true) (hl : x.1 ≤ last) : ∀ (S : List (Int × Int × List Int)) (a : Int), snapsO u n o last a S = true → a < x.1 → (∀ s ∈ S, s.1 < x.1) → snapsO u n o last a (S ++ [x]) = true
  | [], a, _, ha, _ => by
    show snapsO u n o last a [x] = true
    unfold snapsO
    simp only [Bool.and_eq_true, decide_eq_true_eq]
    exact ⟨ha, hl, hx, rfl⟩
  | y :: S, a, h, ha, hs => by
    rw [List.cons_append]
    unfold snapsO at h ⊢
    simp only [Bool.and_eq_true, decide_eq_true_eq] at h ⊢
    exact ⟨h.1, h.2.1, h.2.2.1, snaps_push hx hl S y.1 h.2.2.2 (hs y (List.mem_cons_self ..)) fun s hs' => hs s (List.mem_cons_of_mem _ hs')⟩
theorem findAt_new (id : Int) : ∀ (l : List Int) (k : Nat), (∀ z ∈ l, z ≠ id) → findAt (l ++ [id]) id k = ((k + l.length : Nat) : Int)
  | [], k, _ => by simp [findAt]
  | z :: l, k, h => by
    rw [List.cons_append, findAt, if_neg (h z (List.mem_cons_self ..)), findAt_new id l (k + 1) fun y hy => h y (List.mem_cons_of_mem _ hy)]
    simp only [List.length_cons]
    congr 1
    omega
/-- The head with a snapshot more. -/
def snapG (p : PH) : PH := { p with last := p.last + 1, S := p.S ++ [(p.last + 1, p.size, p.m)], m := freshO p.m }
theorem snapP_ok {p : PH} (h : mayP p = true) (h4 : ¬ (4 ≤ p.S.length ∨ 100 ≤ p.last)) : snapP p = (snapG p, p.last + 1, 0) := by
  unfold snapP
  rw [if_pos h, if_neg h4]
  rfl
theorem mayP_mk {p : PH} (h1 : layO p.u p.n p.o = true) (h2 : sizedO p.u p.n p.o p.size p.m = true) (h3 : p.S.length ≤ 4) (h4 : 0 ≤ p.last) (h5 : p.last ≤ 100) (h6 : 0 ≤ p.seq) (h7 : p.seq ≤ 1099511627776) (h8 : snapsO p.u p.n p.o p.last 0 p.S = true) : mayP p = true := by
  unfold mayP
  simp only [Bool.and_eq_true, decide_eq_true_eq]
  exact ⟨h1, h2, h3, h4, h5, h6, h7, h8⟩
theorem mayP_of {p : PH} (h : mayP p = true) : layO p.u p.n p.o = true ∧ sizedO p.u p.n p.o p.size p.m = true ∧ p.S.length ≤ 4 ∧ 0 ≤ p.last ∧ p.last ≤ 100 ∧ 0 ≤ p.seq ∧ p.seq ≤ 1099511627776 ∧ snapsO p.u p.n p.o p.last 0 p.S = true := by
  unfold mayP at h
  simp only [Bool.and_eq_true, decide_eq_true_eq] at h
  exact h
theorem snapG_may {p : PH} (h : mayP p = true) (h4 : ¬ (4 ≤ p.S.length ∨ 100 ≤ p.last)) : mayP (snapG p) = true := by
  obtain ⟨a1, a2, a3, a4, a5, a6, a7, a8⟩ := mayP_of h
  have hm := (sized_bd a2).2.2
  refine mayP_mk (p := snapG p) a1 (sized_same a2 (may_fresh _) (fresh_len hm)) ?_ ?_ ?_ a6 a7 ?_
  · show (p.S ++ [(p.last + 1, p.size, p.m)]).length ≤ 4
    simp
    omega
  · show 0 ≤ p.last + 1
    omega
  · show p.last + 1 ≤ 100
    omega
  · refine snaps_push (last := p.last + 1) (x := (p.last + 1, p.size, p.m)) a2 (Int.le_refl _) p.S 0 (snaps_more (last' := p.last + 1) (by omega) _ _ a8) (by show (0 : Int) < p.last + 1; omega) fun s hs => ?_
    have := (snaps_bd _ _ a8 s hs).2.1
    show s.1 < p.last + 1
    omega
theorem snapG_find {p : PH} (h : mayP p = true) : findO (idsP (snapG p).S) (p.last + 1) = (p.S.length : Int) := by
  obtain ⟨_, _, _, _, _, _, _, a8⟩ := mayP_of h
  have e : idsP (snapG p).S = idsP p.S ++ [p.last + 1] := by
    show idsP (p.S ++ [_]) = _
    unfold idsP
    rw [List.map_append]
    rfl
  rw [e]
  unfold findO
  rw [findAt_new]
  · unfold idsP
    simp
  · intro z hz
    obtain ⟨s, hs, rfl⟩ := List.mem_map.1 hz
    have := (snaps_bd _ _ a8 s hs).2.1
    omega
theorem snapG_diff {p : PH} (h : mayP p = true) (h4 : ¬ (4 ≤ p.S.length ∨ 100 ≤ p.last)) : diffP (snapG p) (p.last + 1) 0 = ([], 0) := by
  unfold diffP
  rw [if_pos (snapG_may h h4), snapG_find h, if_neg (by omega), if_pos rfl]
  have e1 : mapAt (snapG p).S (p.S.length : Int).toNat = p.m := by
    show ((p.S ++ [(p.last + 1, p.size, p.m)]).getD (p.S.length : Int).toNat (0, 0, [])).2.2 = p.m
    rw [Int.toNat_natCast, List.getD_eq_getElem?_getD, List.getElem?_append_right (Nat.le_refl _), Nat.sub_self]
    rfl
  have e2 : restM (snapG p).S (p.S.length : Int).toNat (snapG p).S.length = [] := by
    show (((p.S ++ [(p.last + 1, p.size, p.m)]).take _).drop _).map _ = []
    rw [List.drop_of_length_le (by rw [List.length_take, Int.toNat_natCast]; simp; omega)]
    rfl
  rw [e1, e2]
  show (changedO p.m [freshO p.m], (0 : Int)) = _
  rw [fresh_none]
theorem snapG_drop {p : PH} (h : mayP p = true) (h4 : ¬ (4 ≤ p.S.length ∨ 100 ≤ p.last)) : dropP (snapG p) (p.last + 1) = ({ p with last := p.last + 1 }, 0) := by
  obtain ⟨_, a2, _⟩ := mayP_of h
  unfold dropP
  rw [if_pos (snapG_may h h4), snapG_find h, if_neg (by omega)]
  have e0 : (snapG p).S.eraseIdx p.S.length = p.S := by
    show (p.S ++ [(p.last + 1, p.size, p.m)]).eraseIdx p.S.length = p.S
    rw [List.eraseIdx_append_of_length_le (Nat.le_refl _), Nat.sub_self]
    simp
  have e1 : mapAt (snapG p).S p.S.length = p.m := by
    show ((p.S ++ [(p.last + 1, p.size, p.m)]).getD p.S.length (0, 0, [])).2.2 = p.m
    rw [List.getD_eq_getElem?_getD, List.getElem?_append_right (Nat.le_refl _), Nat.sub_self]
    rfl
  rw [Int.toNat_natCast]
  unfold dropAt
  rw [e0, if_neg (Nat.lt_irrefl _), e1]
  show (({ snapG p with S := p.S, m := mergeO p.m (freshO p.m) } : PH), (0 : Int)) = _
  rw [merge_fresh (sized_bd a2).2.2]
  rfl
theorem snapG_new (p : PH) : newO (idsP (snapG p).S) = p.last + 1 := by
  show (idsP (p.S ++ [(p.last + 1, p.size, p.m)])).getLastD 0 = _
  unfold idsP
  rw [List.map_append]
  simp
theorem snapG_back {p : PH} (h : mayP p = true) (h4 : ¬ (4 ≤ p.S.length ∨ 100 ≤ p.last)) : mayP { p with last := p.last + 1 } = true := by
  obtain ⟨a1, a2, a3, a4, a5, a6, a7, a8⟩ := mayP_of h
  exact mayP_mk (p := { p with last := p.last + 1 }) a1 a2 a3 (by show 0 ≤ p.last + 1; omega) (by show p.last + 1 ≤ 100; omega) a6 a7 (snaps_more (last' := p.last + 1) (by omega) _ _ a8)
end Go.Proofs.Ytpgfhbkggchliaa

/- The law HeadFresh: the walk. -/
namespace Go.Proofs.Ytpgfhbkggchliaa
open Go.RowKit
set_option linter.unusedVariables false

theorem HdR.mod {w w' : World} {D X : Nat → Prop} {h : HdV} (k : HdR w D h) (m : Mod X w w') (hX : ∀ b, D b → ¬ X b) : HdR w' D h :=
  ⟨Rd.mod k.1 m hX, k.2.1, k.2.2.1, k.2.2.2.1.mod m hX, k.2.2.2.2.1, k.2.2.2.2.2.1, fun s hs => (k.2.2.2.2.2.2 s hs).mod m hX⟩
theorem hdA_last (h : HdV) (z : Int) : (hdA h).setIfInBounds 6 (.int .i64 z) = hdA { h with last := z } := rfl
theorem hdA_at (h : HdV) : (hdA h)[6]? = some (.int .i64 h.last) := rfl
theorem HdX.old {w : World} {q : Nat} {cs : Array Value} {h : HdV} (k : HdX w q cs h) : cs = hdA h := by have := k.v; unfold hdV at this; injection this with this; exact this.symm

set_option maxHeartbeats 8000000 in
set_option maxRecDepth 100000 in
theorem fresh_walk0 (h : HdV) (w : World) (hr : HdR w (· < w.heap.size) h) :
    Calls Try.prog 8 #[hdV h] w fun e w' => e = .returned (.bool true) ∧ Below w.heap.size w w' := by
  have bb := below_new w (.cells (hdA h) 27)
  have hB := Blk.new w 27 (hdA h)
  have hr := hr.below bb
  have hv : hdV h = .agg (hdA h) := rfl
  have hfw := fun (W : World) (hr : HdR W (· < w.heap.size) h) => few_any _ h W hr
  have hc1 := fun (W : World) (hr : HdR W (· < w.heap.size) h) => Snap_any6 _ h W hr
  have hck := fun (W : World) (hr : HdR W (· < w.heap.size) h) => Check_any6 _ h W hr
  have hmp := may_p h
  rw [hv] at hfw hc1 hck ⊢
  obtain ⟨p, hp⟩ : ∃ p, p = h.p := ⟨_, rfl⟩
  rw [← hp] at hc1 hmp
  have e6 := hdA_at h
  have hv' := hv
  generalize hA : hdA h = cs at *
  have h8 : cs.size = 8 := by rw [← hA]; rfl
  clear hA hv
  go_enter Try.func8, Try.ntmps8
  go_wp2_with fail
  refine (awake_any6 _).mono ?_
  rintro e w1 ⟨rfl, b1⟩
  have hB := hB.below b1
  have hr := hr.below b1
  have bb := bb.thenB' b1
  clear b1
  go_wp2_with first
    | (with_reducible show wpList _ _ _ _ _ _
       refine wpList_load_row rfl 27 (.tmp 1) rfl w.heap.size rfl 27 cs (0, 0) _ hB Try.underlying27 rfl (by rw [h8]; exact infoH) ?_)
  refine (hfw _ hr).mono ?_
  clear hfw
  rintro e w2 ⟨rfl, b2⟩
  have hB := hB.below b2
  have hr := hr.below b2
  have bb := bb.thenB' b2
  clear b2
  cases hf : fewO h
  focus
    go_wp2_with fail
    go_ret
    exact ⟨rfl, bb⟩
  go_wp2_with first
    | (with_reducible show wpList _ _ _ _ _ _
       refine wpList_load_row rfl 27 (.tmp 1) rfl w.heap.size rfl 27 cs (0, 0) _ hB Try.underlying27 rfl (by rw [h8]; exact infoH) ?_)
  rw [hmp] at hck
  cases hmay : mayP p
  focus
    have E : snapP p = (zeroP, 0, 60) := by unfold snapP; rw [hmay]; rfl
    rw [hmay, show eno false 60 = 60 from rfl] at hck
    rw [E] at hc1
    clear E hmay hmp hp
    refine (hc1 _ hr).mono ?_
    rintro e x1 ⟨h1, rfl, hp1, hr1, b1⟩
    have hB := hB.below b1
    have hr := hr.below b1
    have bb := bb.thenB' b1
    rw [show hdV h1 = .agg (hdA h1) from rfl]
    have q1 := hd8 h1
    have a1 := hdA_ok h1
    generalize hA1 : hdA h1 = c1 at *
    have hz1 := Blk.new x1 27 z8
    unfold z8 at hz1
    go_wp2_with first
      | (with_reducible show wpList _ _ _ _ _ _
         refine wpList_rowB rfl 27 (.tmp 5) (.tmp 22) rfl x1.heap.size 27 _ c1 rfl rfl hz1 (by rw [q1]; exact infoH) (by rw [q1]; rfl) a1 ?_
         intro y1 hy1 m1
         obtain ⟨K1, n1⟩ := HdX.new hr1 hy1 hA1 m1
         have hB := hB.below n1
         have hr := hr.below n1
         have bb := bb.thenB' n1)
      | (with_reducible show wpList _ _ _ _ _ _
         refine wpList_load_row rfl 27 (.tmp 1) rfl w.heap.size rfl 27 cs (0, 0) _ hB Try.underlying27 rfl (by rw [h8]; exact infoH) ?_)
    refine (hck _ hr).mono ?_
    rintro e x2 ⟨rfl, b2⟩
    go_wp2_with fail
    go_ret
    exact ⟨rfl, bb.thenB' b2⟩
  rw [hmay, show eno true 60 = 0 from rfl] at hck
  by_cases h4 : 4 ≤ p.S.length ∨ 100 ≤ p.last
  focus
    have E : snapP p = (zeroP, 0, 110) := by unfold snapP; rw [if_pos hmay, if_pos h4]
    rw [E] at hc1
    clear E hmay hmp hp h4
    refine (hc1 _ hr).mono ?_
    rintro e x1 ⟨h1, rfl, hp1, hr1, b1⟩
    have hB := hB.below b1
    have hr := hr.below b1
    have bb := bb.thenB' b1
    rw [show hdV h1 = .agg (hdA h1) from rfl]
    have q1 := hd8 h1
    have a1 := hdA_ok h1
    generalize hA1 : hdA h1 = c1 at *
    have hz1 := Blk.new x1 27 z8
    unfold z8 at hz1
    go_wp2_with first
      | (with_reducible show wpList _ _ _ _ _ _
         refine wpList_rowB rfl 27 (.tmp 5) (.tmp 22) rfl x1.heap.size 27 _ c1 rfl rfl hz1 (by rw [q1]; exact infoH) (by rw [q1]; rfl) a1 ?_
         intro y1 hy1 m1
         obtain ⟨K1, n1⟩ := HdX.new hr1 hy1 hA1 m1
         have hB := hB.below n1
         have hr := hr.below n1
         have bb := bb.thenB' n1)
      | (with_reducible show wpList _ _ _ _ _ _
         refine wpList_load_row rfl 27 (.tmp 1) rfl w.heap.size rfl 27 cs (0, 0) _ hB Try.underlying27 rfl (by rw [h8]; exact infoH) ?_)
    refine (hck _ hr).mono ?_
    rintro e x2 ⟨rfl, b2⟩
    go_wp2_with fail
    go_ret
    exact ⟨rfl, bb.thenB' b2⟩
  rw [snapP_ok hmay h4] at hc1
  have F1 := Lib.hid (snapG_diff hmay h4)
  have F2 := Lib.hid (snapG_drop hmay h4)
  have F3 := Lib.hid (snapG_new p)
  have F4 := Lib.hid (snapG_may hmay h4)
  have F5 := Lib.hid (snapG_back hmay h4)
  have F6 := Lib.hid hp
  have F7 := Lib.hid (may_big hmay)
  have F8 : Hid (h.last = p.last) := by unfold Hid; rw [hp]; rfl
  have F9 : Hid (mayH h = mayP p) := hmp
  clear hmay h4 hmp hp
  obtain ⟨id, hid⟩ : ∃ id, id = p.last + 1 := ⟨_, rfl⟩
  rw [← hid] at hc1 F1 F2 F3 F5
  clear hid
  refine (hc1 _ hr).mono ?_
  clear hc1
  rintro e x1 ⟨h1, rfl, hp1, hr1, b1⟩
  have hB := hB.below b1
  have hr := hr.below b1
  have bb := bb.thenB' b1
  rw [show hdV h1 = .agg (hdA h1) from rfl]
  have q1 := hd8 h1
  have a1 := hdA_ok h1
  generalize hA1 : hdA h1 = c1 at *
  have hz1 := Blk.new x1 27 z8
  unfold z8 at hz1
  go_wp2_with first
    | (with_reducible show wpList _ _ _ _ _ _
       refine wpList_rowB rfl 27 (.tmp 5) (.tmp 22) rfl x1.heap.size 27 _ c1 rfl rfl hz1 (by rw [q1]; exact infoH) (by rw [q1]; rfl) a1 ?_
       intro y1 hy1 m1
       obtain ⟨K1, n1⟩ := HdX.new hr1 hy1 hA1 m1
       have hB := hB.below n1
       have hr := hr.below n1
       have bb := bb.thenB' n1)
    | (with_reducible show wpList _ _ _ _ _ _
       refine wpList_load_row rfl 27 (.tmp 5) rfl x1.heap.size rfl 27 c1 (0, 0) _ K1.B Try.underlying27 rfl (by rw [q1]; exact infoH) ?_)
  have hdf := fun (W : World) (K : HdX W x1.heap.size c1 h1) => Diff_any6 _ h1 id 0 W K.rd
  have hdr := fun (W : World) (K : HdX W x1.heap.size c1 h1) => Drop_any6 _ h1 id W K.rd
  have hnw := fun (W : World) (K : HdX W x1.heap.size c1 h1) => Newest_any _ h1 W K.rd
  have hcg := fun (W : World) (K : HdX W x1.heap.size c1 h1) => Check_any6 _ h1 W K.rd
  have hids : idsO h1.S = idsP (snapG p).S := by rw [ids_p]; show idsP h1.p.S = _; rw [hp1]
  rw [hp1, F1.out] at hdf
  rw [hp1, F2.out] at hdr
  rw [hids, F3.out] at hnw
  rw [may_p, hp1, F4.out, show eno true 60 = 0 from rfl] at hcg
  rw [show hdV h1 = .agg c1 from K1.v] at hdf hdr hnw hcg
  refine (hdf _ K1).mono ?_
  clear hdf
  rintro e x2 ⟨v2, rfl, o2, b2⟩
  have hB := hB.below b2
  have hr := hr.below b2
  have bb := bb.thenB' b2
  have K1 := K1.below b2
  obtain ⟨A2, k2, rfl, l2, kk2⟩ := OwnI.form o2
  simp only [List.length_nil]
  go_wp2_with first
    | (with_reducible show wpList _ _ _ _ _ _
       refine wpList_load_row rfl 27 (.tmp 5) rfl x1.heap.size rfl 27 c1 (0, 0) _ K1.B Try.underlying27 rfl (by rw [q1]; exact infoH) ?_)
  refine (hdr _ K1).mono ?_
  clear hdr
  rintro e x3 ⟨h3, rfl, hp3, hr3, b3⟩
  have hB := hB.below b3
  have hr := hr.below b3
  have bb := bb.thenB' b3
  have K1 := K1.below b3
  have ho3 := hr3.old
  have hx3 : w.heap.size < x3.heap.size := hB.lt
  rw [show hdV h3 = .agg (hdA h3) from rfl]
  have q3 := hd8 h3
  have a3 := hdA_ok h3
  generalize hA3 : hdA h3 = c3 at *
  have hz3 := Blk.new x3 27 z8
  unfold z8 at hz3
  go_wp2_with first
    | (with_reducible show wpList _ _ _ _ _ _
       refine wpList_rowB rfl 27 (.tmp 10) (.tmp 43) rfl x3.heap.size 27 _ c3 rfl rfl hz3 (by rw [q3]; exact infoH) (by rw [q3]; rfl) a3 ?_
       intro y3 hy3 m3
       obtain ⟨K3, n3⟩ := HdX.new hr3 hy3 hA3 m3
       have hB := hB.below n3
       have hr := hr.below n3
       have bb := bb.thenB' n3
       have K1 := K1.below n3
       have ho3 := ho3.below n3)
    | (with_reducible show wpList _ _ _ _ _ _
       refine wpList_load_rowG rfl rfl 27 (.tmp 5) rfl x1.heap.size rfl 27 c1 K1.B _ Try.underlying27 (by rw [q1]; exact infoH) ?_)
  have hcd := fun (W : World) (K : HdX W x3.heap.size c3 h3) => Check_any6 _ h3 W K.rd
  rw [may_p, hp3, F5.out, show eno true 60 = 0 from rfl] at hcd
  rw [show hdV h3 = .agg c3 from K3.v] at hcd
  have e3 : c3[6]? = some (.int .i64 id) := by
    rw [K3.old, hdA_at]
    show some (Value.int .i64 h3.p.last) = _
    rw [hp3]
  refine (hnw _ K1).mono ?_
  clear hnw
  rintro e x4 ⟨rfl, b4⟩
  have hB := hB.below b4
  have hr := hr.below b4
  have bb := bb.thenB' b4
  have K1 := K1.below b4
  have K3 := K3.below b4
  have ho3 := ho3.below b4
  go_wp2_with first
    | (with_reducible show wpList _ _ _ _ _ _
       refine wpList_load_rowG rfl rfl 27 (.tmp 5) rfl x1.heap.size rfl 27 c1 K1.B _ Try.underlying27 (by rw [q1]; exact infoH) ?_)
  refine (hcg _ K1).mono ?_
  clear hcg
  rintro e x5 ⟨rfl, b5⟩
  have hB := hB.below b5
  have hr := hr.below b5
  have bb := bb.thenB' b5
  have K1 := K1.below b5
  have K3 := K3.below b5
  have ho3 := ho3.below b5
  go_wp2_with first
    | (with_reducible show wpList _ _ _ _ _ _
       refine wpList_load_rowG rfl rfl 27 (.tmp 10) rfl x3.heap.size rfl 27 c3 K3.B _ Try.underlying27 (by rw [q3]; exact infoH) ?_)
  refine (hcd _ K3).mono ?_
  clear hcd
  rintro e x6 ⟨rfl, b6⟩
  have hB := hB.below b6
  have hr := hr.below b6
  have bb := bb.thenB' b6
  have K1 := K1.below b6
  have K3 := K3.below b6
  have ho3 := ho3.below b6
  have d6 := K3.B.cell 6
  rw [e3] at d6
  have g6 := hB.cell 6
  rw [e6] at g6
  have q7 : (c3.setIfInBounds 6 (.int .i64 h.last)).size = 8 := by rw [Array.size_setIfInBounds]; exact q3
  go_wp2_with first
    | (with_reducible show wpList _ _ _ _ _ _
       refine wpList_fldB rfl 3 (.tmp 80) (.tmp 79) rfl x3.heap.size 6 27 c3 (.int .i64 h.last) rfl rfl rfl infoI1 K3.B 8 q3 (by decide) ?_
       intro y7 hy7 m7
       have hB7 := hB.mod m7 (by omega))
    | (with_reducible show wpList _ _ _ _ _ _
       refine wpList_load_row rfl 27 (.tmp 10) rfl x3.heap.size rfl 27 _ (0, 0) _ hy7 Try.underlying27 rfl (by rw [q7]; exact infoH) ?_)
    | (with_reducible show wpList _ _ _ _ _ _
       refine wpList_load_row rfl 27 (.tmp 1) rfl w.heap.size rfl 27 cs (0, 0) _ hB7 Try.underlying27 rfl (by rw [h8]; exact infoH) ?_)
  have hr7 := hr.mod m7 (fun b hb e => by omega)
  have ho7 : HdR y7 (fun b => b < x3.heap.size) { h3 with last := h.last } := ho3.mod m7 (fun b hb e => by omega)
  have hp7 : (({ h3 with last := h.last } : HdV)).p = h.p := by
    show ({ h3.p with last := h.last } : PH) = h.p
    rw [hp3, F8.out]
    exact F6.out
  have hs := rSame_yes _ _ _ h y7 ho7 hr7 (eqH_p hp7) (BigP.hd (by rw [hp7, ← F6.out]; exact F7.out))
  rw [hv', show hdV { h3 with last := h.last } = .agg (c3.setIfInBounds 6 (.int .i64 h.last)) from by rw [K3.old, hdA_last]; rfl] at hs
  refine hs.mono ?_
  rintro e x8 ⟨rfl, b8⟩
  go_wp2_with fail
  go_ret
  exact ⟨rfl, (bb.thenM m7 bb.size (fun i hi e => by omega)).thenB' b8⟩
theorem fresh_walk (D : Nat → Prop) (h : HdV) (w : World) (hr : HdR w D h) :
    Calls Try.prog 8 #[hdV h] w fun e w' => e = .returned (.bool true) ∧ Below w.heap.size w w' := fresh_walk0 h w hr.old
theorem fresh_fr (W : World) (h : HdV) (r : HdR W (Old W) h) (_ : HdI h) :
    Calls Try.prog 8 #[hdV h] W fun e w' => e = .returned (.bool true) ∧ Below W.heap.size W w' := fresh_walk (Old W) h W r
end Go.Proofs.Ytpgfhbkggchliaa

/- What a dropped snapshot knew is missed by no Diff over it: plain. -/
namespace Go.Proofs.Ytpgfhbkggchliaa
open Go.RowKit
set_option linter.unusedVariables false

theorem snaps_asc {u n o last : Int} : ∀ (S : List (Int × Int × List Int)) (a : Int), snapsO u n o last a S = true → (∀ s ∈ S, a < s.1) ∧ S.Pairwise (fun x y => x.1 < y.1)
  | [], _, _ => ⟨fun s hs => absurd hs (by simp), List.Pairwise.nil⟩
  | x :: S, a, h => by
    unfold snapsO at h
    simp only [Bool.and_eq_true, decide_eq_true_eq] at h
    obtain ⟨h1, h2, h3, h4⟩ := h
    obtain ⟨i1, i2⟩ := snaps_asc S x.1 h4
    refine ⟨fun s hs => ?_, List.Pairwise.cons (fun y hy => i1 y hy) i2⟩
    rcases List.mem_cons.1 hs with rfl | hs
    · exact h1
    · have := i1 s hs; omega
theorem snaps_low {u n o last a a' : Int} (h : a' ≤ a) : ∀ (S : List (Int × Int × List Int)), snapsO u n o last a S = true → snapsO u n o last a' S = true
  | [], _ => rfl
  | x :: S, hS => by
    unfold snapsO at hS ⊢
    simp only [Bool.and_eq_true, decide_eq_true_eq] at hS ⊢
    exact ⟨by omega, hS.2⟩
theorem snaps_erase {u n o last : Int} : ∀ (S : List (Int × Int × List Int)) (k : Nat) (a : Int), snapsO u n o last a S = true → snapsO u n o last a (S.eraseIdx k) = true
  | [], _, _, _ => by simp [snapsO]
  | x :: S, 0, a, h => by
    unfold snapsO at h
    simp only [Bool.and_eq_true, decide_eq_true_eq] at h
    exact snaps_low (Int.le_of_lt h.1) _ h.2.2.2
  | x :: S, k + 1, a, h => by
    rw [List.eraseIdx_cons_succ]
    unfold snapsO at h ⊢
    simp only [Bool.and_eq_true, decide_eq_true_eq] at h ⊢
    exact ⟨h.1, h.2.1, h.2.2.1, snaps_erase S k x.1 h.2.2.2⟩
theorem snaps_set {u n o last : Int} (F : List Int → List Int) (hF : ∀ s m, sizedO u n o s m = true → sizedO u n o s (F m) = true) : ∀ (S : List (Int × Int × List Int)) (k : Nat) (a : Int), snapsO u n o last a S = true →
    snapsO u n o last a (S.set k ((S.getD k (0, 0, [])).1, (S.getD k (0, 0, [])).2.1, F (S.getD k (0, 0, [])).2.2)) = true
  | [], _, _, _ => by simp [snapsO]
  | x :: S, 0, a, h => by
    rw [List.set_cons_zero]
    unfold snapsO at h ⊢
    simp only [Bool.and_eq_true, decide_eq_true_eq] at h ⊢
    exact ⟨h.1, h.2.1, hF _ _ h.2.2.1, h.2.2.2⟩
  | x :: S, k + 1, a, h => by
    rw [List.set_cons_succ, List.getD_cons_succ]
    unfold snapsO at h ⊢
    simp only [Bool.and_eq_true, decide_eq_true_eq] at h ⊢
    exact ⟨h.1, h.2.1, h.2.2.1, snaps_set F hF S k x.1 h.2.2.2⟩
theorem sized_merge {u n o s : Int} {m : List Int} (l : List Int) (h : sizedO u n o s m = true) : sizedO u n o s (mergeO l m) = true := sized_same h (may_merge _ _) (merge_len l (sized_bd h).2.2)
theorem drop_may {p : PH} (h : mayP p = true) (k : Nat) : mayP (dropAt p k) = true := by
  obtain ⟨a1, a2, a3, a4, a5, a6, a7, a8⟩ := mayP_of h
  have hl : (p.S.eraseIdx k).length ≤ 4 := Nat.le_trans (List.length_eraseIdx_le ..) a3
  unfold dropAt
  split
  · exact mayP_mk (p := { p with S := _ }) a1 a2 (by show (List.set ..).length ≤ 4; rw [List.length_set]; exact hl) a4 a5 a6 a7 (snaps_set (mergeO (mapAt p.S k)) (fun s m hm => sized_merge _ hm) _ k 0 (snaps_erase _ k 0 a8))
  · exact mayP_mk (p := { p with S := _, m := _ }) a1 (sized_merge _ a2) hl a4 a5 a6 a7 (snaps_erase _ k 0 a8)

theorem findAt_app (id : Int) : ∀ (x y : List Int) (n : Nat), (findAt x id n ≠ -1 → findAt (x ++ y) id n = findAt x id n) ∧ (findAt x id n = -1 → findAt (x ++ y) id n = findAt y id (n + x.length))
  | [], y, n => ⟨fun h => absurd rfl h, fun _ => rfl⟩
  | z :: x, y, n => by
    have := findAt_app id x y (n + 1)
    rw [List.cons_append, List.length_cons, show n + (x.length + 1) = n + 1 + x.length by omega]
    by_cases hz : z = id
    · have e : ∀ l : List Int, findAt (z :: l) id n = (n : Int) := fun l => by simp [findAt, hz]
      rw [e, e]
      exact ⟨fun _ => rfl, fun h => by omega⟩
    · have e : ∀ l : List Int, findAt (z :: l) id n = findAt l id (n + 1) := fun l => by simp [findAt, hz]
      rw [e, e]
      exact this
theorem findAt_get (id : Int) : ∀ (l : List Int) (n : Nat) (k : Nat), findAt l id n = (k : Int) → n ≤ k ∧ l[k - n]? = some id
  | [], n, k, h => by simp [findAt] at h
  | z :: l, n, k, h => by
    unfold findAt at h
    split at h
    · rename_i hz
      have : n = k := by omega
      subst this
      exact ⟨Nat.le_refl _, by rw [Nat.sub_self]; simp [hz]⟩
    · obtain ⟨h1, h2⟩ := findAt_get id l (n + 1) k h
      refine ⟨by omega, ?_⟩
      rw [show k - n = (k - (n + 1)) + 1 by omega]
      simpa using h2
theorem find_erase {l : List Int} {id : Int} {a k : Nat} (h : findO l id = (a : Int)) (hk : a < k) : findO (l.eraseIdx k) id = (a : Int) := by
  unfold findO at h ⊢
  have e : l.take k ++ l.drop k = l := List.take_append_drop k l
  rw [← e] at h
  have h1 := findAt_app id (l.take k) (l.drop k) 0
  have h2 := findAt_app id (l.take k) (l.drop (k + 1)) 0
  rw [List.eraseIdx_eq_take_drop_succ]
  by_cases hf : findAt (l.take k) id 0 = -1
  · rw [h1.2 hf] at h
    have := (findAt_get id _ _ _ h).1
    rw [List.length_take] at this
    rcases Nat.lt_or_ge k l.length with hl | hl
    · omega
    · rw [List.drop_of_length_le hl] at h
      simp [findAt] at h
  · rw [h1.1 hf] at h
    rw [h2.1 hf, h]
theorem asc_lt {S : List (Int × Int × List Int)} (h : S.Pairwise (fun x y => x.1 < y.1)) {a k : Nat} (ha : a < S.length) (hk : k < S.length) (hlt : S[a].1 < S[k].1) : a < k := by
  rcases Nat.lt_trichotomy a k with h1 | h1 | h1
  · exact h1
  · subst h1; omega
  · have := List.pairwise_iff_getElem.1 h k a hk ha h1
    omega
theorem find_in {S : List (Int × Int × List Int)} {id : Int} {k : Nat} (h : findO (idsP S) id = (k : Int)) : ∃ hk : k < S.length, S[k].1 = id := by
  obtain ⟨_, h2⟩ := findAt_get id _ 0 k h
  rw [Nat.sub_zero] at h2
  unfold idsP at h2
  rw [List.getElem?_map] at h2
  obtain ⟨s, hs, e⟩ := Option.map_eq_some_iff.1 h2
  obtain ⟨hk, hs⟩ := List.getElem?_eq_some_iff.1 hs
  exact ⟨hk, by rw [hs]; exact e⟩

/-! ### the maps behind a snapshot -/
def mapsP (p : PH) : List (List Int) := p.S.map (fun s => s.2.2) ++ [p.m]
theorem rest_all (p : PH) (a : Nat) (ha : a < p.S.length) : restM p.S a p.S.length ++ [p.m] = (mapsP p).drop (a + 1) := by
  unfold restM mapsP
  rw [List.take_of_length_le (Nat.le_succ _), List.drop_append_of_le_length (by rw [List.length_map]; omega), List.map_drop]
theorem mapAt_maps (p : PH) (k : Nat) (hk : k < p.S.length) : mapAt p.S k = (mapsP p).getD k [] := by
  unfold mapAt mapsP
  rw [List.getD_eq_getElem?_getD, List.getD_eq_getElem?_getD, List.getElem?_append_left (by rw [List.length_map]; exact hk), List.getElem?_map, List.getElem?_eq_getElem hk]
  rfl
theorem maps_at {p : PH} {k : Nat} (hk : k < p.S.length) : (mapsP p)[k]? = some p.S[k].2.2 := by
  unfold mapsP
  rw [List.getElem?_append_left (by rw [List.length_map]; exact hk), List.getElem?_map, List.getElem?_eq_getElem hk]
  rfl
theorem maps_m (p : PH) : (mapsP p)[p.S.length]? = some p.m := by
  unfold mapsP
  rw [List.getElem?_append_right (by rw [List.length_map]; exact Nat.le_refl _), List.length_map, Nat.sub_self]
  rfl
theorem get_of {α : Type} {l : List α} {k : Nat} {x : α} (hk : k < l.length) (h : l[k]? = some x) : l[k] = x := by
  rw [List.getElem?_eq_getElem hk] at h
  exact Option.some.inj h
theorem maps_len (p : PH) : (mapsP p).length = p.S.length + 1 := by unfold mapsP; simp
theorem split2 {α : Type} (l : List α) (k : Nat) (h : k + 1 < l.length) : l = l.take k ++ l[k] :: l[k + 1] :: l.drop (k + 2) := by
  conv => lhs; rw [← List.take_append_drop k l]
  rw [List.drop_eq_getElem_cons (by omega), List.drop_eq_getElem_cons h]
theorem maps_drop (p : PH) (k : Nat) (hk : k < p.S.length) (h1 : k + 1 < (mapsP p).length) : mapsP (dropAt p k) = (mapsP p).take k ++ mergeO (mapAt p.S k) ((mapsP p)[k + 1]) :: (mapsP p).drop (k + 2) := by
  have hml : (p.S.map fun s => s.2.2).length = p.S.length := List.length_map ..
  have hel : (p.S.eraseIdx k).length = p.S.length - 1 := by rw [List.length_eraseIdx, if_pos hk]
  have ht : (mapsP p).take k = (p.S.map fun s => s.2.2).take k := by unfold mapsP; rw [List.take_append_of_le_length (by omega)]
  unfold dropAt
  split
  · rename_i hlt
    have hk1 : k + 1 < p.S.length := by omega
    have he : (p.S.eraseIdx k).getD k (0, 0, []) = p.S[k + 1] := by
      rw [List.getD_eq_getElem?_getD, List.getElem?_eraseIdx_of_ge (Nat.le_refl _), List.getElem?_eq_getElem hk1]; rfl
    have hm1 : mapAt (p.S.eraseIdx k) k = (mapsP p)[k + 1] := by
      unfold mapAt
      rw [he]
      exact (get_of h1 (maps_at hk1)).symm
    rw [hm1, he]
    show ((p.S.eraseIdx k).set k _).map (fun s => s.2.2) ++ [p.m] = _
    rw [List.map_set, List.eraseIdx_eq_take_drop_succ, List.map_append, List.map_take, List.map_drop, List.set_append, if_neg (by rw [List.length_take, hml]; omega), List.length_take, hml, Nat.min_eq_left (by omega), Nat.sub_self, List.drop_eq_getElem_cons (by omega : k + 1 < (p.S.map fun s => s.2.2).length), List.set_cons_zero, ht, List.append_assoc]
    unfold mapsP
    rw [List.drop_append_of_le_length (by omega)]
    rfl
  · rename_i hlt
    have hk1 : k + 1 = p.S.length := by omega
    show (p.S.eraseIdx k).map (fun s => s.2.2) ++ [mergeO (mapAt p.S k) p.m] = _
    have hm1 : (mapsP p)[k + 1] = p.m := get_of h1 (by rw [hk1]; exact maps_m p)
    rw [hm1, List.eraseIdx_eq_take_drop_succ, List.map_append, List.map_take, List.map_drop, ht, List.drop_of_length_le (by omega : (p.S.map fun s => s.2.2).length ≤ k + 1), List.append_nil, List.drop_of_length_le (by rw [maps_len]; omega : (mapsP p).length ≤ k + 2)]
theorem mem_changed (f : List Int) (R : List (List Int)) (z : Int) : z ∈ changedO f R ↔ ∃ i : Nat, z = (i : Int) ∧ i < 512 ∧ R.any (fun m => dd (gN m i) (gN f i)) = true := by
  unfold changedO
  constructor
  · intro h
    obtain ⟨i, hi, rfl⟩ := List.mem_map.1 h
    obtain ⟨h1, h2⟩ := List.mem_filter.1 hi
    exact ⟨i, rfl, List.mem_range.1 h1, h2⟩
  · rintro ⟨i, rfl, h1, h2⟩
    exact List.mem_map.2 ⟨i, List.mem_filter.2 ⟨List.mem_range.2 h1, h2⟩, rfl⟩
theorem tri {z : Int} (h : 0 ≤ z ∧ z ≤ 2) : z = 0 ∨ z = 1 ∨ z = 2 := by omega
theorem dd_merge : ∀ f l y : Int, (f = 0 ∨ f = 1 ∨ f = 2) → (l = 0 ∨ l = 1 ∨ l = 2) → (y = 0 ∨ y = 1 ∨ y = 2) →
    (dd (if y = 2 ∧ l = 1 then 1 else y) f = true → dd l f = true ∨ dd y f = true) ∧
    (dd (if y = 2 ∧ l = 1 then 1 else y) f = false → (dd l f = true ∨ dd y f = true) → (f ≠ 0 → l = 0) ∧ (f = 0 → y = 0)) := by
  rintro f l y (rfl | rfl | rfl) (rfl | rfl | rfl) (rfl | rfl | rfl) <;> decide
theorem dd_zero : ∀ y : Int, (y = 0 ∨ y = 1 ∨ y = 2) → dd y 0 = false → y = 0 := by
  rintro y (rfl | rfl | rfl) <;> decide

/-- The law. -/
structure Misses (p : PH) (fr gone : Int) (a k : Nat) : Prop where
  was : diffP p fr 0 = (changedO (mapAt p.S a) ((mapsP p).drop (a + 1)), 0)
  now : diffP (dropAt p k) fr 0 = (changedO (mapAt p.S a) ((mapsP (dropAt p k)).drop (a + 1)), 0)
  less : ∀ z ∈ changedO (mapAt p.S a) ((mapsP (dropAt p k)).drop (a + 1)), z ∈ changedO (mapAt p.S a) ((mapsP p).drop (a + 1))
  gone : ∀ z ∈ changedO (mapAt p.S a) ((mapsP p).drop (a + 1)), z ∉ changedO (mapAt p.S a) ((mapsP (dropAt p k)).drop (a + 1)) → (gO (mapAt p.S a) z ≠ 0 → gO (mapAt p.S k) z = 0) ∧ (gO (mapAt p.S a) z = 0 → gO p.m z = 0)
theorem misses {p : PH} (h : mayP p = true) {fr gone : Int} (hlt : fr < gone) {a k : Nat} (ha : findO (idsP p.S) fr = (a : Int)) (hk : findO (idsP p.S) gone = (k : Int)) : Misses p fr gone a k ∧ a < p.S.length ∧ k < p.S.length := by
  obtain ⟨_, _, _, _, _, _, _, a8⟩ := mayP_of h
  obtain ⟨haL, ea⟩ := find_in ha
  obtain ⟨hkL, ek⟩ := find_in hk
  have hak : a < k := asc_lt (snaps_asc _ _ a8).2 haL hkL (by rw [ea, ek]; exact hlt)
  have hm1 : k + 1 < (mapsP p).length := by rw [maps_len]; omega
  have hdS : ∀ (Q : PH) (e : Q = dropAt p k), idsP Q.S = (idsP p.S).eraseIdx k ∧ mapAt Q.S a = mapAt p.S a ∧ a < Q.S.length := by
    intro Q e
    have hel : (p.S.eraseIdx k).length = p.S.length - 1 := by rw [List.length_eraseIdx, if_pos hkL]
    have h0 : idsP (p.S.eraseIdx k) = (idsP p.S).eraseIdx k := by
      unfold idsP
      rw [List.eraseIdx_eq_take_drop_succ, List.map_append, List.map_take, List.map_drop, List.eraseIdx_eq_take_drop_succ]
    have h1 : (p.S.eraseIdx k)[a]? = p.S[a]? := List.getElem?_eraseIdx_of_lt hak
    subst e
    unfold dropAt
    split
    · refine ⟨?_, ?_, by show a < (List.set ..).length; rw [List.length_set]; omega⟩
      · show idsP ((p.S.eraseIdx k).set k _) = _
        rw [← h0]
        unfold idsP
        rw [List.map_set]
        rename_i hlt
        rw [List.getD_eq_getElem?_getD, List.getElem?_eq_getElem hlt]
        simp only [Option.getD_some]
        rw [← List.getElem_map (fun s : Int × Int × List Int => s.1) (h := by rw [List.length_map]; exact hlt), List.set_getElem_self]
      · show mapAt ((p.S.eraseIdx k).set k _) a = _
        unfold mapAt
        rw [List.getD_eq_getElem?_getD, List.getElem?_set_ne (by omega), h1, ← List.getD_eq_getElem?_getD]
    · refine ⟨h0, ?_, by show a < (p.S.eraseIdx k).length; omega⟩
      show mapAt (p.S.eraseIdx k) a = _
      unfold mapAt
      rw [List.getD_eq_getElem?_getD, h1, ← List.getD_eq_getElem?_getD]
  obtain ⟨e1, e2, e3⟩ := hdS _ rfl
  have hmd := maps_drop p k hkL hm1
  have hX : ∀ {α : Type} (x : List α) (y : List α), x.length = k → (x ++ y).drop (a + 1) = x.drop (a + 1) ++ y := fun x y hx => List.drop_append_of_le_length (by omega)
  have htk : ((mapsP p).take k).length = k := by rw [List.length_take, Nat.min_eq_left (by omega)]
  have hR : (mapsP p).drop (a + 1) = ((mapsP p).take k).drop (a + 1) ++ (mapsP p)[k] :: (mapsP p)[k + 1] :: (mapsP p).drop (k + 2) := by
    conv => lhs; rw [split2 (mapsP p) k hm1]
    exact hX _ _ htk
  have hR' : (mapsP (dropAt p k)).drop (a + 1) = ((mapsP p).take k).drop (a + 1) ++ mergeO (mapAt p.S k) ((mapsP p)[k + 1]) :: (mapsP p).drop (k + 2) := by
    rw [hmd]
    exact hX _ _ htk
  have hlost : (mapsP p)[k] = mapAt p.S k := by
    rw [mapAt_maps p k hkL, List.getD_eq_getElem?_getD, List.getElem?_eq_getElem (by omega)]; rfl
  have hlast : p.m = (mapsP p)[k + 1] ∨ p.m ∈ (mapsP p).drop (k + 2) := by
    rcases Nat.lt_or_ge (k + 1) p.S.length with h1 | h1
    · refine .inr ?_
      unfold mapsP
      rw [List.drop_append_of_le_length (by rw [List.length_map]; omega)]
      exact List.mem_append_right _ (List.mem_singleton.2 rfl)
    · exact .inl (get_of hm1 (by rw [show k + 1 = p.S.length by omega]; exact maps_m p)).symm
  refine ⟨⟨?_, ?_, ?_, ?_⟩, haL, hkL⟩
  · unfold diffP
    rw [if_pos h, ha, if_neg (by omega), if_pos rfl, Int.toNat_natCast, rest_all p a haL]
  · unfold diffP
    rw [if_pos (drop_may h k), e1, find_erase ha hak, if_neg (by omega), if_pos rfl, Int.toNat_natCast, rest_all _ a e3, e2]
  · intro z hz
    rw [mem_changed] at hz ⊢
    obtain ⟨i, rfl, hi, hz⟩ := hz
    refine ⟨i, rfl, hi, ?_⟩
    rw [hR'] at hz
    rw [hR, hlost]
    rw [List.any_append, List.any_cons] at hz ⊢
    rw [List.any_cons]
    simp only [Bool.or_eq_true] at hz ⊢
    rcases hz with hz | hz | hz
    · exact .inl hz
    · rw [gN_mergeO] at hz
      have := (dd_merge (gN (mapAt p.S a) i) (gN (mapAt p.S k) i) (gN ((mapsP p)[k + 1]) i) (tri (gN_bd _ _)) (tri (gN_bd _ _)) (tri (gN_bd _ _))).1 hz
      exact .inr (this.imp id .inl)
    · exact .inr (.inr (.inr hz))
  · intro z hz hn
    rw [mem_changed] at hz hn
    obtain ⟨i, rfl, hi, hz⟩ := hz
    have hn' : ((mapsP (dropAt p k)).drop (a + 1)).any (fun m => dd (gN m i) (gN (mapAt p.S a) i)) = false := by
      cases hb : ((mapsP (dropAt p k)).drop (a + 1)).any (fun m => dd (gN m i) (gN (mapAt p.S a) i))
      · rfl
      · exact absurd ⟨i, rfl, hi, hb⟩ hn
    rw [hR'] at hn'
    rw [hR, hlost] at hz
    rw [List.any_append, List.any_cons] at hz hn'
    rw [List.any_cons] at hz
    simp only [Bool.or_eq_true] at hz
    simp only [Bool.or_eq_false_iff] at hn'
    obtain ⟨n1, n2, n3⟩ := hn'
    rw [gN_mergeO] at n2
    have hzz : dd (gN (mapAt p.S k) i) (gN (mapAt p.S a) i) = true ∨ dd (gN ((mapsP p)[k + 1]) i) (gN (mapAt p.S a) i) = true := by
      rcases hz with hz | hz | hz | hz
      · rw [n1] at hz; cases hz
      · exact .inl hz
      · exact .inr hz
      · rw [n3] at hz; cases hz
    have hd := (dd_merge (gN (mapAt p.S a) i) (gN (mapAt p.S k) i) (gN ((mapsP p)[k + 1]) i) (tri (gN_bd _ _)) (tri (gN_bd _ _)) (tri (gN_bd _ _))).2 n2 hzz
    have g : ∀ m, gO m (i : Int) = gN m i := fun m => by unfold gO; rw [if_neg (by omega), Int.toNat_natCast]
    rw [g, g, g]
    refine ⟨hd.1, fun h0 => ?_⟩
    rcases hlast with hl | hl
    · rw [hl]; exact hd.2 h0
    · have := List.any_eq_false.1 n3 _ hl
      rw [h0] at this
      exact dd_zero _ (tri (gN_bd _ _)) (by simpa using this)
end Go.Proofs.Ytpgfhbkggchliaa
