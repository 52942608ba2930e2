/- Parts of the proof, joined: HeF HfA HfB. -/
import Derived.Test.YtpgfhbkggchliaaQp
import Derived.Test.YtpgfhbkggchliaaQa
/- The walks of chapter 06 as the frames take them. -/
namespace Go.Proofs.Ytpgfhbkggchliaa
open Go.RowKit
theorem diffs_fr (W : World) (h : HdV) (r : HdR W (Old W) h) (_ : HdI h) (a : Int) (_ : I64 a) (b : Int) (_ : I64 b) :
    Calls Try.prog 5 #[hdV h, .int .i64 a, .int .i64 b] W fun e w' => e = .returned (.bool true) ∧ Below W.heap.size W w' :=
  diffs_walk (Old W) h a b W r
theorem snaps_fr (W : World) (h : HdV) (r : HdR W (Old W) h) (_ : HdI h) (a : Int) (_ : I64 a) :
    Calls Try.prog 7 #[hdV h, .int .i64 a] W fun e w' => e = .returned (.bool true) ∧ Below W.heap.size W w' :=
  snaps_walk (Old W) h a W r
theorem checks_fr (W : World) (h : HdV) (r : HdR W (Old W) h) (_ : HdI h) (a : Int) (_ : I64 a) (b : Int) (_ : I64 b) :
    Calls Try.prog 3 #[hdV h, .int .i64 a, .int .i64 b] W fun e w' => e = .returned (.bool true) ∧ Below W.heap.size W w' :=
  checks_walk (Old W) h a b W r
theorem packs_fr (W : World) (h : HdV) (r : HdR W (Old W) h) (_ : HdI h) (A : Option Addr) (b : List UInt8) (c : Nat) (rb : RdB W (Old W) A b) (l : b.length ≤ c) (m : c ≤ 9223372036854775807) (_ : A = none → c = 0) :
    Calls Try.prog 4 #[hdV h, .slice A b.length c] W fun e w' => e = .returned (.bool true) ∧ Below W.heap.size W w' :=
  packs_walk (Old W) (Old W) h A b c W r rb l m
end Go.Proofs.Ytpgfhbkggchliaa

/- A snapshot that is made differs from now in nothing; dropped again, it leaves what was there: plain. -/
namespace Go.Proofs.Ytpgfhbkggchliaa
open Go.RowKit
set_option linter.unusedVariables false

theorem freshF_bd (m : List Int) (k : Nat) : 0 ≤ freshF m k ∧ freshF m k ≤ 2 := by have := gN_bd m k; unfold freshF; split <;> omega
theorem mergeF_bd (o m : List Int) (k : Nat) : 0 ≤ mergeF o m k ∧ mergeF o m k ≤ 2 := by have := gN_bd m k; unfold mergeF; split <;> omega
theorem freshF_far (m : List Int) (k : Nat) (h : 512 ≤ k) : freshF m k = 0 := by unfold freshF; rw [gN_far m k (.inr h)]; rfl
theorem mergeF_far (o m : List Int) (k : Nat) (h : 512 ≤ k) : mergeF o m k = 0 := by unfold mergeF; rw [gN_far m k (.inr h)]; rfl
theorem gN_freshO (m : List Int) (k : Nat) : gN (freshO m) k = freshF m k := by
  unfold freshO
  rw [gN_rowF _ fun k _ => freshF_bd m k]
  split
  · rfl
  · exact (freshF_far m k (by omega)).symm
theorem gN_mergeO (o m : List Int) (k : Nat) : gN (mergeO o m) k = mergeF o m k := by
  unfold mergeO
  rw [gN_rowF _ fun k _ => mergeF_bd o m k]
  split
  · rfl
  · exact (mergeF_far o m k (by omega)).symm
theorem rowO_rowF (f : Nat → Int) (hf : ∀ k, k < 512 → 0 ≤ f k ∧ f k ≤ 2) : rowO (rowF f) = rowF f := by
  unfold rowO
  exact rowF_congr fun k hk => by rw [gN_rowF f hf, if_pos hk]
theorem may_rowF (f : Nat → Int) (hf : ∀ k, k < 512 → 0 ≤ f k ∧ f k ≤ 2) : mayO (rowF f) = true := by rw [← rowO_rowF f hf]; exact may_row _
theorem may_fresh (m : List Int) : mayO (freshO m) = true := may_rowF _ fun k _ => freshF_bd m k
theorem may_merge (o m : List Int) : mayO (mergeO o m) = true := may_rowF _ fun k _ => mergeF_bd o m k
theorem len_may {m : List Int} (h : mayO m = true) : lastN (gN m) 512 = m.length := by rw [← rowO_length, row_may m h]
theorem fresh_len {m : List Int} (h : mayO m = true) : (freshO m).length = m.length := by unfold freshO; rw [rowF_length, lastN_freshF, len_may h]
theorem merge_len (o : List Int) {m : List Int} (h : mayO m = true) : (mergeO o m).length = m.length := by unfold mergeO; rw [rowF_length, lastN_mergeF, len_may h]
theorem merge_fresh {m : List Int} (h : mayO m = true) : mergeO m (freshO m) = m := by
  have e : rowO m = m := row_may m h
  conv => rhs; rw [← e]
  unfold mergeO rowO
  refine rowF_congr fun k hk => ?_
  unfold mergeF
  rw [gN_freshO]
  unfold freshF
  have := gN_bd m k
  split <;> split at * <;> omega
theorem fresh_none (m : List Int) : changedO m [freshO m] = [] := by
  unfold changedO
  rw [List.filter_eq_nil_iff.2, List.map_nil]
  intro i _
  unfold diffO
  simp only [List.any_cons, List.any_nil, Bool.or_false, gN_freshO]
  unfold freshF
  have := gN_bd m i
  split
  · rename_i h; rw [h]; decide
  · rename_i h
    rw [decide_eq_false h]
    simp
theorem sized_same {u n o s : Int} {a b : List Int} (h : sizedO u n o s a = true) (hb : mayO b = true) (hl : b.length = a.length) : sizedO u n o s b = true := by
  unfold sizedO at h ⊢
  simp only [Bool.and_eq_true, decide_eq_true_eq] at h ⊢
  exact ⟨h.1, hb, by rw [hl]; exact h.2.2⟩
theorem snaps_more {u n o last last' : Int} (hl : last ≤ last') : ∀ (S : List (Int × Int × List Int)) (a : Int), snapsO u n o last a S = true → snapsO u n o last' a S = true
  | [], _, _ => rfl
  | x :: S, a, h => by
    unfold snapsO at h ⊢
    simp only [Bool.and_eq_true, decide_eq_true_eq] at h ⊢
    exact ⟨h.1, by omega, h.2.2.1, snaps_more hl S x.1 h.2.2.2⟩
theorem snaps_push {u n o last : Int} {x : Int × Int × List Int} (hx : sizedO u n o x.2.1 x.2.2 = true) (hl : x.1 ≤ last) : ∀ (S : List (Int × Int × List Int)) (a : Int), snapsO u n o last a S = true → a < x.1 → (∀ s ∈ S, s.1 < x.1) → snapsO u n o last a (S ++ [x]) = true
  | [], a, _, ha, _ => by
    show snapsO u n o last a [x] = true
    unfold snapsO
    simp only [Bool.and_eq_true, decide_eq_true_eq]
    exact ⟨ha, hl, hx, rfl⟩
  | y :: S, a, h, ha, hs => by
    rw [List.cons_append]
    unfold snapsO at h ⊢
    simp only [Bool.and_eq_true, decide_eq_true_eq] at h ⊢
    exact ⟨h.1, h.2.1, h.2.2.1, snaps_push hx hl S y.1 h.2.2.2 (hs y (List.mem_cons_self ..)) fun s hs' => hs s (List.mem_cons_of_mem _ hs')⟩
theorem findAt_new (id : Int) : ∀ (l : List Int) (k : Nat), (∀ z ∈ l, z ≠ id) → findAt (l ++ [id]) id k = ((k + l.length : Nat) : Int)
  | [], k, _ => by simp [findAt]
  | z :: l, k, h => by
    rw [List.cons_append, findAt, if_neg (h z (List.mem_cons_self ..)), findAt_new id l (k + 1) fun y hy => h y (List.mem_cons_of_mem _ hy)]
    simp only [List.length_cons]
    congr 1
    omega
/-- The head with a snapshot more. -/
def snapG (p : PH) : PH := { p with last := p.last + 1, S := p.S ++ [(p.last + 1, p.size, p.m)], m := freshO p.m }
theorem snapP_ok {p : PH} (h : mayP p = true) (h4 : ¬ (4 ≤ p.S.length ∨ 100 ≤ p.last)) : snapP p = (snapG p, p.last + 1, 0) := by
  unfold snapP
  rw [if_pos h, if_neg h4]
  rfl
theorem mayP_mk {p : PH} (h1 : layO p.u p.n p.o = true) (h2 : sizedO p.u p.n p.o p.size p.m = true) (h3 : p.S.length ≤ 4) (h4 : 0 ≤ p.last) (h5 : p.last ≤ 100) (h6 : 0 ≤ p.seq) (h7 : p.seq ≤ 1099511627776) (h8 : snapsO p.u p.n p.o p.last 0 p.S = true) : mayP p = true := by
  unfold mayP
  simp only [Bool.and_eq_true, decide_eq_true_eq]
  exact ⟨h1, h2, h3, h4, h5, h6, h7, h8⟩
theorem mayP_of {p : PH} (h : mayP p = true) : layO p.u p.n p.o = true ∧ sizedO p.u p.n p.o p.size p.m = true ∧ p.S.length ≤ 4 ∧ 0 ≤ p.last ∧ p.last ≤ 100 ∧ 0 ≤ p.seq ∧ p.seq ≤ 1099511627776 ∧ snapsO p.u p.n p.o p.last 0 p.S = true := by
  unfold mayP at h
  simp only [Bool.and_eq_true, decide_eq_true_eq] at h
  exact h
theorem snapG_may {p : PH} (h : mayP p = true) (h4 : ¬ (4 ≤ p.S.length ∨ 100 ≤ p.last)) : mayP (snapG p) = true := by
  obtain ⟨a1, a2, a3, a4, a5, a6, a7, a8⟩ := mayP_of h
  have hm := (sized_bd a2).2.2
  refine mayP_mk (p := snapG p) a1 (sized_same a2 (may_fresh _) (fresh_len hm)) ?_ ?_ ?_ a6 a7 ?_
  · show (p.S ++ [(p.last + 1, p.size, p.m)]).length ≤ 4
    simp
    omega
  · show 0 ≤ p.last + 1
    omega
  · show p.last + 1 ≤ 100
    omega
  · refine snaps_push (last := p.last + 1) (x := (p.last + 1, p.size, p.m)) a2 (Int.le_refl _) p.S 0 (snaps_more (last' := p.last + 1) (by omega) _ _ a8) (by show (0 : Int) < p.last + 1; omega) fun s hs => ?_
    have := (snaps_bd _ _ a8 s hs).2.1
    show s.1 < p.last + 1
    omega
theorem snapG_find {p : PH} (h : mayP p = true) : findO (idsP (snapG p).S) (p.last + 1) = (p.S.length : Int) := by
  obtain ⟨_, _, _, _, _, _, _, a8⟩ := mayP_of h
  have e : idsP (snapG p).S = idsP p.S ++ [p.last + 1] := by
    show idsP (p.S ++ [_]) = _
    unfold idsP
    rw [List.map_append]
    rfl
  rw [e]
  unfold findO
  rw [findAt_new]
  · unfold idsP
    simp
  · intro z hz
    obtain ⟨s, hs, rfl⟩ := List.mem_map.1 hz
    have := (snaps_bd _ _ a8 s hs).2.1
    omega
theorem snapG_diff {p : PH} (h : mayP p = true) (h4 : ¬ (4 ≤ p.S.length ∨ 100 ≤ p.last)) : diffP (snapG p) (p.last + 1) 0 = ([], 0) := by
  unfold diffP
  rw [if_pos (snapG_may h h4), snapG_find h, if_neg (by omega), if_pos rfl]
  have e1 : mapAt (snapG p).S (p.S.length : Int).toNat = p.m := by
    show ((p.S ++ [(p.last + 1, p.size, p.m)]).getD (p.S.length : Int).toNat (0, 0, [])).2.2 = p.m
    rw [Int.toNat_natCast, List.getD_eq_getElem?_getD, List.getElem?_append_right (Nat.le_refl _), Nat.sub_self]
    rfl
  have e2 : restM (snapG p).S (p.S.length : Int).toNat (snapG p).S.length = [] := by
    show (((p.S ++ [(p.last + 1, p.size, p.m)]).take _).drop _).map _ = []
    rw [List.drop_of_length_le (by rw [List.length_take, Int.toNat_natCast]; simp; omega)]
    rfl
  rw [e1, e2]
  show (changedO p.m [freshO p.m], (0 : Int)) = _
  rw [fresh_none]
theorem snapG_drop {p : PH} (h : mayP p = true) (h4 : ¬ (4 ≤ p.S.length ∨ 100 ≤ p.last)) : dropP (snapG p) (p.last + 1) = ({ p with last := p.last + 1 }, 0) := by
  obtain ⟨_, a2, _⟩ := mayP_of h
  unfold dropP
  rw [if_pos (snapG_may h h4), snapG_find h, if_neg (by omega)]
  have e0 : (snapG p).S.eraseIdx p.S.length = p.S := by
    show (p.S ++ [(p.last + 1, p.size, p.m)]).eraseIdx p.S.length = p.S
    rw [List.eraseIdx_append_of_length_le (Nat.le_refl _), Nat.sub_self]
    simp
  have e1 : mapAt (snapG p).S p.S.length = p.m := by
    show ((p.S ++ [(p.last + 1, p.size, p.m)]).getD p.S.length (0, 0, [])).2.2 = p.m
    rw [List.getD_eq_getElem?_getD, List.getElem?_append_right (Nat.le_refl _), Nat.sub_self]
    rfl
  rw [Int.toNat_natCast]
  unfold dropAt
  rw [e0, if_neg (Nat.lt_irrefl _), e1]
  show (({ snapG p with S := p.S, m := mergeO p.m (freshO p.m) } : PH), (0 : Int)) = _
  rw [merge_fresh (sized_bd a2).2.2]
  rfl
theorem snapG_new (p : PH) : newO (idsP (snapG p).S) = p.last + 1 := by
  show (idsP (p.S ++ [(p.last + 1, p.size, p.m)])).getLastD 0 = _
  unfold idsP
  rw [List.map_append]
  simp
theorem snapG_back {p : PH} (h : mayP p = true) (h4 : ¬ (4 ≤ p.S.length ∨ 100 ≤ p.last)) : mayP { p with last := p.last + 1 } = true := by
  obtain ⟨a1, a2, a3, a4, a5, a6, a7, a8⟩ := mayP_of h
  exact mayP_mk (p := { p with last := p.last + 1 }) a1 a2 a3 (by show 0 ≤ p.last + 1; omega) (by show p.last + 1 ≤ 100; omega) a6 a7 (snaps_more (last' := p.last + 1) (by omega) _ _ a8)
end Go.Proofs.Ytpgfhbkggchliaa

/- The law HeadFresh: the walk. -/
namespace Go.Proofs.Ytpgfhbkggchliaa
open Go.RowKit
set_option linter.unusedVariables false

theorem HdR.mod {w w' : World} {D X : Nat → Prop} {h : HdV} (k : HdR w D h) (m : Mod X w w') (hX : ∀ b, D b → ¬ X b) : HdR w' D h :=
  ⟨Rd.mod k.1 m hX, k.2.1, k.2.2.1, k.2.2.2.1.mod m hX, k.2.2.2.2.1, k.2.2.2.2.2.1, fun s hs => (k.2.2.2.2.2.2 s hs).mod m hX⟩
theorem hdA_last (h : HdV) (z : Int) : (hdA h).setIfInBounds 6 (.int .i64 z) = hdA { h with last := z } := rfl
theorem hdA_at (h : HdV) : (hdA h)[6]? = some (.int .i64 h.last) := rfl
theorem HdX.old {w : World} {q : Nat} {cs : Array Value} {h : HdV} (k : HdX w q cs h) : cs = hdA h := by have := k.v; unfold hdV at this; injection this with this; exact this.symm

set_option maxHeartbeats 8000000 in
set_option maxRecDepth 100000 in
theorem fresh_walk0 (h : HdV) (w : World) (hr : HdR w (· < w.heap.size) h) :
    Calls Try.prog 8 #[hdV h] w fun e w' => e = .returned (.bool true) ∧ Below w.heap.size w w' := by
  have bb := below_new w (.cells (hdA h) 27)
  have hB := Blk.new w 27 (hdA h)
  have hr := hr.below bb
  have hv : hdV h = .agg (hdA h) := rfl
  have hfw := fun (W : World) (hr : HdR W (· < w.heap.size) h) => few_any _ h W hr
  have hc1 := fun (W : World) (hr : HdR W (· < w.heap.size) h) => Snap_any6 _ h W hr
  have hck := fun (W : World) (hr : HdR W (· < w.heap.size) h) => Check_any6 _ h W hr
  have hmp := may_p h
  rw [hv] at hfw hc1 hck ⊢
  obtain ⟨p, hp⟩ : ∃ p, p = h.p := ⟨_, rfl⟩
  rw [← hp] at hc1 hmp
  have e6 := hdA_at h
  have hv' := hv
  generalize hA : hdA h = cs at *
  have h8 : cs.size = 8 := by rw [← hA]; rfl
  clear hA hv
  go_enter Try.func8, Try.ntmps8
  go_wp2_with fail
  refine (awake_any6 _).mono ?_
  rintro e w1 ⟨rfl, b1⟩
  have hB := hB.below b1
  have hr := hr.below b1
  have bb := bb.thenB' b1
  clear b1
  go_wp2_with first
    | (with_reducible show wpList _ _ _ _ _ _
       refine wpList_load_row rfl 27 (.tmp 1) rfl w.heap.size rfl 27 cs (0, 0) _ hB Try.underlying27 rfl (by rw [h8]; exact infoH) ?_)
  refine (hfw _ hr).mono ?_
  clear hfw
  rintro e w2 ⟨rfl, b2⟩
  have hB := hB.below b2
  have hr := hr.below b2
  have bb := bb.thenB' b2
  clear b2
  cases hf : fewO h
  focus
    go_wp2_with fail
    go_ret
    exact ⟨rfl, bb⟩
  go_wp2_with first
    | (with_reducible show wpList _ _ _ _ _ _
       refine wpList_load_row rfl 27 (.tmp 1) rfl w.heap.size rfl 27 cs (0, 0) _ hB Try.underlying27 rfl (by rw [h8]; exact infoH) ?_)
  rw [hmp] at hck
  cases hmay : mayP p
  focus
    have E : snapP p = (zeroP, 0, 60) := by unfold snapP; rw [hmay]; rfl
    rw [hmay, show eno false 60 = 60 from rfl] at hck
    rw [E] at hc1
    clear E hmay hmp hp
    refine (hc1 _ hr).mono ?_
    rintro e x1 ⟨h1, rfl, hp1, hr1, b1⟩
    have hB := hB.below b1
    have hr := hr.below b1
    have bb := bb.thenB' b1
    rw [show hdV h1 = .agg (hdA h1) from rfl]
    have q1 := hd8 h1
    have a1 := hdA_ok h1
    generalize hA1 : hdA h1 = c1 at *
    have hz1 := Blk.new x1 27 z8
    unfold z8 at hz1
    go_wp2_with first
      | (with_reducible show wpList _ _ _ _ _ _
         refine wpList_rowB rfl 27 (.tmp 5) (.tmp 22) rfl x1.heap.size 27 _ c1 rfl rfl hz1 (by rw [q1]; exact infoH) (by rw [q1]; rfl) a1 ?_
         intro y1 hy1 m1
         obtain ⟨K1, n1⟩ := HdX.new hr1 hy1 hA1 m1
         have hB := hB.below n1
         have hr := hr.below n1
         have bb := bb.thenB' n1)
      | (with_reducible show wpList _ _ _ _ _ _
         refine wpList_load_row rfl 27 (.tmp 1) rfl w.heap.size rfl 27 cs (0, 0) _ hB Try.underlying27 rfl (by rw [h8]; exact infoH) ?_)
    refine (hck _ hr).mono ?_
    rintro e x2 ⟨rfl, b2⟩
    go_wp2_with fail
    go_ret
    exact ⟨rfl, bb.thenB' b2⟩
  rw [hmay, show eno true 60 = 0 from rfl] at hck
  by_cases h4 : 4 ≤ p.S.length ∨ 100 ≤ p.last
  focus
    have E : snapP p = (zeroP, 0, 110) := by unfold snapP; rw [if_pos hmay, if_pos h4]
    rw [E] at hc1
    clear E hmay hmp hp h4
    refine (hc1 _ hr).mono ?_
    rintro e x1 ⟨h1, rfl, hp1, hr1, b1⟩
    have hB := hB.below b1
    have hr := hr.below b1
    have bb := bb.thenB' b1
    rw [show hdV h1 = .agg (hdA h1) from rfl]
    have q1 := hd8 h1
    have a1 := hdA_ok h1
    generalize hA1 : hdA h1 = c1 at *
    have hz1 := Blk.new x1 27 z8
    unfold z8 at hz1
    go_wp2_with first
      | (with_reducible show wpList _ _ _ _ _ _
         refine wpList_rowB rfl 27 (.tmp 5) (.tmp 22) rfl x1.heap.size 27 _ c1 rfl rfl hz1 (by rw [q1]; exact infoH) (by rw [q1]; rfl) a1 ?_
         intro y1 hy1 m1
         obtain ⟨K1, n1⟩ := HdX.new hr1 hy1 hA1 m1
         have hB := hB.below n1
         have hr := hr.below n1
         have bb := bb.thenB' n1)
      | (with_reducible show wpList _ _ _ _ _ _
         refine wpList_load_row rfl 27 (.tmp 1) rfl w.heap.size rfl 27 cs (0, 0) _ hB Try.underlying27 rfl (by rw [h8]; exact infoH) ?_)
    refine (hck _ hr).mono ?_
    rintro e x2 ⟨rfl, b2⟩
    go_wp2_with fail
    go_ret
    exact ⟨rfl, bb.thenB' b2⟩
  rw [snapP_ok hmay h4] at hc1
  have F1 := Lib.hid (snapG_diff hmay h4)
  have F2 := Lib.hid (snapG_drop hmay h4)
  have F3 := Lib.hid (snapG_new p)
  have F4 := Lib.hid (snapG_may hmay h4)
  have F5 := Lib.hid (snapG_back hmay h4)
  have F6 := Lib.hid hp
  have F7 := Lib.hid (may_big hmay)
  have F8 : Hid (h.last = p.last) := by unfold Hid; rw [hp]; rfl
  have F9 : Hid (mayH h = mayP p) := hmp
  clear hmay h4 hmp hp
  obtain ⟨id, hid⟩ : ∃ id, id = p.last + 1 := ⟨_, rfl⟩
  rw [← hid] at hc1 F1 F2 F3 F5
  clear hid
  refine (hc1 _ hr).mono ?_
  clear hc1
  rintro e x1 ⟨h1, rfl, hp1, hr1, b1⟩
  have hB := hB.below b1
  have hr := hr.below b1
  have bb := bb.thenB' b1
  rw [show hdV h1 = .agg (hdA h1) from rfl]
  have q1 := hd8 h1
  have a1 := hdA_ok h1
  generalize hA1 : hdA h1 = c1 at *
  have hz1 := Blk.new x1 27 z8
  unfold z8 at hz1
  go_wp2_with first
    | (with_reducible show wpList _ _ _ _ _ _
       refine wpList_rowB rfl 27 (.tmp 5) (.tmp 22) rfl x1.heap.size 27 _ c1 rfl rfl hz1 (by rw [q1]; exact infoH) (by rw [q1]; rfl) a1 ?_
       intro y1 hy1 m1
       obtain ⟨K1, n1⟩ := HdX.new hr1 hy1 hA1 m1
       have hB := hB.below n1
       have hr := hr.below n1
       have bb := bb.thenB' n1)
    | (with_reducible show wpList _ _ _ _ _ _
       refine wpList_load_row rfl 27 (.tmp 5) rfl x1.heap.size rfl 27 c1 (0, 0) _ K1.B Try.underlying27 rfl (by rw [q1]; exact infoH) ?_)
  have hdf := fun (W : World) (K : HdX W x1.heap.size c1 h1) => Diff_any6 _ h1 id 0 W K.rd
  have hdr := fun (W : World) (K : HdX W x1.heap.size c1 h1) => Drop_any6 _ h1 id W K.rd
  have hnw := fun (W : World) (K : HdX W x1.heap.size c1 h1) => Newest_any _ h1 W K.rd
  have hcg := fun (W : World) (K : HdX W x1.heap.size c1 h1) => Check_any6 _ h1 W K.rd
  have hids : idsO h1.S = idsP (snapG p).S := by rw [ids_p]; show idsP h1.p.S = _; rw [hp1]
  rw [hp1, F1.out] at hdf
  rw [hp1, F2.out] at hdr
  rw [hids, F3.out] at hnw
  rw [may_p, hp1, F4.out, show eno true 60 = 0 from rfl] at hcg
  rw [show hdV h1 = .agg c1 from K1.v] at hdf hdr hnw hcg
  refine (hdf _ K1).mono ?_
  clear hdf
  rintro e x2 ⟨v2, rfl, o2, b2⟩
  have hB := hB.below b2
  have hr := hr.below b2
  have bb := bb.thenB' b2
  have K1 := K1.below b2
  obtain ⟨A2, k2, rfl, l2, kk2⟩ := OwnI.form o2
  simp only [List.length_nil]
  go_wp2_with first
    | (with_reducible show wpList _ _ _ _ _ _
       refine wpList_load_row rfl 27 (.tmp 5) rfl x1.heap.size rfl 27 c1 (0, 0) _ K1.B Try.underlying27 rfl (by rw [q1]; exact infoH) ?_)
  refine (hdr _ K1).mono ?_
  clear hdr
  rintro e x3 ⟨h3, rfl, hp3, hr3, b3⟩
  have hB := hB.below b3
  have hr := hr.below b3
  have bb := bb.thenB' b3
  have K1 := K1.below b3
  have ho3 := hr3.old
  have hx3 : w.heap.size < x3.heap.size := hB.lt
  rw [show hdV h3 = .agg (hdA h3) from rfl]
  have q3 := hd8 h3
  have a3 := hdA_ok h3
  generalize hA3 : hdA h3 = c3 at *
  have hz3 := Blk.new x3 27 z8
  unfold z8 at hz3
  go_wp2_with first
    | (with_reducible show wpList _ _ _ _ _ _
       refine wpList_rowB rfl 27 (.tmp 10) (.tmp 43) rfl x3.heap.size 27 _ c3 rfl rfl hz3 (by rw [q3]; exact infoH) (by rw [q3]; rfl) a3 ?_
       intro y3 hy3 m3
       obtain ⟨K3, n3⟩ := HdX.new hr3 hy3 hA3 m3
       have hB := hB.below n3
       have hr := hr.below n3
       have bb := bb.thenB' n3
       have K1 := K1.below n3
       have ho3 := ho3.below n3)
    | (with_reducible show wpList _ _ _ _ _ _
       refine wpList_load_rowG rfl rfl 27 (.tmp 5) rfl x1.heap.size rfl 27 c1 K1.B _ Try.underlying27 (by rw [q1]; exact infoH) ?_)
  have hcd := fun (W : World) (K : HdX W x3.heap.size c3 h3) => Check_any6 _ h3 W K.rd
  rw [may_p, hp3, F5.out, show eno true 60 = 0 from rfl] at hcd
  rw [show hdV h3 = .agg c3 from K3.v] at hcd
  have e3 : c3[6]? = some (.int .i64 id) := by
    rw [K3.old, hdA_at]
    show some (Value.int .i64 h3.p.last) = _
    rw [hp3]
  refine (hnw _ K1).mono ?_
  clear hnw
  rintro e x4 ⟨rfl, b4⟩
  have hB := hB.below b4
  have hr := hr.below b4
  have bb := bb.thenB' b4
  have K1 := K1.below b4
  have K3 := K3.below b4
  have ho3 := ho3.below b4
  go_wp2_with first
    | (with_reducible show wpList _ _ _ _ _ _
       refine wpList_load_rowG rfl rfl 27 (.tmp 5) rfl x1.heap.size rfl 27 c1 K1.B _ Try.underlying27 (by rw [q1]; exact infoH) ?_)
  refine (hcg _ K1).mono ?_
  clear hcg
  rintro e x5 ⟨rfl, b5⟩
  have hB := hB.below b5
  have hr := hr.below b5
  have bb := bb.thenB' b5
  have K1 := K1.below b5
  have K3 := K3.below b5
  have ho3 := ho3.below b5
  go_wp2_with first
    | (with_reducible show wpList _ _ _ _ _ _
       refine wpList_load_rowG rfl rfl 27 (.tmp 10) rfl x3.heap.size rfl 27 c3 K3.B _ Try.underlying27 (by rw [q3]; exact infoH) ?_)
  refine (hcd _ K3).mono ?_
  clear hcd
  rintro e x6 ⟨rfl, b6⟩
  have hB := hB.below b6
  have hr := hr.below b6
  have bb := bb.thenB' b6
  have K1 := K1.below b6
  have K3 := K3.below b6
  have ho3 := ho3.below b6
  have d6 := K3.B.cell 6
  rw [e3] at d6
  have g6 := hB.cell 6
  rw [e6] at g6
  have q7 : (c3.setIfInBounds 6 (.int .i64 h.last)).size = 8 := by rw [Array.size_setIfInBounds]; exact q3
  go_wp2_with first
    | (with_reducible show wpList _ _ _ _ _ _
       refine wpList_fldB rfl 3 (.tmp 80) (.tmp 79) rfl x3.heap.size 6 27 c3 (.int .i64 h.last) rfl rfl rfl infoI1 K3.B 8 q3 (by decide) ?_
       intro y7 hy7 m7
       have hB7 := hB.mod m7 (by omega))
    | (with_reducible show wpList _ _ _ _ _ _
       refine wpList_load_row rfl 27 (.tmp 10) rfl x3.heap.size rfl 27 _ (0, 0) _ hy7 Try.underlying27 rfl (by rw [q7]; exact infoH) ?_)
    | (with_reducible show wpList _ _ _ _ _ _
       refine wpList_load_row rfl 27 (.tmp 1) rfl w.heap.size rfl 27 cs (0, 0) _ hB7 Try.underlying27 rfl (by rw [h8]; exact infoH) ?_)
  have hr7 := hr.mod m7 (fun b hb e => by omega)
  have ho7 : HdR y7 (fun b => b < x3.heap.size) { h3 with last := h.last } := ho3.mod m7 (fun b hb e => by omega)
  have hp7 : (({ h3 with last := h.last } : HdV)).p = h.p := by
    show ({ h3.p with last := h.last } : PH) = h.p
    rw [hp3, F8.out]
    exact F6.out
  have hs := rSame_yes _ _ _ h y7 ho7 hr7 (eqH_p hp7) (BigP.hd (by rw [hp7, ← F6.out]; exact F7.out))
  rw [hv', show hdV { h3 with last := h.last } = .agg (c3.setIfInBounds 6 (.int .i64 h.last)) from by rw [K3.old, hdA_last]; rfl] at hs
  refine hs.mono ?_
  rintro e x8 ⟨rfl, b8⟩
  go_wp2_with fail
  go_ret
  exact ⟨rfl, (bb.thenM m7 bb.size (fun i hi e => by omega)).thenB' b8⟩
theorem fresh_walk (D : Nat → Prop) (h : HdV) (w : World) (hr : HdR w D h) :
    Calls Try.prog 8 #[hdV h] w fun e w' => e = .returned (.bool true) ∧ Below w.heap.size w w' := fresh_walk0 h w hr.old
theorem fresh_fr (W : World) (h : HdV) (r : HdR W (Old W) h) (_ : HdI h) :
    Calls Try.prog 8 #[hdV h] W fun e w' => e = .returned (.bool true) ∧ Below W.heap.size W w' := fresh_walk (Old W) h W r
end Go.Proofs.Ytpgfhbkggchliaa
