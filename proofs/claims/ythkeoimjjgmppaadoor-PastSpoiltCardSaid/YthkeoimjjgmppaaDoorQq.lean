/- Parts of the proof, joined: PsQ PsR PsS PsT. -/
import Derived.Test.YthkeoimjjgmppaaDoorQp
import Derived.Test.YthkeoimjjgmppaaDoorQa
import Derived.Lib.SlBytesConst
/- The past: Right: the code. -/
namespace Go.Proofs.YthkeoimjjgmppaaDoor
open Go.RowKit
set_option linter.unusedVariables false
set_option maxRecDepth 100000

@[go_sem] theorem run_store_nilFunc (a : Addr) (m : Mode) (w : World) : (store a .nilFunc m).run Tryd.prog w = stored Tryd.prog w a .nilFunc m := run_store Tryd.prog w a _ m rfl
@[go_sem] theorem run_store_fn (a : Addr) (m : Mode) (w : World) (fn : Fn) (first cap : Array Value) : (store a (.func fn first cap) m).run Tryd.prog w = stored Tryd.prog w a (.func fn first cap) m := run_store Tryd.prog w a _ m rfl

set_option maxHeartbeats 8000000 in
theorem Right_any (D D' : Nat → Prop) (A A' : Option Addr) (c c' : Nat) (L : List CmV) (R : List RcV) (size : Int) (w : World) (hL : CmsR w D A c L) (hR : RcsR w D' A' c' R) (ht : TabE w) (hl1 : ∀ s ∈ R, s.call.data.length ≤ big) (hl2 : ∀ s ∈ L, s.e.data.length ≤ big) (h64 : ∀ s ∈ R, s.call.len ≤ 9223372036854775807) (hn : R.length ≤ 1000) :
    Calls Tryd.prog 13 #[.agg #[.int .i64 4, .int .i64 2, .int .i64 16], .int .i64 size, .slice A L.length c, .slice A' R.length c'] w fun e w' => e = .returned (.bool (rightP size (pcs L) (prs R))) ∧ Below w.heap.size w w' := by
  have n1 : ∀ (args : Array Value) (w : World), (callFunc 35 args).run Tryd.prog w = .ok (.enter 35 args) w := Go.Proofs.enters_of Tryd.func35 (by kernel_rfl) rfl
  have n2 : ∀ (args : Array Value) (w : World), (callFunc 36 args).run Tryd.prog w = .ok (.enter 36 args) w := Go.Proofs.enters_of Tryd.func36 (by kernel_rfl) rfl
  have n3 : ∀ (args : Array Value) (w : World), (callFunc 39 args).run Tryd.prog w = .ok (.enter 39 args) w := Go.Proofs.enters_of Tryd.func39 (by kernel_rfl) rfl
  have b1 := below_new w (.cells #[.int .i64 4, .int .i64 2, .int .i64 16] 47)
  have h4 := Blk.new w 47 #[.int .i64 4, .int .i64 2, .int .i64 16]
  generalize hw1 : w.alloc (.cells #[.int .i64 4, .int .i64 2, .int .i64 16] 47) = w1 at *
  have b2 := below_new w1 (.cells #[.int .i64 size] 3)
  have h5 := Blk.new w1 3 #[.int .i64 size]
  generalize hw2 : w1.alloc (.cells #[.int .i64 size] 3) = w2 at *
  have b3 := below_new w2 (.cells #[.slice A L.length c] 27)
  have h6 := Blk.new w2 27 #[.slice A L.length c]
  generalize hw3 : w2.alloc (.cells #[.slice A L.length c] 27) = w3 at *
  have b4 := below_new w3 (.cells #[.slice A' R.length c'] 28)
  have h7 := Blk.new w3 28 #[.slice A' R.length c']
  generalize hw4 : w3.alloc (.cells #[.slice A' R.length c'] 28) = w4 at *
  have bb := ((b1.thenB' b2).thenB' b3).thenB' b4
  have h4 := ((h4.below b2).below b3).below b4
  have h5 := (h5.below b3).below b4
  have h6 := h6.below b4
  go_enter Tryd.func13, Tryd.ntmps13
  go_upto_region 4 with fail
  clear hw1 hw2 hw3 hw4 b1 b2 b3 b4
  generalize w1.heap.size = g5 at *
  generalize w2.heap.size = g6 at *
  generalize w3.heap.size = g7 at *
  obtain ⟨g4, hg4⟩ : ∃ g4, w.heap.size = g4 := ⟨_, rfl⟩
  rw [hg4] at h4
  rw [hg4]
  have HG4 := Lib.hid hg4
  clear hg4
  have bv := below_new w4 (.cells #[.func (.func 35) #[] #[.pointer (some ⟨g6, 0, none⟩), .pointer (some ⟨g5, 0, none⟩)], .func (.func 39) #[] #[.pointer (some ⟨g6, 0, none⟩), .pointer (some ⟨g7, 0, none⟩)], .func (.func 36) #[] #[.pointer (some ⟨g7, 0, none⟩), .pointer (some ⟨g4, 0, none⟩), .pointer (some ⟨g5, 0, none⟩), .pointer (some ⟨g6, 0, none⟩)]] 75)
  have hS := Blk.new w4 75 #[.func (.func 35) #[] #[.pointer (some ⟨g6, 0, none⟩), .pointer (some ⟨g5, 0, none⟩)], .func (.func 39) #[] #[.pointer (some ⟨g6, 0, none⟩), .pointer (some ⟨g7, 0, none⟩)], .func (.func 36) #[] #[.pointer (some ⟨g7, 0, none⟩), .pointer (some ⟨g4, 0, none⟩), .pointer (some ⟨g5, 0, none⟩), .pointer (some ⟨g6, 0, none⟩)]]
  go_wp2_with fail
  generalize w4.alloc (.cells #[.func (.func 35) #[] #[.pointer (some ⟨g6, 0, none⟩), .pointer (some ⟨g5, 0, none⟩)], .func (.func 39) #[] #[.pointer (some ⟨g6, 0, none⟩), .pointer (some ⟨g7, 0, none⟩)], .func (.func 36) #[] #[.pointer (some ⟨g7, 0, none⟩), .pointer (some ⟨g4, 0, none⟩), .pointer (some ⟨g5, 0, none⟩), .pointer (some ⟨g6, 0, none⟩)]] 75) = w5 at *
  obtain ⟨gs, hgs⟩ : ∃ gs, w4.heap.size = gs := ⟨_, rfl⟩
  rw [hgs] at hS
  rw [hgs]
  clear hgs
  refine wp_loop_rounds 4 ?_
  rw [rounds_succ]
  have bn := below_new w5 (.cells #[.func (.func 35) #[] #[.pointer (some ⟨g6, 0, none⟩), .pointer (some ⟨g5, 0, none⟩)]] 75)
  have s0 := hS.cell 0
  simp at s0
  have hS := hS.below bn
  have bv := bv.thenB' bn
  have bw := bb.thenB' bv
  have hcl := all_any D A c L size g6 g5 _ (hL.below bw) (h6.below bv) (h5.below bv)
  obtain ⟨z0, hz0⟩ : ∃ z, allO size (pcs L) 4 = z := ⟨_, rfl⟩
  rw [hz0] at hcl
  have HZ0 := Lib.hid hz0
  clear hz0
  go_wp2_with fail
  refine hcl.mono ?_
  clear hcl s0 bn
  rintro e w6 ⟨rfl, bq⟩
  have hS := hS.below bq
  have bv := bv.thenB' bq
  have bw := bb.thenB' bv
  clear bq
  cases z0
  · have HE : Hid (rightP size (pcs L) (prs R) = false) := Lib.hid (by rw [all_four, HZ0.out]; rfl)
    go_wp2_with fail
    go_ret
    exact ⟨by rw [HE.out] <;> rfl, bw⟩
  go_wp2_with fail
  rw [rounds_succ]
  have bn := below_new w6 (.cells #[.func (.func 39) #[] #[.pointer (some ⟨g6, 0, none⟩), .pointer (some ⟨g7, 0, none⟩)]] 75)
  have s1 := hS.cell 1
  simp at s1
  have hS := hS.below bn
  have bv := bv.thenB' bn
  have bw := bb.thenB' bv
  have hcl := owned3_any D D' A A' c c' L R g6 g7 _ (hL.below bw) (hR.below bw) (ht.below bw) hl1 hl2 hn (h6.below bv) (h7.below bv)
  obtain ⟨z1, hz1⟩ : ∃ z, ownedP (pcs L) (prs R) = z := ⟨_, rfl⟩
  rw [hz1] at hcl
  have HZ1 := Lib.hid hz1
  clear hz1
  go_wp2_with fail
  refine hcl.mono ?_
  clear hcl s1 bn
  rintro e w7 ⟨rfl, bq⟩
  have hS := hS.below bq
  have bv := bv.thenB' bq
  have bw := bb.thenB' bv
  clear bq
  cases z1
  · have HE : Hid (rightP size (pcs L) (prs R) = false) := Lib.hid (by rw [all_four, HZ1.out, Bool.and_false]; rfl)
    go_wp2_with fail
    go_ret
    exact ⟨by rw [HE.out] <;> rfl, bw⟩
  go_wp2_with fail
  rw [rounds_succ]
  have bn := below_new w7 (.cells #[.func (.func 36) #[] #[.pointer (some ⟨g7, 0, none⟩), .pointer (some ⟨g4, 0, none⟩), .pointer (some ⟨g5, 0, none⟩), .pointer (some ⟨g6, 0, none⟩)]] 75)
  have s2 := hS.cell 2
  simp at s2
  have hS := hS.below bn
  have bv := bv.thenB' bn
  have bw := bb.thenB' bv
  have hcl := each_any D D' A A' c c' L R size g7 g4 g5 g6 _ (hL.below bw) (hR.below bw) (ht.below bw) hl1 hl2 h64 (h7.below bv) (h4.below bv) (h5.below bv) (h6.below bv)
  obtain ⟨z2, hz2⟩ : ∃ z, (prs R).all (answeredP size (pcs L)) = z := ⟨_, rfl⟩
  rw [hz2] at hcl
  have HZ2 := Lib.hid hz2
  clear hz2
  go_wp2_with fail
  refine hcl.mono ?_
  clear hcl s2 bn
  rintro e w8 ⟨rfl, bq⟩
  have hS := hS.below bq
  have bv := bv.thenB' bq
  have bw := bb.thenB' bv
  clear bq
  cases z2
  · have HE : Hid (rightP size (pcs L) (prs R) = false) := Lib.hid (by rw [all_four, HZ2.out, Bool.and_false])
    go_wp2_with fail
    go_ret
    exact ⟨by rw [HE.out] <;> rfl, bw⟩
  go_wp2_with fail
  rw [rounds_succ]
  have HE : Hid (rightP size (pcs L) (prs R) = true) := Lib.hid (by rw [all_four, HZ0.out, HZ1.out, HZ2.out]; rfl)
  go_wp2_with fail
  go_ret
  exact ⟨by rw [HE.out] <;> rfl, bw⟩
end Go.Proofs.YthkeoimjjgmppaaDoor

/- The past: commits, records and calls as arguments. -/
namespace Go.Proofs.YthkeoimjjgmppaaDoor
open Go.ChangeShapes Go.WideShapes Go.ChangeAt Go.Deep Go.RowKit
set_option linter.unusedVariables false
set_option maxRecDepth 100000

theorem trod_at {H : Type} {enc : TypeId × Value → H} {P : Program} {w : World} {base : Nat} {spare : Nat → Bool} {held : Bool} {t : TypeId} {fs : Array Field} {fuel : Nat} {cs : List Value} {x : DataW H × List MemPlace} (ht : P.underlying t = some (.struct fs)) (h : DataW.trod enc P w base spare held fuel t cs = some x) :
    ∃ n, cs.length = P.cellsOf t ∧ ∀ (i : Nat) (f : Field), fs[i]? = some f → ∀ (t : TypeId) (k o : Nat), P.cellsOf t = k → f.type = t → f.offset = o → ∃ y, DataW.trod enc P w base spare held n t ((cs.drop o).take k) = some y := by
  obtain ⟨xs, n, _, _, hl, hx, hat⟩ := DataW.trod_struct ht h
  refine ⟨n, hl, fun i f hf t k o hk ht ho => ?_⟩
  subst hk ht ho
  have hi : i < fs.size := (Array.getElem?_eq_some_iff.1 hf).1
  exact ⟨xs[i]'(by omega), (hat i f hf).trans (List.getElem?_eq_getElem (by omega))⟩
theorem ls3 {α : Type} {l : List α} {x0 x1 x2 : α} (hl : l.length = 3) (h0 : (l.drop 0).take 1 = [x0]) (h1 : (l.drop 1).take 1 = [x1]) (h2 : (l.drop 2).take 1 = [x2]) : l = [x0, x1, x2] := by
  match l, hl with
  | [a0, a1, a2], _ =>
    simp only [List.drop_zero, List.drop_succ_cons, List.take_succ_cons, List.take_zero, List.cons.injEq, and_true] at h0 h1 h2
    subst h0 h1 h2
    rfl
theorem ls4 {α : Type} {l : List α} {x0 x1 x2 x3 : α} (hl : l.length = 4) (h0 : (l.drop 0).take 1 = [x0]) (h1 : (l.drop 1).take 1 = [x1]) (h2 : (l.drop 2).take 1 = [x2]) (h3 : (l.drop 3).take 1 = [x3]) : l = [x0, x1, x2, x3] := by
  match l, hl with
  | [a0, a1, a2, a3], _ =>
    simp only [List.drop_zero, List.drop_succ_cons, List.take_succ_cons, List.take_zero, List.cons.injEq, and_true] at h0 h1 h2 h3
    subst h0 h1 h2 h3
    rfl
theorem ls6 {α : Type} {l : List α} {x0 x1 x2 x3 x4 x5 : α} (hl : l.length = 6) (h0 : (l.drop 0).take 1 = [x0]) (h1 : (l.drop 1).take 1 = [x1]) (h2 : (l.drop 2).take 1 = [x2]) (h3 : (l.drop 3).take 1 = [x3]) (h4 : (l.drop 4).take 1 = [x4]) (h5 : (l.drop 5).take 1 = [x5]) : l = [x0, x1, x2, x3, x4, x5] := by
  match l, hl with
  | [a0, a1, a2, a3, a4, a5], _ =>
    simp only [List.drop_zero, List.drop_succ_cons, List.take_succ_cons, List.take_zero, List.cons.injEq, and_true] at h0 h1 h2 h3 h4 h5
    subst h0 h1 h2 h3 h4 h5
    rfl
theorem ls7 {α : Type} {l : List α} {x0 x1 x2 x3 x4 x5 x6 : α} (hl : l.length = 7) (h0 : (l.drop 0).take 1 = [x0]) (h1 : (l.drop 1).take 1 = [x1]) (h2 : (l.drop 2).take 1 = [x2]) (h3 : (l.drop 3).take 1 = [x3]) (h4 : (l.drop 4).take 1 = [x4]) (h5 : (l.drop 5).take 1 = [x5]) (h6 : (l.drop 6).take 1 = [x6]) : l = [x0, x1, x2, x3, x4, x5, x6] := by
  match l, hl with
  | [a0, a1, a2, a3, a4, a5, a6], _ =>
    simp only [List.drop_zero, List.drop_succ_cons, List.take_succ_cons, List.take_zero, List.cons.injEq, and_true] at h0 h1 h2 h3 h4 h5 h6
    subst h0 h1 h2 h3 h4 h5 h6
    rfl
section
variable {H : Type} {enc : TypeId × Value → H} {P : Program} {w : World} {base : Nat} {spare : Nat → Bool} {held : Bool}
/-- A row of elements of k cells, each read whole. -/
theorem readS {α : Type} {t e : TypeId} {k : Nat} {fuel : Nat} {cs : List Value} {x : DataW H × List MemPlace} (ht : P.underlying t = some (.slice e)) (hC : P.cellsOf e = k) (cells : α → List Value) (Pr : α → Prop)
    (hel : ∀ (l : List Value) (n : Nat) y, l.length = k → DataW.trod enc P w base spare held n e l = some y → ∃ s, cells s = l ∧ Pr s)
    (h : DataW.trod enc P w base spare held fuel t cs = some x) (h0 : 0 < k) (hcl : ∀ s, (cells s).length = k) :
    ∃ A L c, cs = [.slice A L.length c] ∧ RdL w (Old w) k cells A L ∧ L.length ≤ c ∧ c ≤ 9223372036854775807 ∧ (A = none → c = 0) ∧ ∀ s ∈ L, Pr s := by
  rcases open_slice ht h with ⟨hcs, _⟩ | ⟨a, len, cap, m, n, D, Pl, hcs, _, hl, hm, hmm, _, hi⟩
  · exact ⟨none, [], 0, hcs, fun h => absurd h (by simp), by simp, by omega, fun _ => rfl, by simp⟩
  · have each : ∀ i, i < len → ∃ s, Pr s ∧ ∀ j v, (cells s)[j]? = some v → w.cell? (a.add (i * k + j)) = some v := fun i hil => by
      have him : i < m := by rw [hmm]; split <;> omega
      obtain ⟨cs', hc, ht'⟩ := hi i him
      rw [hC] at hc
      obtain ⟨_, hcl', hat⟩ := World.cells?_some hc
      obtain ⟨s, hs, hp⟩ := hel cs' _ _ hcl' ht'
      refine ⟨s, hp, fun j v hv => ?_⟩
      rw [hs] at hv
      have hj : j < k := by rw [← hcl']; exact (List.getElem?_eq_some_iff.1 hv).1
      have hcell := hat j hj
      rw [hv, Go.Deep.add_add] at hcell
      exact hcell
    obtain ⟨L, hL, hQ⟩ := listOf len each
    refine ⟨some a, L, cap, by rw [hL]; exact hcs, fun hn => ⟨a, rfl, ?_, fun i s hs => (hQ i s hs).2⟩, by omega, by unfold maxLen at hm; omega, by simp, fun s hs => ?_⟩
    · have h1 := (hQ 0 L[0] (List.getElem?_eq_getElem hn)).2 0 _ (List.getElem?_eq_getElem (by rw [hcl]; exact h0))
      have := World.block_lt_of_cell? w _ h1
      rwa [block_of_add] at this
    · obtain ⟨i, hi, rfl⟩ := List.getElem_of_mem hs
      exact (hQ i _ (List.getElem?_eq_getElem hi)).1
end
section
variable {H : Type} {enc : TypeId × Value → H} {w : World} {base : Nat} {spare : Nat → Bool} {held : Bool} {fuel : Nat} {cs : List Value} {x : DataW H × List MemPlace}
theorem readErr (h : DataW.trod enc Tryd.prog w base spare held fuel 38 cs = some x) : ∃ n, cs = [.int .i64 n] ∧ I64 n := by
  obtain ⟨n, hcs, _, hw⟩ := DataW.trod_int Tryd.underlying38 h
  exact ⟨n, hcs, i64_of hw⟩
theorem readBo (h : DataW.trod enc Tryd.prog w base spare held fuel 4 cs = some x) : ∃ b, cs = [.bool b] := by
  obtain ⟨b, hcs, _⟩ := DataW.trod_bool Tryd.underlying4 h
  exact ⟨b, hcs⟩
/-- The numbers of an entry, of a call. -/
def EnI (e : E7) : Prop := I64 e.seq ∧ I64 e.owner ∧ I64 e.kind ∧ I64 e.off ∧ I64 e.len ∧ I64 e.snap
def CaI (x : PL) : Prop := I64 x.image ∧ I64 x.kind ∧ I64 x.off ∧ I64 x.len ∧ I64 x.snap
theorem readEn (hlen : cs.length = 7) (h : DataW.trod enc Tryd.prog w base spare held fuel 32 cs = some x) :
    ∃ (e : E7) (A : Option Addr) (c : Nat), cs = (enA e A c).toList ∧ RdC w (Old w) A e.data c ∧ EnI e := by
  obtain ⟨n, _, hat⟩ := trod_at Tryd.underlying32 h
  have c1 : Tryd.prog.cellsOf 3 = 1 := by kernel_rfl
  have c2 : Tryd.prog.cellsOf 23 = 1 := by kernel_rfl
  obtain ⟨_, h0⟩ := hat 0 _ rfl 3 1 0 c1 rfl rfl
  obtain ⟨_, h1⟩ := hat 1 _ rfl 3 1 1 c1 rfl rfl
  obtain ⟨_, h2⟩ := hat 2 _ rfl 3 1 2 c1 rfl rfl
  obtain ⟨_, h3⟩ := hat 3 _ rfl 3 1 3 c1 rfl rfl
  obtain ⟨_, h4⟩ := hat 4 _ rfl 3 1 4 c1 rfl rfl
  obtain ⟨_, h5⟩ := hat 5 _ rfl 3 1 5 c1 rfl rfl
  obtain ⟨_, h6⟩ := hat 6 _ rfl 23 1 6 c2 rfl rfl
  obtain ⟨z0, e0, i0⟩ := readN h0
  obtain ⟨z1, e1, i1⟩ := readN h1
  obtain ⟨z2, e2, i2⟩ := readN h2
  obtain ⟨z3, e3, i3⟩ := readN h3
  obtain ⟨z4, e4, i4⟩ := readN h4
  obtain ⟨z5, e5, i5⟩ := readN h5
  obtain ⟨A, b, c, e6, rb, lb, mb, _⟩ := readB h6
  exact ⟨⟨z0, z1, z2, z3, z4, z5, b⟩, A, c, ls7 hlen e0 e1 e2 e3 e4 e5 e6, ⟨rb, lb, mb⟩, i0, i1, i2, i3, i4, i5⟩
theorem readCa (hlen : cs.length = 6) (h : DataW.trod enc Tryd.prog w base spare held fuel 25 cs = some x) :
    ∃ (e : PL) (A : Option Addr) (c : Nat), cs = caC e A c ∧ RdC w (Old w) A e.data c ∧ CaI e := by
  obtain ⟨n, _, hat⟩ := trod_at Tryd.underlying25 h
  have c1 : Tryd.prog.cellsOf 3 = 1 := by kernel_rfl
  have c2 : Tryd.prog.cellsOf 23 = 1 := by kernel_rfl
  obtain ⟨_, h0⟩ := hat 0 _ rfl 3 1 0 c1 rfl rfl
  obtain ⟨_, h1⟩ := hat 1 _ rfl 3 1 1 c1 rfl rfl
  obtain ⟨_, h2⟩ := hat 2 _ rfl 3 1 2 c1 rfl rfl
  obtain ⟨_, h3⟩ := hat 3 _ rfl 3 1 3 c1 rfl rfl
  obtain ⟨_, h4⟩ := hat 4 _ rfl 3 1 4 c1 rfl rfl
  obtain ⟨_, h5⟩ := hat 5 _ rfl 23 1 5 c2 rfl rfl
  obtain ⟨z0, e0, i0⟩ := readN h0
  obtain ⟨z1, e1, i1⟩ := readN h1
  obtain ⟨z2, e2, i2⟩ := readN h2
  obtain ⟨z3, e3, i3⟩ := readN h3
  obtain ⟨z4, e4, i4⟩ := readN h4
  obtain ⟨A, b, c, e5, rb, lb, mb, _⟩ := readB h5
  exact ⟨⟨z0, z1, z2, z3, z4, b⟩, A, c, ls6 hlen e0 e1 e2 e3 e4 e5, ⟨rb, lb, mb⟩, i0, i1, i2, i3, i4⟩
/-- A result's cells. -/
theorem readRe (hlen : cs.length = 4) (h : DataW.trod enc Tryd.prog w base spare held fuel 42 cs = some x) :
    ∃ (E : Int) (A : Option Addr) (d : List UInt8) (c : Nat) (N X : Int), cs = [.int .i64 E, .slice A d.length c, .int .i64 N, .int .i64 X] ∧ RdC w (Old w) A d c ∧ I64 E ∧ I64 N ∧ I64 X := by
  obtain ⟨n, _, hat⟩ := trod_at Tryd.underlying42 h
  have c1 : Tryd.prog.cellsOf 3 = 1 := by kernel_rfl
  have c2 : Tryd.prog.cellsOf 23 = 1 := by kernel_rfl
  have c3 : Tryd.prog.cellsOf 38 = 1 := by kernel_rfl
  obtain ⟨_, h0⟩ := hat 0 _ rfl 38 1 0 c3 rfl rfl
  obtain ⟨_, h1⟩ := hat 1 _ rfl 23 1 1 c2 rfl rfl
  obtain ⟨_, h2⟩ := hat 2 _ rfl 3 1 2 c1 rfl rfl
  obtain ⟨_, h3⟩ := hat 3 _ rfl 3 1 3 c1 rfl rfl
  obtain ⟨E, e0, i0⟩ := readErr h0
  obtain ⟨A, b, c, e1, rb, lb, mb, _⟩ := readB h1
  obtain ⟨N, e2, i2⟩ := readN h2
  obtain ⟨X, e3, i3⟩ := readN h3
  exact ⟨E, A, b, c, N, X, ls4 hlen e0 e1 e2 e3, ⟨rb, lb, mb⟩, i0, i2, i3⟩
def CmI (s : CmV) : Prop := I64 s.ix ∧ I64 s.im ∧ EnI s.e
def RcI (s : RcV) : Prop := I64 s.cl ∧ CaI s.call ∧ I64 s.fr ∧ I64 s.tt ∧ I64 s.E ∧ I64 s.N ∧ I64 s.rx
theorem split_at {l : List Value} {k m : Nat} {a b c : List Value} (h1 : l.take k = a) (h2 : (l.drop k).take m = b) (h3 : l.drop (k + m) = c) : l = a ++ (b ++ c) := by
  rw [← h1, ← h2, ← h3, ← List.drop_drop, List.take_append_drop, List.take_append_drop]
theorem readCm (hlen : cs.length = 9) (h : DataW.trod enc Tryd.prog w base spare held fuel 50 cs = some x) : ∃ s, cmC s = cs ∧ CmR w (Old w) s ∧ CmI s := by
  obtain ⟨n, _, hat⟩ := trod_at Tryd.underlying50 h
  have c1 : Tryd.prog.cellsOf 3 = 1 := by kernel_rfl
  have c2 : Tryd.prog.cellsOf 32 = 7 := by kernel_rfl
  obtain ⟨_, h0⟩ := hat 0 _ rfl 3 1 0 c1 rfl rfl
  obtain ⟨_, h1⟩ := hat 1 _ rfl 3 1 1 c1 rfl rfl
  obtain ⟨_, h2⟩ := hat 2 _ rfl 32 7 2 c2 rfl rfl
  obtain ⟨z0, e0, i0⟩ := readN h0
  obtain ⟨z1, e1, i1⟩ := readN h1
  obtain ⟨e, A, c, e2, r, i2⟩ := readEn (by rw [List.length_take, List.length_drop]; omega) h2
  refine ⟨⟨z0, z1, e, A, c⟩, ?_, r, i0, i1, i2⟩
  match cs, hlen with
  | [a0, a1, a2, a3, a4, a5, a6, a7, a8], _ =>
    simp only [List.drop_zero, List.drop_succ_cons, List.take_succ_cons, List.take_zero, List.cons.injEq, and_true] at e0 e1 e2
    subst e0 e1
    unfold cmC
    rw [e2]
    rfl
theorem readRc (hlen : cs.length = 14) (h : DataW.trod enc Tryd.prog w base spare held fuel 44 cs = some x) : ∃ s, rcC s = cs ∧ RcR w (Old w) s ∧ RcI s := by
  obtain ⟨n, _, hat⟩ := trod_at Tryd.underlying44 h
  have c1 : Tryd.prog.cellsOf 3 = 1 := by kernel_rfl
  have c2 : Tryd.prog.cellsOf 25 = 6 := by kernel_rfl
  have c3 : Tryd.prog.cellsOf 4 = 1 := by kernel_rfl
  have c4 : Tryd.prog.cellsOf 42 = 4 := by kernel_rfl
  obtain ⟨_, h0⟩ := hat 0 _ rfl 3 1 0 c1 rfl rfl
  obtain ⟨_, h1⟩ := hat 1 _ rfl 25 6 1 c2 rfl rfl
  obtain ⟨_, h2⟩ := hat 2 _ rfl 3 1 7 c1 rfl rfl
  obtain ⟨_, h3⟩ := hat 3 _ rfl 3 1 8 c1 rfl rfl
  obtain ⟨_, h4⟩ := hat 4 _ rfl 4 1 9 c3 rfl rfl
  obtain ⟨_, h5⟩ := hat 5 _ rfl 42 4 10 c4 rfl rfl
  obtain ⟨z0, e0, i0⟩ := readN h0
  obtain ⟨y, A, c, e1, r1, i1⟩ := readCa (by rw [List.length_take, List.length_drop]; omega) h1
  obtain ⟨z2, e2, i2⟩ := readN h2
  obtain ⟨z3, e3, i3⟩ := readN h3
  obtain ⟨z4, e4⟩ := readBo h4
  obtain ⟨E, A2, d2, n2, N, X, e5, r5, i5, i6, i7⟩ := readRe (by rw [List.length_take, List.length_drop]; omega) h5
  refine ⟨⟨z0, y, A, c, z2, z3, z4, E, A2, d2, n2, N, X⟩, ?_, ⟨r1, r5⟩, i0, i1, i2, i3, i5, i6, i7⟩
  match cs, hlen with
  | [a0, a1, a2, a3, a4, a5, a6, a7, a8, a9, a10, a11, a12, a13], _ =>
    unfold caC at e1
    simp only [List.drop_zero, List.drop_succ_cons, List.take_succ_cons, List.take_zero, List.cons.injEq, and_true] at e0 e1 e2 e3 e4 e5
    obtain ⟨p1, p2, p3, p4, p5, p6⟩ := e1
    obtain ⟨q1, q2, q3, q4⟩ := e5
    subst e0 e2 e3 e4 p1 p2 p3 p4 p5 p6 q1 q2 q3 q4
    rfl
end
section
variable {H : Type} {enc : TypeId × Value → H} {W : World} {base : Nat} {v : Value} {d : DataW H} {p : List MemPlace}
theorem openCms (hv : Value.okWide Tryd.prog W .any base 27 v) (h : DataW.Trod enc Tryd.prog W 0 (fun _ => true) true 27 v d p) :
    ∃ A L c, v = .slice A L.length c ∧ CmsR W (Old W) A c L ∧ ∀ s ∈ L, CmI s := by
  obtain ⟨a, l, c, rfl⟩ := okWide_slice Tryd.underlying27 hv
  obtain ⟨fuel, hf⟩ := h
  obtain ⟨A, L, c', hcs, r1, r2, r3, _, r5⟩ := readS Tryd.underlying27 (k := 9) (by kernel_rfl) cmC (fun s => CmR W (Old W) s ∧ CmI s) (fun l n y hl ht => readCm hl ht) hf (by decide) (fun _ => rfl)
  simp [Value.cells] at hcs
  obtain ⟨rfl, rfl, rfl⟩ := hcs
  exact ⟨_, _, _, rfl, ⟨r1, r2, r3, fun s hs => (r5 s hs).1⟩, fun s hs => (r5 s hs).2⟩
theorem openRcs (hv : Value.okWide Tryd.prog W .any base 28 v) (h : DataW.Trod enc Tryd.prog W 0 (fun _ => true) true 28 v d p) :
    ∃ A L c, v = .slice A L.length c ∧ RcsR W (Old W) A c L ∧ ∀ s ∈ L, RcI s := by
  obtain ⟨a, l, c, rfl⟩ := okWide_slice Tryd.underlying28 hv
  obtain ⟨fuel, hf⟩ := h
  obtain ⟨A, L, c', hcs, r1, r2, r3, _, r5⟩ := readS Tryd.underlying28 (k := 14) (by kernel_rfl) rcC (fun s => RcR W (Old W) s ∧ RcI s) (fun l n y hl ht => readRc hl ht) hf (by decide) (fun _ => rfl)
  simp [Value.cells] at hcs
  obtain ⟨rfl, rfl, rfl⟩ := hcs
  exact ⟨_, _, _, rfl, ⟨r1, r2, r3, fun s hs => (r5 s hs).1⟩, fun s hs => (r5 s hs).2⟩
/-- A call, with the slice that holds its bytes. -/
structure CaV where
  x : PL
  A : Option Addr
  c : Nat
def CaV.C (s : CaV) : List Value := caC s.x s.A s.c
structure CasR (w : World) (D : Nat → Prop) (A : Option Addr) (c : Nat) (L : List CaV) : Prop where
  rd : RdL w D 6 CaV.C A L
  cap : L.length ≤ c
  max : c ≤ 9223372036854775807
  all : ∀ s ∈ L, RdC w D s.A s.x.data s.c
theorem CasR.below {w w' : World} {D : Nat → Prop} {A : Option Addr} {c : Nat} {L : List CaV} (h : CasR w D A c L) (hb : Below w.heap.size w w') : CasR w' D A c L := ⟨h.rd.below hb, h.cap, h.max, fun s hs => (h.all s hs).below hb⟩
theorem openCas (hv : Value.okWide Tryd.prog W .any base 22 v) (h : DataW.Trod enc Tryd.prog W 0 (fun _ => true) true 22 v d p) :
    ∃ A L c, v = .slice A L.length c ∧ CasR W (Old W) A c L ∧ ∀ s ∈ L, CaI s.x := by
  obtain ⟨a, l, c, rfl⟩ := okWide_slice Tryd.underlying22 hv
  obtain ⟨fuel, hf⟩ := h
  obtain ⟨A, L, c', hcs, r1, r2, r3, _, r5⟩ := readS Tryd.underlying22 (k := 6) (by kernel_rfl) CaV.C (fun s => RdC W (Old W) s.A s.x.data s.c ∧ CaI s.x) (fun l n y hl ht => by
    obtain ⟨e, A, c, h1, h2, h3⟩ := readCa hl ht
    exact ⟨⟨e, A, c⟩, h1.symm, h2, h3⟩) hf (by decide) (fun _ => rfl)
  simp [Value.cells] at hcs
  obtain ⟨rfl, rfl, rfl⟩ := hcs
  exact ⟨_, _, _, rfl, ⟨r1, r2, r3, fun s hs => (r5 s hs).1⟩, fun s hs => (r5 s hs).2⟩
theorem openCa (hv : Value.okWide Tryd.prog W .any base 25 v) (h : DataW.Trod enc Tryd.prog W 0 (fun _ => true) true 25 v d p) :
    ∃ s : CaV, v = .agg s.C.toArray ∧ RdC W (Old W) s.A s.x.data s.c ∧ CaI s.x := by
  obtain ⟨cs, rfl, hsz⟩ := okWide_struct Tryd.underlying25 hv
  obtain ⟨fuel, hf⟩ := h
  obtain ⟨n, hlen, _⟩ := trod_at Tryd.underlying25 hf
  have c7 : Tryd.prog.cellsOf 25 = 6 := by kernel_rfl
  rw [c7] at hlen
  obtain ⟨e, A, c, h1, h2, h3⟩ := readCa hlen hf
  refine ⟨⟨e, A, c⟩, ?_, h2, h3⟩
  have hcs : cs.toList = _ := h1
  show Value.agg cs = Value.agg (caC e A c).toArray
  rw [← hcs]
end
end Go.Proofs.YthkeoimjjgmppaaDoor

/- The past: the laws' own helpers: the layout, few, the document's example. -/
namespace Go.Proofs.YthkeoimjjgmppaaDoor
open Go.RowKit
set_option linter.unusedVariables false
set_option maxRecDepth 100000

theorem infoLy : (Tryd.prog.info? 47).map (·.size) = some 3 := by kernel_rfl
theorem layout_any (w : World) : Calls Tryd.prog 14 #[] w fun e w' => e = .returned (.agg #[.int .i64 4, .int .i64 2, .int .i64 16]) ∧ Below w.heap.size w w' := by
  have hB := Blk.new w 47 #[.int .i64 0, .int .i64 0, .int .i64 0]
  have bn := below_new w (.cells #[.int .i64 0, .int .i64 0, .int .i64 0] 47)
  go_enter Tryd.func14, Tryd.ntmps14
  go_wp2_with fail
  (try simp only [Exit.inBlock, Exit.then])
  have hq := Blk.new w 47 #[.int .i64 4, .int .i64 2, .int .i64 16]
  have bq := below_new w (.cells #[.int .i64 4, .int .i64 2, .int .i64 16] 47)
  refine bodyPost_ret (results_cell1 rfl _ _ w.heap.size _ _ (0, 0) _ rfl hq Tryd.underlying47 rfl infoLy) rfl ?_
  exact ⟨rfl, bq⟩

/-! ### few -/
def fewC (s : CmV) : Bool := decide (s.e.data.length ≤ 200)
def fewR (s : RcV) : Bool := decide (s.call.data.length ≤ 200) && decide (s.rd.length ≤ 600)
def fewP (L : List CmV) (R : List RcV) : Bool := decide (L.length ≤ 20) && decide (R.length ≤ 20) && L.all fewC && R.all fewR
theorem few_yes {L : List CmV} {R : List RcV} (h : fewP L R = true) : L.length ≤ 20 ∧ R.length ≤ 20 ∧ (∀ s ∈ L, s.e.data.length ≤ 200) ∧ ∀ s ∈ R, s.call.data.length ≤ 200 ∧ s.rd.length ≤ 600 := by
  unfold fewP at h
  simp only [Bool.and_eq_true, decide_eq_true_eq, List.all_eq_true] at h
  refine ⟨h.1.1.1, h.1.1.2, fun s hs => ?_, fun s hs => ?_⟩
  · have := h.1.2 s hs
    unfold fewC at this
    simpa using this
  · have := h.2 s hs
    unfold fewR at this
    simpa using this
theorem all_step {α : Type} (f : α → Bool) (L : List α) (j : Nat) (hj : j < L.length) : (L.drop j).all f = (f L[j] && (L.drop (j + 1)).all f) := by
  rw [List.drop_eq_getElem_cons hj, List.all_cons]
set_option maxHeartbeats 4000000 in
theorem few_any (D D' : Nat → Prop) (A A' : Option Addr) (c c' : Nat) (L : List CmV) (R : List RcV) (w : World) (hL : CmsR w D A c L) (hR : RcsR w D' A' c' R) :
    Calls Tryd.prog 15 #[.slice A L.length c, .slice A' R.length c'] w fun e w' => e = .returned (.bool (fewP L R)) ∧ Below w.heap.size w w' := by
  have hc := hL.cap
  have hm := hL.max
  have hc' := hR.cap
  have hm' := hR.max
  by_cases h1 : L.length ≤ 20
  · by_cases h2 : R.length ≤ 20
    · have HF : Hid (fewP L R = (L.all fewC && R.all fewR)) := Lib.hid (by unfold fewP; rw [decide_eq_true h1, decide_eq_true h2]; rfl)
      have h1' : ¬ (20 : Int) < (L.length : Int) := by omega
      have h2' : ¬ (20 : Int) < (R.length : Int) := by omega
      go_enter Tryd.func15, Tryd.ntmps15
      go_wp2_with fail
      go_loopw [5] (fun s5 wr => ∃ j : Nat, s5 = .int .i64 (j : Int) ∧ j ≤ L.length ∧ Hid ((L.drop j).all fewC = L.all fewC) ∧ Below w.heap.size w wr) (fun s5 _ => L.length - (intOf s5).toNat)
      case atStart => exact ⟨0, rfl, Nat.zero_le _, Lib.hid rfl, Below.refl _ _⟩
      case round =>
        obtain ⟨j, rfl, hj, HA, bb⟩ := hrel
        by_cases hlt : j < L.length
        · obtain ⟨ad, rfl, -, -, -, -, -, -, -, -, d8⟩ := (hL.below bb).at_ hlt
          have HS := Lib.hid (all_step fewC L j hlt)
          generalize L[j] = s at *
          by_cases hs : s.e.data.length ≤ 200
          · have hs' : ¬ (200 : Int) < (s.e.data.length : Int) := by omega
            have H2 : Hid ((L.drop (j + 1)).all fewC = L.all fewC) := Lib.hid (by rw [← HA.out, HS.out, show fewC s = true from decide_eq_true hs, Bool.true_and])
            clear HA HS
            go_wp2_with fail
            go_roundw
            case rel => exact ⟨j + 1, by go_num, hlt, H2, bb⟩
            case measure => simp only [intOf]; omega
          · have hs' : (200 : Int) < (s.e.data.length : Int) := by omega
            have H2 : Hid (fewP L R = false) := Lib.hid (by rw [HF.out, ← HA.out, HS.out, show fewC s = false from decide_eq_false hs, Bool.false_and, Bool.false_and])
            clear HA HS
            go_wp2_with fail
            go_ret
            exact ⟨by rw [H2.out] <;> rfl, bb⟩
        · obtain rfl : j = L.length := by omega
          have HF : Hid (fewP L R = R.all fewR) := Lib.hid (by rw [HF.out, ← HA.out, List.drop_length]; rfl)
          clear HA
          go_wp2_with fail
          go_loopw [6] (fun s6 wr => ∃ j : Nat, s6 = .int .i64 (j : Int) ∧ j ≤ R.length ∧ Hid ((R.drop j).all fewR = R.all fewR) ∧ Below w.heap.size w wr) (fun s6 _ => R.length - (intOf s6).toNat)
          case atStart => exact ⟨0, rfl, Nat.zero_le _, Lib.hid rfl, bb⟩
          case round =>
            clear bb
            obtain ⟨j, rfl, hj, HA, bb⟩ := hrel
            by_cases hlt : j < R.length
            · obtain ⟨ad, rfl, -, -, -, -, -, -, d6, -, -, -, -, d11, -, -⟩ := (hR.below bb).at_ hlt
              have HS := Lib.hid (all_step fewR R j hlt)
              generalize R[j] = s at *
              by_cases hs : s.call.data.length ≤ 200
              · have hs' : ¬ (200 : Int) < (s.call.data.length : Int) := by omega
                by_cases hs2 : s.rd.length ≤ 600
                · have hs3 : ¬ (600 : Int) < (s.rd.length : Int) := by omega
                  have H2 : Hid ((R.drop (j + 1)).all fewR = R.all fewR) := Lib.hid (by rw [← HA.out, HS.out, show fewR s = true by unfold fewR; rw [decide_eq_true hs, decide_eq_true hs2]; rfl, Bool.true_and])
                  clear HA HS
                  go_wp2_with fail
                  go_roundw
                  case rel => exact ⟨j + 1, by go_num, hlt, H2, bb⟩
                  case measure => simp only [intOf]; omega
                · have hs3 : (600 : Int) < (s.rd.length : Int) := by omega
                  have H2 : Hid (fewP L R = false) := Lib.hid (by rw [HF.out, ← HA.out, HS.out, show fewR s = false by unfold fewR; rw [decide_eq_false hs2, Bool.and_false], Bool.false_and])
                  clear HA HS
                  go_wp2_with fail
                  go_ret
                  exact ⟨by rw [H2.out] <;> rfl, bb⟩
              · have hs' : (200 : Int) < (s.call.data.length : Int) := by omega
                have H2 : Hid (fewP L R = false) := Lib.hid (by rw [HF.out, ← HA.out, HS.out, show fewR s = false by unfold fewR; rw [decide_eq_false hs, Bool.false_and], Bool.false_and])
                clear HA HS
                go_wp2_with fail
                go_ret
                exact ⟨by rw [H2.out] <;> rfl, bb⟩
            · obtain rfl : j = R.length := by omega
              have H2 : Hid (fewP L R = true) := Lib.hid (by rw [HF.out, ← HA.out, List.drop_length]; rfl)
              clear HA
              go_wp2_with fail
              go_ret
              exact ⟨by rw [H2.out] <;> rfl, bb⟩
    · have HE : Hid (fewP L R = false) := Lib.hid (by unfold fewP; rw [decide_eq_false h2, Bool.and_false]; rfl)
      have h1' : ¬ (20 : Int) < (L.length : Int) := by omega
      have h2' : (20 : Int) < (R.length : Int) := by omega
      go_enter Tryd.func15, Tryd.ntmps15
      go_wp2_with fail
      go_ret
      exact ⟨by rw [HE.out] <;> rfl, Below.refl _ _⟩
  · have HE : Hid (fewP L R = false) := Lib.hid (by unfold fewP; rw [decide_eq_false h1]; rfl)
    have h1' : (20 : Int) < (L.length : Int) := by omega
    go_enter Tryd.func15, Tryd.ntmps15
    go_wp2_with fail
    go_ret
    exact ⟨by rw [HE.out] <;> rfl, Below.refl _ _⟩
/-! ### the document's example -/
theorem rd_mark (w : World) (bs : List UInt8) (cs : Array Value) (m : Nat × Nat) (hcs : cs = (bs.map cB).toArray) : RdB (w.alloc (.cells cs 5 m)) (fun _ => True) (some ⟨w.heap.size, 0, none⟩) bs := by
  refine ⟨by simp, fun _ => ⟨_, rfl, trivial, fun j u hj => ?_⟩⟩
  rw [add_head, cell_of_row _ w.heap.size j cs 5 m (heap_alloc_new w _), hcs]
  simpa using hj
theorem lit_b (w : World) (x : UInt8) (n : Int) (hx : n = (x.toNat : Int)) : ∃ W, (convert 23 23 (.slice (some ⟨w.heap.size, 0, none⟩) 1 1)).run Tryd.prog (w.alloc (.cells #[.int .u8 n] 5)) = .ok (.slice (some ⟨w.heap.size, 0, none⟩) 1 1) W ∧ RdB W (fun _ => True) (some ⟨w.heap.size, 0, none⟩) [x] ∧ Below w.heap.size w W := by
  subst hx
  exact ⟨_, Lib.run_convert_bytes_const w 23 5 _ 1 1 Tryd.underlying23 Tryd.underlying5, rd_mark w [x] _ _ rfl, below_new w _⟩
def twoC : PC := ⟨3, 0, ⟨1, 1, 1, 0, 0, 0, [97]⟩⟩
def twoR1 (at_ : Int) : PR := ⟨1, ⟨0, 1, 0, 0, 0, [97]⟩, 1, 4, true, 0, [], 0, at_⟩
def twoR2 (rd : Int) : PR := ⟨2, ⟨0, 0, 0, 1, 0, []⟩, 0, 9, true, 0, [97], 0, rd⟩
def Two (at_ rd : Int) (w : World) (e : Ending) (w' : World) : Prop := ∃ (A A' : Option Addr) (c c' : Nat) (L : List CmV) (R : List RcV), e = .returned (.tuple #[.slice A L.length c, .slice A' R.length c']) ∧ CmsR w' (fun _ => True) A c L ∧ RcsR w' (fun _ => True) A' c' R ∧ pcs L = [twoC] ∧ prs R = [twoR1 at_, twoR2 rd] ∧ Below w.heap.size w w'
theorem newRow {α : Type} {C : α → List Value} {k : Nat} (hk : ∀ x, (C x).length = k) (w : World) (T : TypeId) (cs : Array Value) (L : List α) (hcs : cs = (flC C L).toArray) : RdL (w.alloc (.cells cs T)) (fun _ => True) k C (some ⟨w.heap.size, 0, none⟩) L := fun hn => by
  subst hcs
  refine ⟨_, rfl, trivial, fun i s hs j v hv => ?_⟩
  rw [add_head, cell_of_row _ w.heap.size _ _ T (0, 0) (heap_alloc_new w _)]
  simpa using flC_at hk L i s hs j v hv
set_option maxHeartbeats 8000000 in
theorem two_any (at_ rd : Int) (w : World) : Calls Tryd.prog 25 #[.int .i64 at_, .int .i64 rd] w (Two at_ rd w) := by
  obtain ⟨W1, hcv1, hr1, bW1⟩ := lit_b w 97 97 rfl
  go_enter Tryd.func25, Tryd.ntmps25
  go_upto_region 2 with fail
  clear hcv1
  have hC := newRow cmC_len W1 50 _ [(⟨3, 0, ⟨1, 1, 1, 0, 0, 0, [97]⟩, some ⟨w.heap.size, 0, none⟩, 1⟩ : CmV)] rfl
  have bn := below_new W1 (.cells (flC cmC [(⟨3, 0, ⟨1, 1, 1, 0, 0, 0, [97]⟩, some ⟨w.heap.size, 0, none⟩, 1⟩ : CmV)]).toArray 50)
  have b2 := bW1.thenB' bn
  have hr1 := hr1.below bn
  generalize hw2 : W1.alloc (.cells (flC cmC [(⟨3, 0, ⟨1, 1, 1, 0, 0, 0, [97]⟩, some ⟨w.heap.size, 0, none⟩, 1⟩ : CmV)]).toArray 50) = w2 at *
  have hw2 : W1.alloc (.cells #[.int .i64 3, .int .i64 0, .int .i64 1, .int .i64 1, .int .i64 1, .int .i64 0, .int .i64 0, .int .i64 0, .slice (some ⟨w.heap.size, 0, none⟩) 1 1] 50) = w2 := hw2
  rw [hw2]
  clear hw2 bn bW1
  generalize W1.heap.size = gC at *
  obtain ⟨gA, hgA⟩ : ∃ gA, w.heap.size = gA := ⟨_, rfl⟩
  rw [hgA] at hr1 hC
  rw [hgA]
  clear hgA
  obtain ⟨W3, hcv3, hr3, bW3⟩ := lit_b w2 97 97 rfl
  go_upto_region 3 with fail
  clear hcv3
  obtain ⟨gB, hgB⟩ : ∃ gB, w2.heap.size = gB := ⟨_, rfl⟩
  rw [hgB] at hr3
  rw [hgB]
  clear hgB
  have h7 := Blk.new W3 44 #[.int .i64 1, .int .i64 0, .int .i64 1, .int .i64 0, .int .i64 0, .int .i64 0, .slice (some ⟨gB, 0, none⟩) 1 1, .int .i64 1, .int .i64 4, .bool true, .int .i64 0, .slice none 0 0, .int .i64 0, .int .i64 at_]
  have bn := below_new W3 (.cells #[.int .i64 1, .int .i64 0, .int .i64 1, .int .i64 0, .int .i64 0, .int .i64 0, .slice (some ⟨gB, 0, none⟩) 1 1, .int .i64 1, .int .i64 4, .bool true, .int .i64 0, .slice none 0 0, .int .i64 0, .int .i64 at_] 44)
  have hC := (hC.below bW3).below bn
  have hr1 := (hr1.below bW3).below bn
  have hr3 := hr3.below bn
  have b4 := (b2.thenB' bW3).thenB' bn
  generalize W3.alloc (.cells #[.int .i64 1, .int .i64 0, .int .i64 1, .int .i64 0, .int .i64 0, .int .i64 0, .slice (some ⟨gB, 0, none⟩) 1 1, .int .i64 1, .int .i64 4, .bool true, .int .i64 0, .slice none 0 0, .int .i64 0, .int .i64 at_] 44) = w4 at *
  generalize W3.heap.size = g7 at *
  clear bn bW3 b2
  obtain ⟨W5, hcv5, hr5, bW5⟩ := lit_b w4 97 97 rfl
  go_upto_region 4 with fail
  clear hcv5
  obtain ⟨gD, hgD⟩ : ∃ gD, w4.heap.size = gD := ⟨_, rfl⟩
  rw [hgD] at hr5
  rw [hgD]
  clear hgD
  have h8 := Blk.new W5 44 #[.int .i64 2, .int .i64 0, .int .i64 0, .int .i64 0, .int .i64 1, .int .i64 0, .slice none 0 0, .int .i64 0, .int .i64 9, .bool true, .int .i64 0, .slice (some ⟨gD, 0, none⟩) 1 1, .int .i64 0, .int .i64 rd]
  have bn := below_new W5 (.cells #[.int .i64 2, .int .i64 0, .int .i64 0, .int .i64 0, .int .i64 1, .int .i64 0, .slice none 0 0, .int .i64 0, .int .i64 9, .bool true, .int .i64 0, .slice (some ⟨gD, 0, none⟩) 1 1, .int .i64 0, .int .i64 rd] 44)
  have hC := (hC.below bW5).below bn
  have hr1 := (hr1.below bW5).below bn
  have hr3 := (hr3.below bW5).below bn
  have hr5 := hr5.below bn
  have h7 := (h7.below bW5).below bn
  have b6 := (b4.thenB' bW5).thenB' bn
  generalize W5.alloc (.cells #[.int .i64 2, .int .i64 0, .int .i64 0, .int .i64 0, .int .i64 1, .int .i64 0, .slice none 0 0, .int .i64 0, .int .i64 9, .bool true, .int .i64 0, .slice (some ⟨gD, 0, none⟩) 1 1, .int .i64 0, .int .i64 rd] 44) = w6 at *
  generalize W5.heap.size = g8 at *
  clear bn bW5 b4
  refine r_start (R := RB) (by rfl) (n := 6) (L := #[false, false, false, false, false, false]) rfl rfl ?_
  have bd : Below w6.heap.size w6 w6.drew := (Below.refl _ _).drew
  have hC := hC.below bd
  have hr1 := hr1.below bd
  have hr3 := hr3.below bd
  have hr5 := hr5.below bd
  have h7 := h7.below bd
  have h8 := h8.below bd
  have b6 := b6.thenB' bd
  clear bd
  generalize w6.drew = w6 at *
  refine r_flt RB_refl 0 26 #[true, false, false, false, false, false] (by simp only [List.getElem?_toArray, List.getElem?_cons_zero]; rfl) (by rfl) (by kernel_rfl) (by kernel_rfl) (by kernel_rfl) (fun _ _ _ _ h => h) rfl (by rfl) ?_
  apply Exists.intro
  apply And.intro
  · intro W hW
    first | (go_simp; with_reducible rfl) | go_simp
  (try simp only [Act.put, List.setIfInBounds_toArray]); (try simp only [List.set_cons_succ]); (try simp only [List.set_cons_zero])
  refine r_flt RB_refl 1 27 #[true, true, false, false, false, false] (by simp only [List.getElem?_toArray, List.getElem?_cons_succ, List.getElem?_cons_zero]; rfl) (by rfl) (by kernel_rfl) (by kernel_rfl) (by kernel_rfl) (fun _ _ _ _ h => h) rfl (by rfl) ?_
  apply Exists.intro
  apply And.intro
  · intro W hW
    have x0 := (h7.below hW).cell 0
    have x1 := (h7.below hW).cell 1
    have x2 := (h7.below hW).cell 2
    have x3 := (h7.below hW).cell 3
    have x4 := (h7.below hW).cell 4
    have x5 := (h7.below hW).cell 5
    have x6 := (h7.below hW).cell 6
    have x7 := (h7.below hW).cell 7
    have x8 := (h7.below hW).cell 8
    have x9 := (h7.below hW).cell 9
    have x10 := (h7.below hW).cell 10
    have x11 := (h7.below hW).cell 11
    have x12 := (h7.below hW).cell 12
    have x13 := (h7.below hW).cell 13
    simp at x0 x1 x2 x3 x4 x5 x6 x7 x8 x9 x10 x11 x12 x13
    go_simp; rfl
  (try simp only [Act.put, List.setIfInBounds_toArray]); (try simp only [List.set_cons_succ]); (try simp only [List.set_cons_zero])
  refine r_flt RB_refl 2 28 #[true, true, true, false, false, false] (by simp only [List.getElem?_toArray, List.getElem?_cons_succ, List.getElem?_cons_zero]; rfl) (by rfl) (by kernel_rfl) (by kernel_rfl) (by kernel_rfl) (fun _ _ _ _ h => h) rfl (by rfl) ?_
  apply Exists.intro
  apply And.intro
  · intro W hW
    have x0 := (h8.below hW).cell 0
    have x1 := (h8.below hW).cell 1
    have x2 := (h8.below hW).cell 2
    have x3 := (h8.below hW).cell 3
    have x4 := (h8.below hW).cell 4
    have x5 := (h8.below hW).cell 5
    have x6 := (h8.below hW).cell 6
    have x7 := (h8.below hW).cell 7
    have x8 := (h8.below hW).cell 8
    have x9 := (h8.below hW).cell 9
    have x10 := (h8.below hW).cell 10
    have x11 := (h8.below hW).cell 11
    have x12 := (h8.below hW).cell 12
    have x13 := (h8.below hW).cell 13
    simp at x0 x1 x2 x3 x4 x5 x6 x7 x8 x9 x10 x11 x12 x13
    go_simp; rfl
  (try simp only [Act.put, List.setIfInBounds_toArray]); (try simp only [List.set_cons_succ]); (try simp only [List.set_cons_zero])
  refine r_flt RB_refl 4 4 #[true, true, true, false, true, false] (by simp only [List.getElem?_toArray, List.getElem?_cons_succ, List.getElem?_cons_zero]; rfl) (by rfl) (by kernel_rfl) (by kernel_rfl) (by kernel_rfl) (fun _ _ _ _ h => h) rfl (by rfl) ?_
  apply Exists.intro
  apply And.intro
  · intro W hW
    first | (go_simp; with_reducible rfl) | go_simp
  (try simp only [Act.put, List.setIfInBounds_toArray]); (try simp only [List.set_cons_succ]); (try simp only [List.set_cons_zero])
  refine r_one RB_trans 3 (by kernel_rfl) ?_
  refine alt_val 29 #[true, true, true, true, true, false] (by simp only [List.getElem?_toArray, List.getElem?_cons_succ, List.getElem?_cons_zero]; rfl) (by rfl) rfl (by rfl) (by go_simp; first | exact ⟨rfl, rfl⟩ | rfl) ?_ ?_
  · exact below_new _ _
  have hRw := newRow rcC_len w6 44 _ [(⟨1, ⟨0, 1, 0, 0, 0, [97]⟩, some ⟨gB, 0, none⟩, 1, 1, 4, true, 0, none, [], 0, 0, at_⟩ : RcV), (⟨2, ⟨0, 0, 0, 1, 0, []⟩, none, 0, 0, 9, true, 0, some ⟨gD, 0, none⟩, [97], 1, 0, rd⟩ : RcV)] rfl
  have bn := below_new w6 (.cells (flC rcC [(⟨1, ⟨0, 1, 0, 0, 0, [97]⟩, some ⟨gB, 0, none⟩, 1, 1, 4, true, 0, none, [], 0, 0, at_⟩ : RcV), (⟨2, ⟨0, 0, 0, 1, 0, []⟩, none, 0, 0, 9, true, 0, some ⟨gD, 0, none⟩, [97], 1, 0, rd⟩ : RcV)]).toArray 44)
  have hC := hC.below bn
  have hr1 := hr1.below bn
  have hr3 := hr3.below bn
  have hr5 := hr5.below bn
  have b7 := b6.thenB' bn
  have HEND : Hid (Two at_ rd w (.returned (.tuple #[.slice (some ⟨gC, 0, none⟩) 1 1, .slice (some ⟨w6.heap.size, 0, none⟩) 2 2])) (w6.alloc (.cells (flC rcC [(⟨1, ⟨0, 1, 0, 0, 0, [97]⟩, some ⟨gB, 0, none⟩, 1, 1, 4, true, 0, none, [], 0, 0, at_⟩ : RcV), (⟨2, ⟨0, 0, 0, 1, 0, []⟩, none, 0, 0, 9, true, 0, some ⟨gD, 0, none⟩, [97], 1, 0, rd⟩ : RcV)]).toArray 44))) := Lib.hid ⟨_, _, 1, 2, _, _, rfl, ⟨hC, Nat.le_refl _, by decide, fun s hs => by
    obtain rfl := List.mem_singleton.1 hs
    exact ⟨hr1, Nat.le_refl _, (show (1 : Nat) ≤ 9223372036854775807 by decide)⟩⟩, ⟨hRw, Nat.le_refl _, by decide, fun s hs => by
    rcases List.mem_cons.1 hs with rfl | hs
    · exact ⟨⟨hr3, Nat.le_refl _, (show (1 : Nat) ≤ 9223372036854775807 by decide)⟩, RdC.nil⟩
    · obtain rfl := List.mem_singleton.1 hs
      exact ⟨RdC.nil, hr5, Nat.le_refl _, (show (1 : Nat) ≤ 9223372036854775807 by decide)⟩⟩, rfl, rfl, b7⟩
  (try simp only [Act.put, List.setIfInBounds_toArray]); (try simp only [List.set_cons_succ]); (try simp only [List.set_cons_zero])
  refine r_flt RB_refl 5 5 #[true, true, true, true, true, true] (by simp only [List.getElem?_toArray, List.getElem?_cons_succ, List.getElem?_cons_zero]; rfl) (by rfl) (by kernel_rfl) (by kernel_rfl) (by kernel_rfl) (fun _ _ _ _ h => h) rfl (by rfl) ?_
  apply Exists.intro
  apply And.intro
  · intro W hW
    first | (go_simp; with_reducible rfl) | go_simp
  (try simp only [Act.put, List.setIfInBounds_toArray]); (try simp only [List.set_cons_succ]); (try simp only [List.set_cons_zero])
  refine r_done (by kernel_rfl) ?_
  go_wp2_with fail
  (try simp only [Exit.inBlock, Exit.then])
  go_ret2
  exact HEND.out
theorem of_prs {R : List RcV} {Q : PR → Prop} (h : ∀ r ∈ prs R, Q r) : ∀ s ∈ R, Q s.p := fun s hs => h _ (List.mem_map.2 ⟨s, hs, rfl⟩)
theorem of_pcs {L : List CmV} {Q : PC → Prop} (h : ∀ r ∈ pcs L, Q r) : ∀ s ∈ L, Q s.p := fun s hs => h _ (List.mem_map.2 ⟨s, hs, rfl⟩)
/-- Right, of the example. -/
theorem right_two (at_ rd : Int) (z : Bool) (hz : rightP 8 [twoC] [twoR1 at_, twoR2 rd] = z) (A A' : Option Addr) (c c' : Nat) (L : List CmV) (R : List RcV) (w : World) (hL : CmsR w (fun _ => True) A c L) (hR : RcsR w (fun _ => True) A' c' R) (e1 : pcs L = [twoC]) (e2 : prs R = [twoR1 at_, twoR2 rd]) (ht : TabE w) :
    Calls Tryd.prog 13 #[.agg #[.int .i64 4, .int .i64 2, .int .i64 16], .int .i64 8, .slice A L.length c, .slice A' R.length c'] w fun e w' => e = .returned (.bool z) ∧ Below w.heap.size w w' := by
  have h1 : ∀ s ∈ R, s.call.data.length ≤ big := fun s hs => of_prs (Q := fun r => r.call.data.length ≤ big) (by rw [e2]; intro r hr; rcases List.mem_cons.1 hr with rfl | hr; exact (by show (1 : Nat) ≤ big; unfold big; omega); obtain rfl := List.mem_singleton.1 hr; exact Nat.zero_le _) s hs
  have h2 : ∀ s ∈ L, s.e.data.length ≤ big := fun s hs => of_pcs (Q := fun r => r.e.data.length ≤ big) (by rw [e1]; intro r hr; obtain rfl := List.mem_singleton.1 hr; exact (by show (1 : Nat) ≤ big; unfold big; omega)) s hs
  have h3 : ∀ s ∈ R, s.call.len ≤ 9223372036854775807 := fun s hs => of_prs (Q := fun r => r.call.len ≤ 9223372036854775807) (by rw [e2]; intro r hr; rcases List.mem_cons.1 hr with rfl | hr; exact (by show (0 : Int) ≤ _; decide); obtain rfl := List.mem_singleton.1 hr; exact (by show (1 : Int) ≤ _; decide)) s hs
  have hn : R.length ≤ 1000 := by rw [← prs_len, e2]; exact (by show (2 : Nat) ≤ 1000; decide)
  have := Right_any _ _ A A' c c' L R 8 w hL hR ht h1 h2 h3 hn
  rw [e1, e2, hz] at this
  exact this
theorem ex_yes : rightP 8 [twoC] [twoR1 3, twoR2 3] = true := by decide +kernel
theorem ex_no1 : rightP 8 [twoC] [twoR1 3, twoR2 2] = false := by decide +kernel
theorem ex_no2 : rightP 8 [twoC] [twoR1 4, twoR2 3] = false := by decide +kernel
set_option maxHeartbeats 8000000 in
theorem awake23 (w : World) (ht : TabE w) : Calls Tryd.prog 9 #[] w fun e w' => e = .returned (.bool true) ∧ Below w.heap.size w w' := by
  have t1 := two_any 3 3 w
  have hly := fun u => layout_any u
  unfold Two at t1
  go_enter Tryd.func9, Tryd.ntmps9
  go_wp2_with fail
  refine t1.mono ?_
  clear t1
  rintro e w1 ⟨A1, B1, c1, d1, L1, R1, rfl, hL1, hR1, p1, q1, bb⟩
  have t2 := two_any 3 2 w1
  unfold Two at t2
  have P1 := Lib.hid p1
  have Q1 := Lib.hid q1
  clear p1 q1
  go_wp2_with fail
  refine t2.mono ?_
  clear t2
  rintro e w2 ⟨A2, B2, c2, d2, L2, R2, rfl, hL2, hR2, p2, q2, b2⟩
  have t3 := two_any 4 3 w2
  unfold Two at t3
  have P2 := Lib.hid p2
  have Q2 := Lib.hid q2
  have hL1 := hL1.below b2
  have hR1 := hR1.below b2
  have bb := bb.thenB' b2
  clear p2 q2 b2
  go_wp2_with fail
  refine t3.mono ?_
  clear t3
  rintro e w3 ⟨A3, B3, c3, d3, L3, R3, rfl, hL3, hR3, p3, q3, b3⟩
  have P3 := Lib.hid p3
  have Q3 := Lib.hid q3
  have hL1 := hL1.below b3
  have hR1 := hR1.below b3
  have hL2 := hL2.below b3
  have hR2 := hR2.below b3
  have bb := bb.thenB' b3
  clear p3 q3 b3
  go_wp2_with fail
  refine (hly _).mono ?_
  rintro e w4 ⟨rfl, b4⟩
  have bb := bb.thenB' b4
  have r1 := right_two 3 3 _ ex_yes A1 B1 c1 d1 L1 R1 w4 (hL1.below b4) (hR1.below b4) P1.out Q1.out (ht.below bb)
  have hL2 := hL2.below b4
  have hR2 := hR2.below b4
  have hL3 := hL3.below b4
  have hR3 := hR3.below b4
  clear hL1 hR1 b4
  go_wp2_with fail
  refine r1.mono ?_
  clear r1
  rintro e w5 ⟨rfl, b5⟩
  have bb := bb.thenB' b5
  have hL2 := hL2.below b5
  have hR2 := hR2.below b5
  have hL3 := hL3.below b5
  have hR3 := hR3.below b5
  clear b5
  go_wp2_with fail
  refine (hly _).mono ?_
  rintro e w6 ⟨rfl, b6⟩
  have bb := bb.thenB' b6
  have r2 := right_two 3 2 _ ex_no1 A2 B2 c2 d2 L2 R2 w6 (hL2.below b6) (hR2.below b6) P2.out Q2.out (ht.below bb)
  have hL3 := hL3.below b6
  have hR3 := hR3.below b6
  clear hL2 hR2 b6
  go_wp2_with fail
  refine r2.mono ?_
  clear r2
  rintro e w7 ⟨rfl, b7⟩
  have bb := bb.thenB' b7
  have hL3 := hL3.below b7
  have hR3 := hR3.below b7
  clear b7
  go_wp2_with fail
  refine (hly _).mono ?_
  rintro e w8 ⟨rfl, b8⟩
  have bb := bb.thenB' b8
  have r3 := right_two 4 3 _ ex_no2 A3 B3 c3 d3 L3 R3 w8 (hL3.below b8) (hR3.below b8) P3.out Q3.out (ht.below bb)
  clear hL3 hR3 b8
  go_wp2_with fail
  refine r3.mono ?_
  clear r3
  rintro e w9 ⟨rfl, b9⟩
  go_wp2_with fail
  go_ret
  exact ⟨rfl, bb.thenB' b9⟩
end Go.Proofs.YthkeoimjjgmppaaDoor

/- PastImages: the walk. -/
namespace Go.Proofs.YthkeoimjjgmppaaDoor
open Go.RowKit
set_option linter.unusedVariables false
set_option maxRecDepth 100000

set_option maxHeartbeats 8000000 in
theorem images_walk (W : World) (ht : TabE W) (a0 : Int) (i0 : I64 a0) (A : Option Addr) (L : List CmV) (c : Nat) (hL : CmsR W (Old W) A c L) (iL : ∀ s ∈ L, CmI s) (a2 : Int) (i2 : I64 a2) :
    Calls Tryd.prog 6 #[.int .i64 a0, .slice A L.length c, .int .i64 a2] W fun e w' => e = .returned (.bool true) ∧ Below W.heap.size W w' := by
  have haw := awake23 W ht
  go_enter Tryd.func6, Tryd.ntmps6
  go_wp2_with fail
  refine haw.mono ?_
  clear haw
  rintro e w1 ⟨rfl, bb⟩
  have hfw := few_any (Old W) (fun _ => True) A none c 0 L [] w1 (hL.below bb) ⟨fun h => absurd h (by simp), Nat.le_refl _, by decide, by simp⟩
  obtain ⟨z, hz⟩ : ∃ z, fewP L [] = z := ⟨_, rfl⟩
  rw [hz] at hfw
  clear hz
  have hfw : Calls Tryd.prog 15 #[.slice A L.length c, .slice none 0 0] w1 fun e w' => e = .returned (.bool z) ∧ Below w1.heap.size w1 w' := hfw
  go_wp2_with fail
  refine hfw.mono ?_
  clear hfw
  rintro e w2 ⟨rfl, b2⟩
  have bb := bb.thenB' b2
  clear b2
  cases z
  · go_wp2_with fail
    go_ret
    exact ⟨rfl, bb⟩
  go_upto_region 9 with fail
  generalize bits .and .i64 a2 3 = im at *
  generalize a2 / 4 = ix at *
  have h1 := At_any _ A c L a0 im ix w2 (hL.below bb)
  have h2 := fun u (hu : Below W.heap.size W u) => rAt_any _ A c L a0 im ix u (hL.below hu)
  have hsm := fun (i j : ImV) (hij : i.p = j.p) u (h1 : ImR u (fun _ => True) i) (h2 : ImR u (fun _ => True) j) => rSame18_any _ _ i j u h1 h2
  unfold AtR at h1 h2
  generalize imO a0 (pcs L) im ix = io at *
  have HSM := Lib.hid hsm
  have H2 := Lib.hid h2
  clear hsm h2
  obtain ⟨z, hz⟩ : ∃ z, io.isSome = z := ⟨_, rfl⟩
  have HZ := Lib.hid hz
  rw [hz] at h1
  clear hz
  go_wp2_with fail
  refine h1.mono ?_
  clear h1
  rintro e w3 ⟨i, rfl, hip, rI, b3⟩
  have HP := Lib.hid hip
  have bb := bb.thenB' b3
  clear hip b3
  have h2 := fun u hu => H2.out u hu
  rw [HZ.out] at h2
  go_wp2_with first
    | (with_reducible show wpList _ _ _ _ _ _
       refine wpList_rowB rfl 35 (.tmp 11) (.tmp 32) rfl w3.heap.size 35 _ (imA i) rfl rfl (Blk.new w3 35 #[.slice none 0 0, .slice none 0 0, .int .i64 0]) infoIm rfl (imA_ok _) ?_
       intro w4 hB1 mm
       have nn := im_new mm
       have rI := rI.below nn
       have bb := bb.thenB' nn
       have h2 := h2 _ bb
       clear nn mm)
  refine h2.mono ?_
  clear h2
  rintro e w5 ⟨j, rfl, hjp, rJ, b5⟩
  have HP2 : Hid (i.p = j.p) := Lib.hid (HP.out.trans hjp.symm)
  have hB1 := hB1.below b5
  have rI := rI.below b5
  have bb := bb.thenB' b5
  clear hjp b5
  go_wp2_with first
    | (with_reducible show wpList _ _ _ _ _ _
       refine wpList_rowB rfl 35 (.tmp 13) (.tmp 40) rfl w5.heap.size 35 _ (imA j) rfl rfl (Blk.new w5 35 #[.slice none 0 0, .slice none 0 0, .int .i64 0]) infoIm rfl (imA_ok _) ?_
       intro w6 hB2 mm
       have nn := im_new mm
       have hB1 := hB1.below nn
       have rI := rI.below nn
       have rJ := rJ.below nn
       have bb := bb.thenB' nn
       have hs := HSM.out i j HP2.out w6 rI rJ
       clear nn mm)
    | (with_reducible show wpList _ _ _ _ _ _
       refine wpList_load_rowG rfl rfl 35 (.tmp 11) rfl w3.heap.size rfl 35 _ hB1 _ Tryd.underlying35 infoIm ?_)
    | (with_reducible show wpList _ _ _ _ _ _
       refine wpList_load_rowG rfl rfl 35 (.tmp 13) rfl w5.heap.size rfl 35 _ hB2 _ Tryd.underlying35 infoIm ?_)
  rw [HP2.out, sameI_self] at hs
  refine hs.mono ?_
  clear hs
  rintro e w7 ⟨rfl, b7⟩
  go_wp2_with fail
  go_ret
  exact ⟨rfl, bb.thenB' b7⟩
end Go.Proofs.YthkeoimjjgmppaaDoor
