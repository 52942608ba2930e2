/- Images, entries and rows of entries as arguments; few. -/
import Derived.Test.YtcdodchjgadcoaaAbS
import Derived.Test.YtcdodchjgadcoaaOpen
namespace Go.Proofs.Ytcdodchjgadcoaa
open Go.ChangeShapes Go.WideShapes Go.ChangeAt Go.RowKit
set_option linter.unusedVariables false
set_option maxRecDepth 100000

/-- The numbers of an image are numbers that an int holds. -/
def ImI (i : ImV) : Prop := I64 i.last ∧ ∀ s ∈ i.S, I64 s.id
section
variable {H : Type} {enc : TypeId × Value → H} {w : World} {base : Nat} {spare : Nat → Bool} {held : Bool} {fuel : Nat} {cs : List Value} {x : DataW H × List MemPlace}
theorem readCp (h : DataW.trod enc Try.prog w base spare held fuel 23 cs = some x) :
    ∃ A L c, cs = [.slice A L.length c] ∧ RdL w (Old w) 2 cpC A L ∧ L.length ≤ c ∧ c ≤ 9223372036854775807 ∧ (A = none → c = 0) ∧ ∀ s ∈ L, CpR w (Old w) s ∧ I64 s.id :=
  readL Try.underlying23 Try.underlying47 (by kernel_rfl) (by kernel_rfl) cpC (fun s => CpR w (Old w) s ∧ I64 s.id) (by
    intro b o hj
    obtain ⟨v0, n0, y0, c0, h0⟩ := hj 0 _ rfl
    obtain ⟨v1, n1, y1, c1, h1⟩ := hj 1 _ rfl
    obtain ⟨a0, e0, i0⟩ := readN h0
    obtain ⟨Am, m, cm, e1, rm, lm, mm, _⟩ := readB h1
    simp only [List.cons.injEq, and_true] at e0 e1
    subst e0 e1
    refine ⟨⟨a0, Am, m, cm⟩, ⟨⟨rm, lm, mm⟩, i0⟩, fun j v hv => ?_⟩
    match j, hv with
    | 0, hv => injection hv with hv; subst hv; exact c0
    | 1, hv => injection hv with hv; subst hv; exact c1
    | j + 2, hv => simp [cpC] at hv) h (by decide) (fun _ => rfl)
end
theorem three {α : Type} {l : List α} {x0 x1 x2 : α} (hl : l.length = 3) (h0 : (l.drop 0).take 1 = [x0]) (h1 : (l.drop 1).take 1 = [x1]) (h2 : (l.drop 2).take 1 = [x2]) : l = [x0, x1, x2] := by
  match l, hl with
  | [a0, a1, a2], _ =>
    simp only [List.drop_zero, List.drop_succ_cons, List.take_succ_cons, List.take_zero, List.cons.injEq, and_true] at h0 h1 h2
    subst h0 h1 h2
    rfl
theorem trod_at {H : Type} {enc : TypeId × Value → H} {P : Program} {w : World} {base : Nat} {spare : Nat → Bool} {held : Bool} {t : TypeId} {fs : Array Field} {fuel : Nat} {cs : List Value} {x : DataW H × List MemPlace} (ht : P.underlying t = some (.struct fs)) (h : DataW.trod enc P w base spare held fuel t cs = some x) :
    ∃ n, cs.length = P.cellsOf t ∧ ∀ (i : Nat) (f : Field), fs[i]? = some f → ∀ (t : TypeId) (k o : Nat), P.cellsOf t = k → f.type = t → f.offset = o → ∃ y, DataW.trod enc P w base spare held n t ((cs.drop o).take k) = some y := by
  obtain ⟨xs, n, _, _, hl, hx, hat⟩ := DataW.trod_struct ht h
  refine ⟨n, hl, fun i f hf t k o hk ht ho => ?_⟩
  subst hk ht ho
  have hi : i < fs.size := (Array.getElem?_eq_some_iff.1 hf).1
  exact ⟨xs[i]'(by omega), (hat i f hf).trans (List.getElem?_eq_getElem (by omega))⟩
theorem seven {α : Type} {l : List α} {x0 x1 x2 x3 x4 x5 x6 : α} (hl : l.length = 7) (h0 : (l.drop 0).take 1 = [x0]) (h1 : (l.drop 1).take 1 = [x1]) (h2 : (l.drop 2).take 1 = [x2])
    (h3 : (l.drop 3).take 1 = [x3]) (h4 : (l.drop 4).take 1 = [x4]) (h5 : (l.drop 5).take 1 = [x5]) (h6 : (l.drop 6).take 1 = [x6]) : l = [x0, x1, x2, x3, x4, x5, x6] := by
  match l, hl with
  | [a0, a1, a2, a3, a4, a5, a6], _ =>
    simp only [List.drop_zero, List.drop_succ_cons, List.take_succ_cons, List.take_zero, List.cons.injEq, and_true] at h0 h1 h2 h3 h4 h5 h6
    subst h0 h1 h2 h3 h4 h5 h6
    rfl
/-- The numbers of an entry are numbers that an int holds. -/
def EnI (e : E7) : Prop := I64 e.seq ∧ I64 e.owner ∧ I64 e.kind ∧ I64 e.off ∧ I64 e.len ∧ I64 e.snap
theorem openE {H : Type} {enc : TypeId × Value → H} {W : World} {base : Nat} {v : Value} {d : DataW H} {p : List MemPlace}
    (hv : Value.okWide Try.prog W .any base 41 v) (h : DataW.Trod enc Try.prog W 0 (fun _ => true) true 41 v d p) :
    ∃ (e : E7) (A : Option Addr) (c : Nat), v = enV e A c ∧ RdB W (Old W) A e.data ∧ e.data.length ≤ c ∧ c ≤ 9223372036854775807 ∧ (A = none → c = 0) ∧ EnI e := by
  obtain ⟨cs, rfl, hsz⟩ := okWide_struct Try.underlying41 hv
  obtain ⟨fuel, hf⟩ := h
  obtain ⟨n, hlen, hat⟩ := trod_at Try.underlying41 hf
  have c1 : Try.prog.cellsOf 3 = 1 := by kernel_rfl
  have c2 : Try.prog.cellsOf 22 = 1 := by kernel_rfl
  have c7 : Try.prog.cellsOf 41 = 7 := by kernel_rfl
  obtain ⟨_, h0⟩ := hat 0 _ rfl 3 1 0 c1 rfl rfl
  obtain ⟨_, h1⟩ := hat 1 _ rfl 3 1 1 c1 rfl rfl
  obtain ⟨_, h2⟩ := hat 2 _ rfl 3 1 2 c1 rfl rfl
  obtain ⟨_, h3⟩ := hat 3 _ rfl 3 1 3 c1 rfl rfl
  obtain ⟨_, h4⟩ := hat 4 _ rfl 3 1 4 c1 rfl rfl
  obtain ⟨_, h5⟩ := hat 5 _ rfl 3 1 5 c1 rfl rfl
  obtain ⟨_, h6⟩ := hat 6 _ rfl 22 1 6 c2 rfl rfl
  obtain ⟨z0, e0, i0⟩ := readN h0
  obtain ⟨z1, e1, i1⟩ := readN h1
  obtain ⟨z2, e2, i2⟩ := readN h2
  obtain ⟨z3, e3, i3⟩ := readN h3
  obtain ⟨z4, e4, i4⟩ := readN h4
  obtain ⟨z5, e5, i5⟩ := readN h5
  obtain ⟨A, b, c, e6, rb, lb, mb, nb⟩ := readB h6
  refine ⟨⟨z0, z1, z2, z3, z4, z5, b⟩, A, c, ?_, rb, lb, mb, nb, i0, i1, i2, i3, i4, i5⟩
  rw [c7] at hlen
  have hl := seven hlen e0 e1 e2 e3 e4 e5 e6
  have hcs : cs.toList = _ := hl
  unfold enV enA
  rw [← hcs]

theorem openIm {H : Type} {enc : TypeId × Value → H} {W : World} {base : Nat} {v : Value} {d : DataW H} {p : List MemPlace}
    (hv : Value.okWide Try.prog W .any base 25 v) (h : DataW.Trod enc Try.prog W 0 (fun _ => true) true 25 v d p) :
    ∃ i : ImV, v = .agg (imA i) ∧ ImR W (Old W) i ∧ ImI i := by
  obtain ⟨cs, rfl, hsz⟩ := okWide_struct Try.underlying25 hv
  obtain ⟨fuel, hf⟩ := h
  obtain ⟨n, hlen, hat⟩ := trod_at Try.underlying25 hf
  have c1 : Try.prog.cellsOf 3 = 1 := by kernel_rfl
  have c2 : Try.prog.cellsOf 22 = 1 := by kernel_rfl
  have c3 : Try.prog.cellsOf 23 = 1 := by kernel_rfl
  have c7 : Try.prog.cellsOf 25 = 3 := by kernel_rfl
  obtain ⟨_, h0⟩ := hat 0 _ rfl 22 1 0 c2 rfl rfl
  obtain ⟨_, h1⟩ := hat 1 _ rfl 23 1 1 c3 rfl rfl
  obtain ⟨_, h2⟩ := hat 2 _ rfl 3 1 2 c1 rfl rfl
  obtain ⟨DA, b, dc, e0, rb, lb, mb, nb⟩ := readB h0
  obtain ⟨CA, S, cc, e1, rS, lS, mS, nS, iS⟩ := readCp h1
  obtain ⟨z2, e2, i2⟩ := readN h2
  refine ⟨⟨DA, b, dc, CA, S, cc, z2⟩, ?_, ⟨rb, lb, mb, rS, lS, mS, fun s hs => (iS s hs).1⟩, i2, fun s hs => (iS s hs).2⟩
  rw [c7] at hlen
  have hl := three hlen e0 e1 e2
  have hcs : cs.toList = _ := hl
  unfold imA
  rw [← hcs]

/-! ### a row of entries -/
structure EV where
  e : E7
  A : Option Addr
  c : Nat
def evC (s : EV) : List Value := [cI s.e.seq, cI s.e.owner, cI s.e.kind, cI s.e.off, cI s.e.len, cI s.e.snap, .slice s.A s.e.data.length s.c]
def EvR (w : World) (D : Nat → Prop) (s : EV) : Prop := RdB w D s.A s.e.data ∧ s.e.data.length ≤ s.c ∧ s.c ≤ 9223372036854775807
theorem evC_len (s : EV) : (evC s).length = 7 := rfl
theorem evC_pos (s : EV) : 0 < (evC s).length := by rw [evC_len]; decide
theorem EvR.below {w w' : World} {D : Nat → Prop} {s : EV} (h : EvR w D s) (hb : Below w.heap.size w w') : EvR w' D s := ⟨RdB.below h.1 hb, h.2⟩
theorem openEs {H : Type} {enc : TypeId × Value → H} {W : World} {base : Nat} {v : Value} {d : DataW H} {p : List MemPlace}
    (hv : Value.okWide Try.prog W .any base 36 v) (h : DataW.Trod enc Try.prog W 0 (fun _ => true) true 36 v d p) :
    ∃ A L c, v = .slice A L.length c ∧ RdL W (Old W) 7 evC A L ∧ L.length ≤ c ∧ c ≤ 9223372036854775807 ∧ (A = none → c = 0) ∧ ∀ s ∈ L, EvR W (Old W) s ∧ EnI s.e := by
  obtain ⟨a, l, c, rfl⟩ := okWide_slice Try.underlying36 hv
  obtain ⟨fuel, hf⟩ := h
  obtain ⟨A, L, c', hcs, r⟩ := readL Try.underlying36 Try.underlying41 (by kernel_rfl) (by kernel_rfl) evC (fun s => EvR W (Old W) s ∧ EnI s.e) (by
    intro b o hj
    obtain ⟨v0, n0, y0, c0, h0⟩ := hj 0 _ rfl
    obtain ⟨v1, n1, y1, c1, h1⟩ := hj 1 _ rfl
    obtain ⟨v2, n2, y2, c2, h2⟩ := hj 2 _ rfl
    obtain ⟨v3, n3, y3, c3, h3⟩ := hj 3 _ rfl
    obtain ⟨v4, n4, y4, c4, h4⟩ := hj 4 _ rfl
    obtain ⟨v5, n5, y5, c5, h5⟩ := hj 5 _ rfl
    obtain ⟨v6, n6, y6, c6, h6⟩ := hj 6 _ rfl
    obtain ⟨z0, e0, i0⟩ := readN h0
    obtain ⟨z1, e1, i1⟩ := readN h1
    obtain ⟨z2, e2, i2⟩ := readN h2
    obtain ⟨z3, e3, i3⟩ := readN h3
    obtain ⟨z4, e4, i4⟩ := readN h4
    obtain ⟨z5, e5, i5⟩ := readN h5
    obtain ⟨Ab, bs, cb, e6, rb, lb, mb, _⟩ := readB h6
    simp only [List.cons.injEq, and_true] at e0 e1 e2 e3 e4 e5 e6
    subst e0 e1 e2 e3 e4 e5 e6
    refine ⟨⟨⟨z0, z1, z2, z3, z4, z5, bs⟩, Ab, cb⟩, ⟨⟨rb, lb, mb⟩, i0, i1, i2, i3, i4, i5⟩, fun j v hv => ?_⟩
    match j, hv with
    | 0, hv => injection hv with hv; subst hv; exact c0
    | 1, hv => injection hv with hv; subst hv; exact c1
    | 2, hv => injection hv with hv; subst hv; exact c2
    | 3, hv => injection hv with hv; subst hv; exact c3
    | 4, hv => injection hv with hv; subst hv; exact c4
    | 5, hv => injection hv with hv; subst hv; exact c5
    | 6, hv => injection hv with hv; subst hv; exact c6
    | j + 7, hv => simp [evC] at hv) hf (by decide) (fun _ => rfl)
  simp [Value.cells] at hcs
  obtain ⟨rfl, rfl, rfl⟩ := hcs
  exact ⟨_, _, _, rfl, r⟩

/-! ### few -/
def fewB (p : PI) : Bool := decide (p.d.length ≤ 1000) && (decide (p.S.length ≤ 10) && p.S.all fun s => decide (s.2.length ≤ 1000))
theorem few_all {S : List CpV} {k : Nat} (hk : S.length ≤ k) (h : ∀ j (hj : j < S.length), j < k → S[j].m.length ≤ 1000) : ((pureC S).all fun s => decide (s.2.length ≤ 1000)) = true := by
  rw [List.all_eq_true]
  intro s hs
  obtain ⟨t, ht, rfl⟩ := List.mem_map.1 hs
  obtain ⟨j, hj, rfl⟩ := List.getElem_of_mem ht
  exact decide_eq_true (h j hj (by omega))
theorem few_no {S : List CpV} {k : Nat} (hk : k < S.length) (h : ¬ S[k].m.length ≤ 1000) : ((pureC S).all fun s => decide (s.2.length ≤ 1000)) = false := by
  rw [List.all_eq_false]
  exact ⟨(S[k].id, S[k].m), List.mem_map.2 ⟨S[k], List.getElem_mem hk, rfl⟩, by simpa using h⟩
theorem few_bd {p : PI} (h : fewB p = true) : p.d.length ≤ 1000 ∧ p.S.length ≤ 10 := by
  unfold fewB at h
  simp only [Bool.and_eq_true, decide_eq_true_eq] at h
  exact ⟨h.1, h.2.1⟩

set_option maxHeartbeats 4000000 in
theorem few_any (D : Nat → Prop) (i : ImV) (w : World) (hr : ImR w D i) :
    Calls Try.prog 11 #[.agg (imA i)] w fun e w' => e = .returned (.bool (fewB i.p)) ∧ Below w.heap.size w w' := by
  have b1 := below_new w (.cells (imA i) 25)
  have hB := Blk.new w 25 (imA i)
  obtain ⟨_, _, _, hS, hl, hm, _⟩ := hr
  have hS := hS.below b1
  obtain ⟨DA, d, dc, A, L, cc, la⟩ := i
  unfold imA at *
  dsimp only at *
  have hF : fewB (ImV.p ⟨DA, d, dc, A, L, cc, la⟩) = (decide (d.length ≤ 1000) && (decide (L.length ≤ 10) && (pureC L).all fun s => decide (s.2.length ≤ 1000))) := by unfold fewB ImV.p; rw [pureC_len]
  generalize hw1 : w.alloc (.cells #[.slice DA d.length dc, .slice A L.length cc, .int .i64 la] 25) = w1 at *
  have c1 := hB.cell 0
  have c2 := hB.cell 1
  simp at c1 c2
  by_cases h1 : (1000 : Int) < (d.length : Int)
  · rw [decide_eq_false (by omega), Bool.false_and] at hF
    have HF := Lib.hid hF
    clear hF
    go_enter Try.func11, Try.ntmps11
    go_wp2_with fail
    go_ret
    exact ⟨by rw [HF.out]; rfl, b1⟩
  rw [decide_eq_true (by omega), Bool.true_and] at hF
  by_cases h2 : (10 : Int) < (L.length : Int)
  · rw [decide_eq_false (by omega), Bool.false_and] at hF
    have HF := Lib.hid hF
    clear hF
    go_enter Try.func11, Try.ntmps11
    go_wp2_with fail
    go_ret
    exact ⟨by rw [HF.out]; rfl, b1⟩
  rw [decide_eq_true (by omega), Bool.true_and] at hF
  have HF := Lib.hid hF
  clear hF
  go_enter Try.func11, Try.ntmps11
  go_wp2_with fail
  clear hw1
  go_loopw [3] (fun s wr => ∃ k : Nat, k ≤ L.length ∧ s = .int .i64 (k : Int) ∧ Hid (∀ j (hj : j < L.length), j < k → L[j].m.length ≤ 1000) ∧ w1 = wr) (fun s _ => L.length - (intOf s).toNat)
  case atStart => exact ⟨0, Nat.zero_le _, rfl, Lib.hid (fun j hj h => by omega), rfl⟩
  case round =>
    obtain ⟨k, hk, rfl, HA, rfl⟩ := hrel
    by_cases hlt : k < L.length
    · obtain ⟨ad, rfl, d0, d1⟩ := hS.cp hlt
      have hkI : (k : Int) < (L.length : Int) := by omega
      have hLI : (L.length : Int) ≤ 10 := by omega
      by_cases h3 : (1000 : Int) < (L[k].m.length : Int)
      · have HG := Lib.hid (few_no hlt (show ¬ L[k].m.length ≤ 1000 by omega))
        generalize L[k].m.length = q at *
        go_wp2_with fail
        go_ret
        exact ⟨by rw [HF.out, HG.out]; rfl, b1⟩
      · have HG : Hid (∀ j (hj : j < L.length), j < k + 1 → L[j].m.length ≤ 1000) := by
          have := HA.out
          unfold Hid
          intro j hj h
          by_cases hjk : j = k
          · subst hjk; omega
          · exact this j hj (by omega)
        generalize L[k].m.length = q at *
        go_wp2_with fail
        go_roundw
        case rel => exact ⟨k + 1, by omega, by go_num, HG, trivial⟩
        case measure => simp [intOf] <;> omega
    · have HG := Lib.hid (few_all (show L.length ≤ k by omega) HA.out)
      go_wp2_with fail
      go_ret
      exact ⟨by rw [HF.out, HG.out]; rfl, b1⟩
end Go.Proofs.Ytcdodchjgadcoaa
