/- The law package's awake. -/
import Derived.Test.YtcdodchjgadcoaaAbT
import Derived.Lib.SlBytesConst
namespace Go.Proofs.Ytcdodchjgadcoaa
open Go.RowKit
set_option linter.unusedVariables false
set_option maxRecDepth 100000

def exA : E7 := ⟨1, 0, 1, 1, 0, 0, [97, 98]⟩
def exB : E7 := ⟨2, 0, 4, 0, 0, 0, []⟩
def exC18 : E7 := ⟨3, 0, 2, 2, 1, 0, []⟩
def pA : PI := ⟨[0, 97, 98, 0], [], 0⟩
def pB : PI := ⟨[0, 97, 98, 0], [(1, [0, 97, 98, 0])], 1⟩
def pC : PI := ⟨[0, 97, 0, 0], [(1, [0, 97, 98, 0])], 1⟩
theorem does1 : doP (newP 4) exA = (pA, 0, 0) := by decide +kernel
theorem does2 : doP pA exB = (pB, 1, 0) := by decide +kernel
theorem does3 : doP pB exC18 = (pC, 0, 0) := by decide +kernel
theorem reads4 : readE pC 0 4 1 = 0 ∧ readD pC 0 4 1 = [0, 97, 98, 0] := by decide +kernel
theorem differs4 : diffE pC 1 0 = 0 := by decide +kernel
theorem mays4 : mayI pC = true := by decide +kernel
theorem diff4 : IsR (diffR pC 1 0) [(2, 3)] := by
  have h : diffR pC 1 0 = diffF [0, 97, 98, 0] [0, 97, 0, 0] := by unfold diffR; rw [show asD pC 1 = [0, 97, 98, 0] from by decide +kernel, show asD pC 0 = [0, 97, 0, 0] from by decide +kernel]
  rw [h]
  refine ⟨⟨⟨by decide, by decide, by decide⟩, fun t ht => by simp at ht, trivial⟩, fun n => ?_⟩
  by_cases h1 : 0 ≤ n ∧ n < 4
  · obtain ⟨k, rfl⟩ : ∃ k : Nat, n = (k : Int) := ⟨n.toNat, by omega⟩
    have hk : k < 4 := by omega
    match k, hk with
    | 0, _ => decide +kernel
    | 1, _ => decide +kernel
    | 2, _ => decide +kernel
    | 3, _ => decide +kernel
  · have e1 : diffF [0, 97, 98, 0] [0, 97, 0, 0] n = false := by
      unfold diffF
      by_cases h2 : 0 ≤ n ∧ n < 512
      · rw [atO_out _ _ (by show 4 ≤ _; omega), atO_out _ _ (by show 4 ≤ _; omega)]; simp
      · rw [decide_eq_false h2]; rfl
    rw [e1, has_false]
    rintro ⟨_, s, hs, h3, h4⟩
    rw [List.mem_singleton.1 hs] at h3 h4
    dsimp only at h3 h4
    omega
theorem rd_mark18 (w : World) (bs : List UInt8) (cs : Array Value) (m : Nat × Nat) (hcs : cs = (bs.map cB).toArray) : RdB (w.alloc (.cells cs 5 m)) (· = w.heap.size) (some ⟨w.heap.size, 0, none⟩) bs := by
  refine ⟨by simp, fun _ => ⟨_, rfl, rfl, fun j u hj => ?_⟩⟩
  rw [add_head, cell_of_row _ w.heap.size j cs 5 m (heap_alloc_new w _), hcs]
  simpa using hj
/-- A load of a whole struct behind a guard that lets it. -/
theorem wpList_load_rowG {ops : Array Oper} {rest : List Oper} {o : Oper} {a : Act} {w : World} {Q : Exit → Act → World → Prop} {j : Nat} {b : Bool} (hgd : o.guard = some (j, b)) (hy : yielded ops a.tmps j = some b) (ty : TypeId) (x : Operand) (ho : o.op = .load ty x)
    (g : Nat) (hx : a.eval x = .pointer (some ⟨g, 0, none⟩)) (t : TypeId) (cs : Array Value) (hg : Blk w g t cs) (fs : Array Field)
    (hu : Try.prog.underlying ty = some (.struct fs)) (hi : (Try.prog.info? ty).map (·.size) = some cs.size)
    (h : wpList Try.prog ops Q rest (a.put o.dst (.agg cs)) w) : wpList Try.prog ops Q (o :: rest) a w :=
  wpList_step fun K hK => by
    have hw : Region.wanted o (yielded ops a.tmps) = true := by simp [Region.wanted, hgd, hy]
    rw [if_pos hw]
    exact wp_load_row ty x ho g hx t cs (0, 0) _ hg hu rfl hi (hK _ _ h)

/-- The store of an image into its variable, which was laid as a zero one. -/
theorem im_size (i : ImV) : (Try.prog.info? 25).map (·.size) = some (imA i).size := infoIm

set_option maxHeartbeats 4000000 in
theorem awake18 (w : World) : Calls Try.prog 10 #[] w fun e w' => e = .returned (.bool true) ∧ Below w.heap.size w w' := by
  have hn := New18_any 4 w
  go_enter Try.func10, Try.ntmps10
  go_wp2_with fail
  refine hn.mono ?_
  clear hn
  rintro e w1 ⟨i0, rfl, hp0, hO0, b1⟩
  have bn := below_new w1 (.cells #[.slice none 0 0, .slice none 0 0, .int .i64 0] 25)
  have hQ := Blk.new w1 25 #[.slice none 0 0, .slice none 0 0, .int .i64 0]
  have bb := b1.thenB' bn
  have hI0 := ((hO0.rd.imp fun b hb _ => hb).below bn : ImR _ (· < w1.heap.size) i0)
  have hs1 := b1.size
  generalize hg : w1.heap.size = g at *
  go_wp2_with first
    | (with_reducible show wpList _ _ _ _ _ _
       refine wpList_rowB rfl 25 (.tmp 1) (.tmp 12) rfl g 25 _ (imA i0) rfl rfl hQ infoIm rfl (imA_ok _) ?_
       intro w2 hB m2
       have hcv : (convert 22 22 (.slice (some ⟨w2.heap.size, 0, none⟩) 2 2)).run Try.prog (w2.alloc (.cells #[.int .u8 97, .int .u8 98] 5)) = .ok (.slice (some ⟨w2.heap.size, 0, none⟩) 2 2) (w2.alloc (.cells #[.int .u8 97, .int .u8 98] 5 (2, 3))) := Lib.run_convert_bytes_const w2 22 5 _ 2 2 Try.underlying22 Try.underlying5)
    | (with_reducible show wpList _ _ _ _ _ _
       refine wpList_load_row rfl 25 (.tmp 1) rfl g rfl 25 _ (0, 0) _ hB Try.underlying25 rfl infoIm ?_)
  have nN := below_new w2 (.cells #[.int .u8 97, .int .u8 98] 5 (2, 3))
  have oN := rd_mark18 w2 [97, 98] #[.int .u8 97, .int .u8 98] (2, 3) rfl
  have hI2 := (hI0.mod m2 (fun b hb e => by omega)).below nN
  have bb2 := (bb.thenM m2 bb.size (fun i hi e => by omega)).thenB' nN
  replace hB := hB.below nN
  have hd := Do_any _ _ i0 exA (some ⟨w2.heap.size, 0, none⟩) 2 _ hI2 oN (by decide) (by decide)
  rw [hp0, does1] at hd
  unfold enV enA exA at hd
  dsimp only [List.length_cons, List.length_nil] at hd
  refine hd.mono ?_
  clear hd hcv hI0 bb
  rintro e w3 ⟨i1, rfl, hp1, hO3, b3⟩
  replace hB := hB.below b3
  have bb3 := bb2.thenB' b3
  have hs3 : g < w2.heap.size := by rw [← hg] at *; have := hB.lt; have := hQ.lt; have := m2.size; omega
  have hO3 := hO3.low (B' := g + 1) (by have := nN.size; omega)
  clear hI2 bb2 oN nN
  replace hp1 : i1.p = pA := hp1
  have hdB := fun W (h : ImR W (fun b => g + 1 ≤ b) i1) => Do_any _ (fun _ => True) i1 exB none 0 W h RdB.nil (by decide) (by decide)
  rw [hp1, does2] at hdB
  unfold enV enA exB at hdB
  dsimp only [List.length_cons, List.length_nil] at hdB
  go_wp2_with first
    | (with_reducible show wpList _ _ _ _ _ _
       refine wpList_rowB rfl 25 (.tmp 1) (.tmp 19) rfl g 25 _ (imA i1) rfl rfl hB infoIm rfl (imA_ok _) ?_
       intro w4 hB4 m4)
    | (with_reducible show wpList _ _ _ _ _ _
       refine wpList_load_row rfl 25 (.tmp 1) rfl g rfl 25 _ (0, 0) _ hB4 Try.underlying25 rfl infoIm ?_)
  refine (hdB w4 (hO3.mod m4 (fun i e => by omega)).rd).mono ?_
  clear hdB
  rintro e w5 ⟨i2, rfl, hp2, hO5, b5⟩
  have hB5 := hB4.below b5
  have bb5 := (bb3.thenM m4 bb3.size (fun i hi e => by omega)).thenB' b5
  have hs5 := hB4.lt
  have hO5 := hO5.low (B' := g + 1) (by omega)
  clear hO3 bb3 m4 b5 b3 hB hB4
  replace hp2 : i2.p = pB := hp2
  have hdC := fun W (h : ImR W (fun b => g + 1 ≤ b) i2) => Do_any _ (fun _ => True) i2 exC18 none 0 W h RdB.nil (by decide) (by decide)
  rw [hp2, does3] at hdC
  unfold enV enA exC18 at hdC
  dsimp only [List.length_cons, List.length_nil] at hdC
  go_wp2_with first
    | (with_reducible show wpList _ _ _ _ _ _
       refine wpList_rowB rfl 25 (.tmp 1) (.tmp 26) rfl g 25 _ (imA i2) rfl rfl hB5 infoIm rfl (imA_ok _) ?_
       intro w6 hB6 m6)
    | (with_reducible show wpList _ _ _ _ _ _
       refine wpList_load_row rfl 25 (.tmp 1) rfl g rfl 25 _ (0, 0) _ hB6 Try.underlying25 rfl infoIm ?_)
  refine (hdC w6 (hO5.mod m6 (fun i e => by omega)).rd).mono ?_
  clear hdC
  rintro e w7 ⟨i3, rfl, hp3, hO7, b7⟩
  have hB7 := hB6.below b7
  have bb7 := (bb5.thenM m6 bb5.size (fun i hi e => by omega)).thenB' b7
  have hs7 := hB6.lt
  have hO7 := hO7.low (B' := g + 1) (by omega)
  clear hO5 bb5 m6 b7 hB5 hB6
  replace hp3 : i3.p = pC := hp3
  have hdf := fun W (h : ImR W (fun b => g + 1 ≤ b) i3) => Differ_any _ i3 1 0 W h
  have hrd := fun W (h : ImR W (fun b => g + 1 ≤ b) i3) => Read_any _ i3 0 4 1 W h (by decide)
  have hck := fun W (h : ImR W (fun b => g + 1 ≤ b) i3) => Check18_any _ i3 W h
  unfold Differs at hdf
  rw [hp3, differs4] at hdf
  rw [hp3, reads4.1, reads4.2] at hrd
  rw [hp3, mays4, show eno true 1 = 0 from rfl] at hck
  go_wp2_with first
    | (with_reducible show wpList _ _ _ _ _ _
       refine wpList_rowB rfl 25 (.tmp 1) (.tmp 33) rfl g 25 _ (imA i3) rfl rfl hB7 infoIm rfl (imA_ok _) ?_
       intro w8 hB8 m8)
    | (with_reducible show wpList _ _ _ _ _ _
       refine wpList_load_row rfl 25 (.tmp 1) rfl g rfl 25 _ (0, 0) _ hB8 Try.underlying25 rfl infoIm ?_)
  have hr8 := (hO7.mod m8 (fun i e => by omega)).rd
  have bb8 := bb7.thenM m8 bb7.size (fun i hi e => by omega)
  clear hO7 bb7 m8 hB7
  refine (hdf w8 hr8).mono ?_
  clear hdf
  rintro e w9 ⟨v9, L, rfl, o9, hL, -, b9⟩
  have e9 : [(2, 3)] = L := diff4.one (hL trivial) fun _ => rfl
  subst e9
  have hB9 := hB8.below b9
  have bb9 := bb8.thenB' b9
  obtain ⟨A9, c9, rfl, -, -⟩ := OwnC.form o9
  have r9 := OwnSp.rd o9
  have hr9 := hr8.below b9
  clear hL o9 hB8 bb8 hr8 b9
  go_wp2_with first
    | (with_reducible show wpList _ _ _ _ _ _
       refine wpList_load_row rfl 25 (.tmp 1) rfl g rfl 25 _ (0, 0) _ hB9 Try.underlying25 rfl infoIm ?_)
  refine (hrd w9 hr9).mono ?_
  clear hrd
  rintro e w10 ⟨v10, rfl, o10, b10⟩
  have hB10 := hB9.below b10
  have bb10 := bb9.thenB' b10
  obtain ⟨A10, c10, rfl, -, -⟩ := OwnB.form o10
  have r10 := RdL.below r9 b10
  have hs := str_rd (n := 4) (c := c10) o10.rdG rfl
  have hck := hck w10 (hr9.below b10)
  obtain ⟨ad, rfl, d0, d1⟩ := RdSp.at_ r10 (i := 0) (by decide)
  simp only [Nat.zero_mul, add_zero_, List.getElem_cons_zero] at d0 d1
  clear hB9 bb9 hr9 r9
  dsimp only [List.length_cons, List.length_nil] at *
  go_wp2_with first
    | (with_reducible show wpList _ _ _ _ _ _
       refine wpList_load_rowG rfl rfl 25 (.tmp 1) rfl g rfl 25 _ hB10 _ Try.underlying25 infoIm ?_)
  refine hck.mono ?_
  clear hck
  rintro e w11 ⟨rfl, b11⟩
  go_wp2_with fail
  go_ret
  exact ⟨rfl, bb10.thenB' b11⟩
end Go.Proofs.Ytcdodchjgadcoaa
