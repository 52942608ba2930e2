/- An entry's bytes: the code's Pack. -/
import Derived.Test.YthpmmnpjdpgamaaDoorEn3
namespace Go.Proofs.YthpmmnpjdpgamaaDoor
open Go.RowKit
set_option linter.unusedVariables false
set_option maxRecDepth 100000

def bodyE (e : E7) : List UInt8 := numE 6 e.seq ++ numE 1 e.owner ++ numE 2 e.off ++ numE 2 e.len ++ numE 1 e.snap ++ blobE e.data
def packO (e : E7) : List UInt8 := if mayE e = true then (makeO e.kind (bodyE (cleanO e))).1 else []
structure Wf (e : E7) : Prop where
  seq : I64 e.seq
  owner : I64 e.owner
  off : I64 e.off
  len : I64 e.len
  snap : I64 e.snap
  data : e.data.length ≤ 128
theorem may_wf {e : E7} (h : mayE e = true) : Wf (cleanO e) := by
  have h : mayP e := of_decide_eq_true h
  obtain ⟨s, o, k, f, l, n, d⟩ := e
  unfold mayP at h
  dsimp only at h
  unfold cleanO
  dsimp only
  refine ⟨?_, ?_, ?_, ?_, ?_, ?_⟩
  · show I64 s; unfold I64; omega
  · show I64 o; unfold I64; omega
  · show I64 (if _ then _ else _); unfold I64; split <;> omega
  · show I64 (if _ then _ else _); unfold I64; split <;> omega
  · show I64 (if _ then _ else _); unfold I64; split <;> omega
  · show (if _ then _ else _ : List UInt8).length ≤ 128
    split
    · omega
    · exact Nat.zero_le _
theorem numE_len' (w n : Int) : (numE w n).length ≤ 7 := by
  unfold numE
  rw [encN_length]
  have := wideI_bd w
  omega
theorem blobE_len (x : List UInt8) : (blobE x).length ≤ x.length + 7 := by
  unfold blobE
  rw [List.length_append, List.length_take]
  have := numE_len' 2 (min x.length 65535 : Nat)
  omega
section
variable {P : Program}
theorem one_size {ty : TypeId} (hi : (Tryd.prog.info? ty).map (·.size) = some 1) (w : World) (g i : Nat) (T : TypeId) (cs : Array Value) (u : Value) (h1 : u.oneCell' = true) (hB : Blk w g T cs) (hlt : i < cs.size) :
    (storeVar ty ⟨g, i, none⟩ u).run Tryd.prog w = .ok () (w.setCell ⟨g, i, none⟩ u) := by
  have hc : u.cells = #[u] := by cases u <;> first | rfl | cases h1
  cases hq : Tryd.prog.info? ty with
  | none => simp [hq] at hi
  | some j =>
    have hs : j.size = 1 := by simpa [hq] using hi
    have h2 : w.cell? ⟨g, i, none⟩ = some cs[i] := by rw [hB.cell]; exact Array.getElem?_eq_getElem hlt
    have hr := run_store Tryd.prog w ⟨g, i, none⟩ u .plain h1
    rw [h2] at hr
    simp only [hB.frozen i] at hr
    simp [storeVar, sizeOf, typeInfo, hq, hc, hs, storeCells, Addr.add]
    exact hr
theorem wpList_fldB {ops : Array Oper} {rest : List Oper} {o : Oper} {a : Act} {w : World} {Q : Exit → Act → World → Prop} (hgd : o.guard = none) (ty : TypeId) (x y : Operand) (ho : o.op = .store ty x y)
    (g i : Nat) (T : TypeId) (cs : Array Value) (u : Value) (hx : a.eval x = .pointer (some ⟨g, i, none⟩)) (hy : a.eval y = u) (h1 : u.oneCell' = true) (hi : (Tryd.prog.info? ty).map (·.size) = some 1)
    (hB : Blk w g T cs) (n : Nat) (hn : cs.size = n) (hlt : i < n)
    (h : ∀ w', Blk w' g T (cs.setIfInBounds i u) → Mod (· = g) w w' → wpList Tryd.prog ops Q rest (a.put o.dst undef) w') : wpList Tryd.prog ops Q (o :: rest) a w := by
  subst hy hn
  refine wpList_plain hgd fun _ hK => ?_
  unfold Oper.wp execOp
  simp only [ho, hx, Instr.storeAt, Instr.sureAddr, Sem.run_bind, Sem.run_pure, Result.andThen_ok, one_size hi w g i T cs _ h1 hB hlt]
  exact hK _ _ (h _ (hB.set_ i _) ((Mod.refl _ _).setG i _))
theorem wpList_rowB {ops : Array Oper} {rest : List Oper} {o : Oper} {a : Act} {w : World} {Q : Exit → Act → World → Prop} (hgd : o.guard = none) (ty : TypeId) (x y : Operand) (ho : o.op = .store ty x y)
    (g : Nat) (T : TypeId) (old cells : Array Value) (hx : a.eval x = .pointer (some ⟨g, 0, none⟩)) (hy : a.eval y = .agg cells)
    (hB : Blk w g T old) (hi : (Tryd.prog.info? ty).map (·.size) = some cells.size) (hold : old.size = cells.size) (h1 : cells.all (·.oneCell') = true)
    (h : ∀ w', Blk w' g T cells → Mod (· = g) w w' → wpList Tryd.prog ops Q rest (a.put o.dst undef) w') : wpList Tryd.prog ops Q (o :: rest) a w :=
  wpList_store_row hgd ty x y ho g cells hx hy T old hB hi hold h1 (h _ (setRow_heap _ _ _ _ _ _ hB) (mod_setRow cells))
end
theorem cell_belowS {w w' : World} {a : Addr} {v : Value} (h : w.cell? a = some v) (b : Below w.heap.size w w') : w'.cell? a = some v := by
  rw [World.cell?_of_block (w := w) (b.block _ (World.block_lt_of_cell? w _ h))]
  exact h

set_option maxHeartbeats 4000000 in
theorem Pack_any (e : E7) (D : Nat → Prop) (A : Option Addr) (c : Nat) (w : World) (hr : RdB w D A e.data) (hl : e.data.length ≤ big) (ht : Tab w) (hte : TabE w) :
    Calls Tryd.prog 17 #[enV e A c] w fun r w' => ∃ v, r = .returned v ∧ OwnB w' w.heap.size v (packO e) ∧ Below w.heap.size w w' := by
  have hck := fun W => Check_any e A c W
  cases hy : mayE e
  · have HP : Hid (packO e = []) := by unfold Hid packO; rw [hy]; rfl
    rw [hy] at hck
    rw [HP.out]
    clear hy HP
    obtain ⟨s, o, k, f, l, n, d⟩ := e
    dsimp only at hr hl
    unfold enV enA at hck ⊢
    dsimp only at hck ⊢
    go_enter Tryd.func17, Tryd.ntmps17
    go_wp2_with fail
    refine (hck _).mono ?_
    clear hck
    rintro r w1 ⟨rfl, b1⟩
    rw [show errE false = 70 from rfl]
    have bb := (below_new w (.cells #[.int .i64 s, .int .i64 o, .int .i64 k, .int .i64 f, .int .i64 l, .int .i64 n, .slice A d.length c] 24)).thenB' b1
    go_wp2_with fail
    go_ret
    exact ⟨_, rfl, OwnB.nil, bb⟩
  · have HP : Hid (packO e = (makeO (cleanO e).kind (bodyE (cleanO e))).1) := by unfold Hid packO; rw [hy]; rfl
    have hw := may_wf hy
    have hcl := fun W (h1 : Below w.heap.size w W) => Clean_any e D A c W (RdB.below hr h1) hl (hte.below h1)
    unfold Cleaned at hcl
    rw [hy] at hck
    rw [HP.out]
    clear hy HP
    generalize cleanO e = ce at *
    obtain ⟨s', o', k', f', l', n', d'⟩ := ce
    obtain ⟨s, o, k, f, l, n, d⟩ := e
    have W1 := hw.seq
    have W2 := hw.owner
    have W3 := hw.off
    have W4 := hw.len
    have W5 := hw.snap
    have W6 := hw.data
    dsimp only at hr hl W1 W2 W3 W4 W5 W6
    have HLB : Hid ((numE 6 s' ++ numE 1 o' ++ numE 2 f' ++ numE 2 l' ++ numE 1 n' ++ blobE d').length ≤ 1000000) := by
      unfold Hid
      simp only [List.length_append]
      have := numE_len' 6 s'; have := numE_len' 1 o'; have := numE_len' 2 f'; have := numE_len' 2 l'; have := numE_len' 1 n'; have := blobE_len d'
      omega
    have HP : Hid (bodyE ⟨s', o', k', f', l', n', d'⟩ = numE 6 s' ++ numE 1 o' ++ numE 2 f' ++ numE 2 l' ++ numE 1 n' ++ blobE d') := rfl
    have HN1 := numE_len' 6 s'
    have HN2 := numE_len' 1 o'
    have HN3 := numE_len' 2 f'
    have HN4 := numE_len' 2 l'
    have HN5 := numE_len' 1 n'
    clear hw hr
    have HL := Lib.hid W6
    unfold enV enA at hck hcl ⊢
    dsimp only at hck hcl ⊢
    go_enter Tryd.func17, Tryd.ntmps17
    go_wp2_with fail
    refine (hck _).mono ?_
    clear hck
    rintro r w1 ⟨rfl, b1⟩
    rw [show errE true = 0 from rfl]
    have bn := below_new w (.cells #[.int .i64 s, .int .i64 o, .int .i64 k, .int .i64 f, .int .i64 l, .int .i64 n, .slice A d.length c] 24)
    have hG := (Blk.new w 24 #[.int .i64 s, .int .i64 o, .int .i64 k, .int .i64 f, .int .i64 l, .int .i64 n, .slice A d.length c]).below b1
    have bb := bn.thenB' b1
    have hcl := hcl w1 bb
    have hG1 : w.heap.size < w1.heap.size := hG.lt
    have ht0 := ht
    clear bn b1
    go_wp2_with first
      | (with_reducible show wpList _ _ _ _ _ _
         refine wpList_load_row rfl 24 (.tmp 1) rfl w.heap.size rfl 24 _ (0, 0) _ hG Tryd.underlying24 rfl infoEn7 ?_)
    refine hcl.mono ?_
    clear hcl
    rintro r w2 ⟨A', c', rfl, o2, b2⟩
    obtain ⟨hc', hm'⟩ : d'.length ≤ c' ∧ c' ≤ 9223372036854775807 := by
      obtain ⟨A9, c9, e9, h1, h2⟩ := OwnB.form o2
      injection e9 with _ _ e9
      subst e9
      exact ⟨h1, h2⟩
    have rd := OwnB.rd' o2
    have hG := hG.below b2
    have bb := bb.thenB' b2
    have hgw : w.heap.size < w1.heap.size := by have := hG1; omega
    clear o2 b2
    go_wp2_with first
      | (with_reducible show wpList _ _ _ _ _ _
         refine wpList_rowB rfl 24 (.tmp 1) (.tmp 10) rfl w.heap.size 24 _ #[.int .i64 s', .int .i64 o', .int .i64 k', .int .i64 f', .int .i64 l', .int .i64 n', .slice A' d'.length c'] rfl rfl hG infoEn7 rfl (by simp [Value.oneCell']) ?_
         intro w3 hG3 m3
         have bb3 := bb.thenM m3 bb.size (fun i hi e => by have e : i = w.heap.size := e; omega)
         have rd3 := Rd.mod rd m3 (fun b hb e => by have e : b = w.heap.size := e; have := hb.1; omega)
         have cell_ := hG3.cell 0
         simp at cell_)
    clear hG rd bb m3
    have hG := hG3
    have bb := bb3
    have rd : RdB w3 _ A' d' := rd3
    clear hG3 bb3 rd3
    refine (Num_any (fun _ => False) none 0 [] 6 s' _ RdB.nil (by first | omega | (simp only [List.length_append, List.length_nil]; omega)) (by unfold I64; omega) W1).mono ?_
    clear cell_
    rintro r x1 ⟨v1_, rfl, o1_, d1_⟩
    have rd := RdB.below rd d1_
    have hG := hG.below d1_
    have bb := bb.thenB' d1_
    clear d1_
    rw [List.nil_append] at o1_
    obtain ⟨A1_, c1_, rfl, _, _⟩ := OwnB.form o1_
    have cell_ := hG.cell 1
    simp at cell_
    go_wp2_with fail
    refine (Num_any _ A1_ c1_ (numE 6 s') 1 o' _ (OwnB.rd' o1_) (by first | omega | (simp only [List.length_append, List.length_nil]; omega)) (by unfold I64; omega) W2).mono ?_
    clear cell_
    rintro r x2 ⟨v2_, rfl, o2_, d2_⟩
    have rd := RdB.below rd d2_
    have hG := hG.below d2_
    have bb := bb.thenB' d2_
    clear d2_
    skip
    obtain ⟨A2_, c2_, rfl, _, _⟩ := OwnB.form o2_
    have cell_ := hG.cell 3
    simp at cell_
    go_wp2_with fail
    refine (Num_any _ A2_ c2_ (numE 6 s' ++ numE 1 o') 2 f' _ (OwnB.rd' o2_) (by first | omega | (simp only [List.length_append, List.length_nil]; omega)) (by unfold I64; omega) W3).mono ?_
    clear cell_
    rintro r x3 ⟨v3_, rfl, o3_, d3_⟩
    have rd := RdB.below rd d3_
    have hG := hG.below d3_
    have bb := bb.thenB' d3_
    clear d3_
    skip
    obtain ⟨A3_, c3_, rfl, _, _⟩ := OwnB.form o3_
    have cell_ := hG.cell 4
    simp at cell_
    go_wp2_with fail
    refine (Num_any _ A3_ c3_ (numE 6 s' ++ numE 1 o' ++ numE 2 f') 2 l' _ (OwnB.rd' o3_) (by first | omega | (simp only [List.length_append, List.length_nil]; omega)) (by unfold I64; omega) W4).mono ?_
    clear cell_
    rintro r x4 ⟨v4_, rfl, o4_, d4_⟩
    have rd := RdB.below rd d4_
    have hG := hG.below d4_
    have bb := bb.thenB' d4_
    clear d4_
    skip
    obtain ⟨A4_, c4_, rfl, _, _⟩ := OwnB.form o4_
    have cell_ := hG.cell 5
    simp at cell_
    go_wp2_with fail
    refine (Num_any _ A4_ c4_ (numE 6 s' ++ numE 1 o' ++ numE 2 f' ++ numE 2 l') 1 n' _ (OwnB.rd' o4_) (by first | omega | (simp only [List.length_append, List.length_nil]; omega)) (by unfold I64; omega) W5).mono ?_
    clear cell_
    rintro r x5 ⟨v5_, rfl, o5_, d5_⟩
    have rd := RdB.below rd d5_
    have hG := hG.below d5_
    have bb := bb.thenB' d5_
    clear d5_
    skip
    obtain ⟨A5_, c5_, rfl, _, _⟩ := OwnB.form o5_
    have ht := ht0.below bb
    have o8 := o5_
    go_wp2_with fail
    refine r_start (R := RB) (by rfl) (n := 12) (L := #[false, false, false, false, false, false, false, false, false, false, false, false]) rfl rfl ?_
    have bd : Below x5.heap.size x5 x5.drew := (Below.refl _ _).drew
    have o8 := OwnB.below o8 bd
    have rd := RdB.below rd bd
    have ht := ht.below bd
    have hG := hG.below bd
    have bb := bb.thenB' bd
    generalize x5.drew = wd at *
    have cc2 := hG.cell 2
    have cc6 := hG.cell 6
    simp at cc2 cc6
    clear bd
    refine r_flt RB_refl 0 31 #[true, false, false, false, false, false, false, false, false, false, false, false] (by simp only [List.getElem?_toArray, List.getElem?_cons_zero]; rfl) (by rfl) (by kernel_rfl) (by kernel_rfl) (by kernel_rfl) (fun _ _ _ _ h => h) rfl (by rfl) ?_
    apply Exists.intro
    apply And.intro
    · intro W hW
      first | (go_simp; with_reducible rfl) | go_simp
    (try simp only [Act.put, List.setIfInBounds_toArray]); (try simp only [List.set_cons_succ]); (try simp only [List.set_cons_zero])
    refine r_flt RB_refl 1 32 #[true, true, false, false, false, false, false, false, false, false, false, false] (by simp only [List.getElem?_toArray, List.getElem?_cons_succ, List.getElem?_cons_zero]; rfl) (by rfl) (by kernel_rfl) (by kernel_rfl) (by kernel_rfl) (fun _ _ _ _ h => h) rfl (by rfl) ?_
    apply Exists.intro
    apply And.intro
    · intro W hW
      have c9 := cell_belowS cc2 hW
      first | (go_simp; with_reducible rfl) | go_simp
    (try simp only [Act.put, List.setIfInBounds_toArray]); (try simp only [List.set_cons_succ]); (try simp only [List.set_cons_zero])
    refine r_flt RB_refl 2 33 #[true, true, true, false, false, false, false, false, false, false, false, false] (by simp only [List.getElem?_toArray, List.getElem?_cons_succ, List.getElem?_cons_zero]; rfl) (by rfl) (by kernel_rfl) (by kernel_rfl) (by kernel_rfl) (fun _ _ _ _ h => h) rfl (by rfl) ?_
    apply Exists.intro
    apply And.intro
    · intro W hW
      first | (go_simp; with_reducible rfl) | go_simp
    (try simp only [Act.put, List.setIfInBounds_toArray]); (try simp only [List.set_cons_succ]); (try simp only [List.set_cons_zero])
    refine r_flt RB_refl 3 34 #[true, true, true, true, false, false, false, false, false, false, false, false] (by simp only [List.getElem?_toArray, List.getElem?_cons_succ, List.getElem?_cons_zero]; rfl) (by rfl) (by kernel_rfl) (by kernel_rfl) (by kernel_rfl) (fun _ _ _ _ h => h) rfl (by rfl) ?_
    apply Exists.intro
    apply And.intro
    · intro W hW
      first | (go_simp; with_reducible rfl) | go_simp
    (try simp only [Act.put, List.setIfInBounds_toArray]); (try simp only [List.set_cons_succ]); (try simp only [List.set_cons_zero])
    refine r_flt RB_refl 4 35 #[true, true, true, true, true, false, false, false, false, false, false, false] (by simp only [List.getElem?_toArray, List.getElem?_cons_succ, List.getElem?_cons_zero]; rfl) (by rfl) (by kernel_rfl) (by kernel_rfl) (by kernel_rfl) (fun _ _ _ _ h => h) rfl (by rfl) ?_
    apply Exists.intro
    apply And.intro
    · intro W hW
      have c9 := cell_belowS cc6 hW
      first | (go_simp; with_reducible rfl) | go_simp
    (try simp only [Act.put, List.setIfInBounds_toArray]); (try simp only [List.set_cons_succ]); (try simp only [List.set_cons_zero])
    refine r_one RB_trans 5 (by kernel_rfl) ?_
    refine alt_call 36 #[true, true, true, true, true, true, false, false, false, false, false, false] (by simp only [List.getElem?_toArray, List.getElem?_cons_succ, List.getElem?_cons_zero]; rfl) (by rfl) rfl (by rfl) (by go_simp; first | exact ⟨rfl, rfl⟩ | rfl) ?_
    refine (Blob_any _ _ A5_ A' c5_ c' _ _ _ (OwnB.rd' o8) rd (by simp only [List.length_append]; omega) hc' hm').mono ?_
    rintro r w9 ⟨v9, rfl, o9, b9⟩
    refine ⟨_, rfl, b9, ?_⟩
    obtain ⟨A9, n9, c9, rfl, hn9, _, _⟩ := OwnB.form' o9
    have ht := ht.below b9
    have bb := bb.thenB' b9
    have hw9 := bb.size
    have hl9 := HLB.out
    (try simp only [Act.put, List.setIfInBounds_toArray]); (try simp only [List.set_cons_succ]); (try simp only [List.set_cons_zero])
    refine r_one RB_trans 6 (by kernel_rfl) ?_
    refine alt_call 37 #[true, true, true, true, true, true, true, false, false, false, false, false] (by simp only [List.getElem?_toArray, List.getElem?_cons_succ, List.getElem?_cons_zero]; rfl) (by rfl) rfl (by rfl) (by go_simp; first | exact ⟨rfl, rfl⟩ | rfl) ?_
    have hmk := Make_any _ A9 c9 k' _ w9 (OwnB.rd' o9) hl9 ht
    rw [← hn9.out] at hmk
    refine hmk.mono ?_
    clear hmk
    rintro r w10 ⟨v10, rfl, o10, b10⟩
    refine ⟨_, rfl, b10, ?_⟩
    have bb := bb.thenB' b10
    (try simp only [Act.put, List.setIfInBounds_toArray]); (try simp only [List.set_cons_succ]); (try simp only [List.set_cons_zero])
    refine r_flt RB_refl 7 30 #[true, true, true, true, true, true, true, true, false, false, false, false] (by simp only [List.getElem?_toArray, List.getElem?_cons_succ, List.getElem?_cons_zero]; rfl) (by rfl) (by kernel_rfl) (by kernel_rfl) (by kernel_rfl) (fun _ _ _ _ h => h) rfl (by rfl) ?_
    apply Exists.intro
    apply And.intro
    · intro W hW
      first | (go_simp; with_reducible rfl) | go_simp
    (try simp only [Act.put, List.setIfInBounds_toArray]); (try simp only [List.set_cons_succ]); (try simp only [List.set_cons_zero])
    refine r_flt RB_refl 8 38 #[true, true, true, true, true, true, true, true, true, false, false, false] (by simp only [List.getElem?_toArray, List.getElem?_cons_succ, List.getElem?_cons_zero]; rfl) (by rfl) (by kernel_rfl) (by kernel_rfl) (by kernel_rfl) (fun _ _ _ _ h => h) rfl (by rfl) ?_
    apply Exists.intro
    apply And.intro
    · intro W hW
      first | (go_simp; with_reducible rfl) | go_simp
    (try simp only [Act.put, List.setIfInBounds_toArray]); (try simp only [List.set_cons_succ]); (try simp only [List.set_cons_zero])
    refine r_flt RB_refl 9 39 #[true, true, true, true, true, true, true, true, true, true, false, false] (by simp only [List.getElem?_toArray, List.getElem?_cons_succ, List.getElem?_cons_zero]; rfl) (by rfl) (by kernel_rfl) (by kernel_rfl) (by kernel_rfl) (fun _ _ _ _ h => h) rfl (by rfl) ?_
    apply Exists.intro
    apply And.intro
    · intro W hW
      first | (go_simp; with_reducible rfl) | go_simp
    (try simp only [Act.put, List.setIfInBounds_toArray]); (try simp only [List.set_cons_succ]); (try simp only [List.set_cons_zero])
    refine r_flt RB_refl 10 4 #[true, true, true, true, true, true, true, true, true, true, true, false] (by simp only [List.getElem?_toArray, List.getElem?_cons_succ, List.getElem?_cons_zero]; rfl) (by rfl) (by kernel_rfl) (by kernel_rfl) (by kernel_rfl) (fun _ _ _ _ h => h) rfl (by rfl) ?_
    apply Exists.intro
    apply And.intro
    · intro W hW
      first | (go_simp; with_reducible rfl) | go_simp
    (try simp only [Act.put, List.setIfInBounds_toArray]); (try simp only [List.set_cons_succ]); (try simp only [List.set_cons_zero])
    refine r_flt RB_refl 11 5 #[true, true, true, true, true, true, true, true, true, true, true, true] (by simp only [List.getElem?_toArray, List.getElem?_cons_succ, List.getElem?_cons_zero]; rfl) (by rfl) (by kernel_rfl) (by kernel_rfl) (by kernel_rfl) (fun _ _ _ _ h => h) rfl (by rfl) ?_
    apply Exists.intro
    apply And.intro
    · intro W hW
      first | (go_simp; with_reducible rfl) | go_simp
    (try simp only [Act.put, List.setIfInBounds_toArray]); (try simp only [List.set_cons_succ]); (try simp only [List.set_cons_zero])
    refine r_done (by kernel_rfl) ?_
    go_wp2_with fail
    go_ret
    exact ⟨_, rfl, by rw [HP.out]; exact OwnB.low o10 hw9, bb⟩
end Go.Proofs.YthpmmnpjdpgamaaDoor
