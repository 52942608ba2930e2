/- Laws of make, append and conversion at this program's types of bytes and of numbers. -/
import Derived.Test.YtpfbiamgnmbhnaaProg
import Derived.Test.YtpfbiamgnmbhnaaWords
namespace Go.Proofs.Ytpfbiamgnmbhnaa
set_option maxRecDepth 100000
open Go.RowKit

theorem infoB : (Try.prog.info? 5).map (fun i => (i.zero, i.size, i.bytes)) = some (some (.int .u8 0), 1, 1) := by kernel_rfl
theorem infoI : (Try.prog.info? 3).map (fun i => (i.zero, i.size, i.bytes)) = some (some (.int .i64 0), 1, 8) := by kernel_rfl

def big : Nat := 4398046511104

/-- append of a slice that reads, whatever it is, onto a row of the call's own: the run itself. -/
theorem run_app (w : World) (base : Nat) (t ty e : TypeId) (z : Value) (size bytes : Nat) (ht : Try.prog.underlying t = some (.slice e)) (hinfo : (Try.prog.info? e).map (fun i => (i.zero, i.size, i.bytes)) = some (some z, size, bytes))
    (hzs : z.cells.size = size) (hsz : 0 < size)
    (v : Value) (n : Nat) (xs : List Value) (hown : w.ownsRow base e size v n xs)
    (D : Nat → Prop) (A : Option Addr) (m c : Nat) (news : List Value) (hr : Rd w D size A m news) (h1 : ∀ u ∈ news, u.oneCell' = true)
    (h63 : n + m ≤ maxLen) (hbytes : (n + m) * bytes ≤ 140737488355328) (hbase : base ≤ w.heap.size) :
    ∃ v' w', (Builtin.append_ #[t, t] ty #[v, .slice A m c]).run Try.prog w = .ok v' w' ∧ w'.ownsRow base e size v' (n + m) (xs ++ news) ∧ w.grownBy w' v.ownBlock ∧
      (v'.ownBlock = v.ownBlock ∨ v'.ownBlock = some w.heap.size) := by
  obtain ⟨i, hi, hz, hsize, hby⟩ := info_parts hinfo
  rcases A with _ | ad
  · have hm : m = 0 := by
      rcases Nat.eq_zero_or_pos m with h0 | h0
      · exact h0
      · obtain ⟨ad, h, _⟩ := hr.2 h0
        cases h
    subst hm
    have hn : news = [] := List.eq_nil_of_length_eq_zero (by simpa using hr.1)
    subst hn
    refine ⟨v, w, ?_, by simpa using hown, World.grownBy.refl w _, .inl rfl⟩
    rcases hown.2 with ⟨rfl, rfl⟩ | ⟨g, cap, cur, rfl, _, _, hnc, _⟩
    · simp [Builtin.append_, run_underlying ht, sizeOf, typeInfo, hi, Builtin.lenOf, Builtin.firstCells]
    · simp [Builtin.append_, run_underlying ht, sizeOf, typeInfo, hi, Builtin.lenOf, Builtin.firstCells, hnc, storeCells]
  · have hcells : ∀ j u, news[j]? = some u → w.cell? (ad.add j) = some u := by
      intro j u hu
      rcases Nat.eq_zero_or_pos m with h0 | h0
      · subst h0
        have hn : news = [] := List.eq_nil_of_length_eq_zero (by simpa using hr.1)
        subst hn
        simp at hu
      · obtain ⟨ad', h, _, hc⟩ := hr.2 h0
        injection h with h
        subst h
        exact hc j u hu
    obtain ⟨v', w', hrun, h2, h3, _, h5⟩ := run_append_own_at (P := Try.prog) w base t ty e i z size bytes ht hi hz hsize hby hzs hsz v n xs hown ad m c news hr.1 hcells h1 h63 hbytes hbase
    exact ⟨v', w', hrun, h2, h3, h5⟩

/-- append, as an operation of the walk. -/
theorem wp_app {w : World} {o : Oper} {a : Act} {K : Act → World → Prop} {Q : Exit → Act → World → Prop} (s x : Operand) (t : TypeId)
    (ho : o.op = .call { callee := .builtin .append, args := #[s, x], argTypes := #[t, t] })
    (base : Nat) (e : TypeId) (z : Value) (size bytes : Nat) (ht : Try.prog.underlying t = some (.slice e)) (hinfo : (Try.prog.info? e).map (fun i => (i.zero, i.size, i.bytes)) = some (some z, size, bytes))
    (hzs : z.cells.size = size) (hsz : 0 < size)
    (v : Value) (n : Nat) (xs : List Value) (hs : a.eval s = v) (hown : w.ownsRow base e size v n xs)
    (D : Nat → Prop) (A : Option Addr) (m c : Nat) (news : List Value) (hx : a.eval x = .slice A m c) (hr : Rd w D size A m news) (h1 : ∀ u ∈ news, u.oneCell' = true)
    (h63 : n + m ≤ maxLen) (hbytes : (n + m) * bytes ≤ 140737488355328) (hbase : base ≤ w.heap.size)
    (h : ∀ v' w', w'.ownsRow base e size v' (n + m) (xs ++ news) → w.grownBy w' v.ownBlock → (v'.ownBlock = v.ownBlock ∨ v'.ownBlock = some w.heap.size) → K (a.put o.dst v') w') : o.wp Try.prog a w K Q := by
  obtain ⟨v', w', hrun, h2, h3, h4⟩ := run_app w base t o.type e z size bytes ht hinfo hzs hsz v n xs hown D A m c news hr h1 h63 hbytes hbase
  unfold Oper.wp execOp
  simp only [ho, resolve, invoke, builtin, Sem.run_bind, Sem.run_pure, Result.andThen_ok, List.map_toArray, List.map_cons, List.map_nil, hs, hx, hrun]
  exact h v' w' h2 h3 h4

section
variable {w : World} {ops : Array Oper} {rest : List Oper} {o : Oper} {a : Act} {Q : Exit → Act → World → Prop}
theorem wpList_appB (hgd : o.guard = none) (s x : Operand) (ho : o.op = .call { callee := .builtin .append, args := #[s, x], argTypes := #[27, 27] })
    (base : Nat) (v : Value) (bs : List UInt8) (hs : a.eval s = v) (hown : OwnB w base v bs)
    (D : Nat → Prop) (A : Option Addr) (m c : Nat) (news : List UInt8) (hx : a.eval x = .slice A m c) (hm : m = news.length) (hr : RdB w D A news)
    (hlen : bs.length + news.length ≤ big) (hbase : base ≤ w.heap.size)
    (h : ∀ v' w', OwnB w' base v' (bs ++ news) → Ext w w' v v' → wpList Try.prog ops Q rest (a.put o.dst v') w') :
    wpList Try.prog ops Q (o :: rest) a w := by
  subst hm
  refine wpList_plain hgd fun _ hK => wp_app s x _ ho base 5 (.int .u8 0) 1 1 Try.underlying27 infoB rfl (by decide) v _ _ hs hown D A _ c _ hx hr (cB_one _) ?_ ?_ hbase fun v' w' h2 h3 h4 => hK _ _ (h v' w' ?_ ⟨h3, h4.imp id fun e k hk => by rw [e] at hk; injection hk with hk; omega⟩)
  · unfold big at hlen; unfold maxLen; omega
  · unfold big at hlen; omega
  · unfold OwnB; rw [List.length_append, List.map_append]; exact h2
theorem wpList_appI (hgd : o.guard = none) (s x : Operand) (ho : o.op = .call { callee := .builtin .append, args := #[s, x], argTypes := #[39, 39] })
    (base : Nat) (v : Value) (bs : List Int) (hs : a.eval s = v) (hown : OwnI w base v bs)
    (D : Nat → Prop) (A : Option Addr) (m c : Nat) (news : List Int) (hx : a.eval x = .slice A m c) (hm : m = news.length) (hr : RdI w D A news)
    (hlen : bs.length + news.length ≤ big) (hbase : base ≤ w.heap.size)
    (h : ∀ v' w', OwnI w' base v' (bs ++ news) → Ext w w' v v' → wpList Try.prog ops Q rest (a.put o.dst v') w') :
    wpList Try.prog ops Q (o :: rest) a w := by
  subst hm
  refine wpList_plain hgd fun _ hK => wp_app s x _ ho base 3 (.int .i64 0) 1 8 Try.underlying39 infoI rfl (by decide) v _ _ hs hown D A _ c _ hx hr (cI_one _) ?_ ?_ hbase fun v' w' h2 h3 h4 => hK _ _ (h v' w' ?_ ⟨h3, h4.imp id fun e k hk => by rw [e] at hk; injection hk with hk; omega⟩)
  · unfold big at hlen; unfold maxLen; omega
  · unfold big at hlen; omega
  · unfold OwnI; rw [List.length_append, List.map_append]; exact h2
end

theorem run_copy_own (w : World) (dT sT ty e : TypeId) (ht : Try.prog.underlying dT = some (.slice e)) (hsz : (Try.prog.info? e).map (·.size) = some 1)
    (base : Nat) (v : Value) (n : Nat) (xs : List Value) (hown : w.ownsRow base e 1 v n xs) (D : Nat → Prop) (A : Option Addr) (m c : Nat) (ys : List Value) (hr : Rd w D 1 A m ys) (h1 : ∀ u ∈ ys, u.oneCell' = true) :
    ∃ w', (Builtin.copy_ #[dT, sT] ty #[v, .slice A m c]).run Try.prog w = .ok (goInt ((min m n : Nat) : Int)) w' ∧ w'.ownsRow base e 1 v n (ys.take n ++ xs.drop m) ∧ w.grownBy w' v.ownBlock := by
  have hlx : xs.length = n := by simpa using hown.1
  have hly : ys.length = m := by simpa using hr.1
  have nothing : min m n = 0 → xs = ys.take n ++ xs.drop m := by
    intro h
    rcases Nat.eq_zero_or_pos n with hn | hn
    · subst hn
      have : xs = [] := List.eq_nil_of_length_eq_zero hlx
      subst this; simp
    · have hm : m = 0 := by omega
      subst hm
      have : ys = [] := List.eq_nil_of_length_eq_zero hly
      subst this; simp
  rcases own_form hown with ⟨dA, dc, rfl, hdc, _⟩
  by_cases h0 : min m n = 0
  · have hrun := run_copy_none (P := Try.prog) w dT sT ty e dA A n dc m c ht hsz h0
    rw [h0]
    exact ⟨w, hrun, by rw [← nothing h0]; exact hown, World.grownBy.refl _ _⟩
  · obtain ⟨ad, rfl, _, hc⟩ := hr.2 (by omega)
    rcases hown.2 with ⟨hv, hn0⟩ | ⟨g, cap, cur, hv, hbg, hg, hnc, hcm, hcs, htake⟩
    · omega
    · injection hv with hA _ hcap
      subst hA
      have hcl : (ys.take n).length = Nat.min m n := by rw [List.length_take, hly]; show min n m = min m n; omega
      have hcs1 : cur.size = cap := by simpa using hcs
      have hrun := run_copy_row (P := Try.prog) w dT sT ty e g 0 n dc ad m c cur e (ys.take n) ht hsz hg hcl (fun j u hu => hc j u (by
        rw [List.getElem?_take] at hu
        split at hu
        · exact hu
        · cases hu)) (by rw [hcl]; show 0 + min m n ≤ _; omega) (fun u hu => h1 u (List.mem_of_mem_take hu))
      have hcl' : (ys.take n).length = min m n := hcl
      rw [hcl'] at hrun
      subst hcap
      refine ⟨_, hrun, ⟨by simp [hlx, hly]; omega, .inr ⟨g, dc, _, rfl, hbg, setRow_heap w g cur _ e _ hg, hnc, hcm, ?_, ?_⟩⟩, ⟨rfl, rfl, rfl, by simp, fun k _ hk => setRow_other w g k _ (fun e => hk (by simp [Value.ownBlock, e]))⟩⟩
      · simp [hly]; omega
      · simp only [List.take_zero, List.nil_append, Nat.zero_add, Nat.mul_one] at htake ⊢
        rw [← htake]
        have hlt : cur.toList.length = dc := by simpa using hcs1
        apply List.ext_getElem?
        intro i
        simp only [List.getElem?_take, List.getElem?_append, List.getElem?_drop, List.length_take, hly]
        split <;> rename_i hi
        · split <;> rename_i hi2
          · rfl
          · have e1 : min m n + (i - min n m) = i := by omega
            have e2 : m + (i - min n m) = i := by omega
            rw [e1, e2, if_pos hi]
        · split <;> rename_i hi2
          · omega
          · rw [if_neg (by omega)]

section
variable {w : World} {ops : Array Oper} {rest : List Oper} {o : Oper} {a : Act} {Q : Exit → Act → World → Prop}
theorem wpList_copyB (hgd : o.guard = none) (d s : Operand) (ho : o.op = .call { callee := .builtin .copy, args := #[d, s], argTypes := #[27, 27] })
    (base : Nat) (v : Value) (xs : List UInt8) (hd : a.eval d = v) (hown : OwnB w base v xs) (D : Nat → Prop) (A : Option Addr) (m c : Nat) (ys : List UInt8) (hs : a.eval s = .slice A m c) (hm : m = ys.length) (hr : RdB w D A ys)
    (h : ∀ w', OwnB w' base v (ys.take xs.length ++ xs.drop ys.length) → w.grownBy w' v.ownBlock → wpList Try.prog ops Q rest (a.put o.dst (goInt ((min ys.length xs.length : Nat) : Int))) w') :
    wpList Try.prog ops Q (o :: rest) a w := by
  subst hm
  refine wpList_plain hgd fun K hK => ?_
  obtain ⟨w', hrun, h1, h2⟩ := run_copy_own w 27 27 o.type 5 Try.underlying27 (by rfl) base v _ _ hown D A _ c _ hr (cB_one _)
  unfold Oper.wp
  simp only [execOp, ho, resolve, invoke, builtin, hd, hs, hrun, Sem.run_bind, Sem.run_pure, Result.andThen_ok, List.map_toArray, List.map_cons, List.map_nil]
  refine hK _ _ (h w' ?_ h2)
  unfold OwnB
  rw [List.map_append, List.map_take, List.map_drop]
  have : (ys.take xs.length ++ xs.drop ys.length).length = xs.length := by simp; omega
  rw [this]
  simpa using h1
theorem wpList_makeB (hgd : o.guard = none) (l c : Operand) (hop : o.op = Op.makeSlice 27 l c) (base n : Nat) (hl : a.eval l = .int .i64 (n : Int)) (hc : a.eval c = .int .i64 (n : Int)) (hn : n ≤ big) (hb : base ≤ w.heap.size)
    (h : ∀ w', OwnB w' base (.slice (some ⟨w.heap.size, 0, none⟩) n n) (List.replicate n 0) → Below w.heap.size w w' → wpList Try.prog ops Q rest (a.put o.dst (.slice (some ⟨w.heap.size, 0, none⟩) n n)) w') :
    wpList Try.prog ops Q (o :: rest) a w := by
  obtain ⟨i, hi, hz0, hz1, hz2⟩ := info_parts infoB
  refine wpList_make_full w hgd l c _ hop base _ i _ 1 Try.underlying27 hi hz0 hz1 .i64 .i64 n n n hl hc rfl rfl (by rw [hz2]; unfold big at hn; omega) (by unfold big at hn; unfold maxLen; omega) hb fun w' h1 h2 => h w' ?_ ⟨h2.os, h2.tape, h2.output, h2.size, fun k hk => h2.block k hk (by simp)⟩
  unfold OwnB
  simp only [List.length_replicate, List.map_replicate]
  have e : (madeCells (Value.int .u8 0).cells (n * 1)).toList = List.replicate n (cB 0) := by
    rw [Nat.mul_one]; exact toList_madeCells_one _ _
  rw [e] at h1
  exact h1
end

/-- One byte in a new block of its own: what 'append(out, x)' appends. -/
def byteOf (n : Int) : UInt8 := UInt8.ofNat (n % 256).toNat
theorem byteOf_cell (n : Int) : Value.int .u8 (IntKind.u8.wrap n) = cB (byteOf n) := by
  unfold cB byteOf
  congr 1
  simp only [IntKind.wrap, UInt8.toNat_ofNat']
  simp [IntKind.signed, IntKind.bits]
  omega
theorem rd_newB (w : World) (b : UInt8) (n : Int) (h : n = (b.toNat : Int)) : RdB (w.alloc (.cells #[.int .u8 n] 5)) (· = w.heap.size) (some ⟨w.heap.size, 0, none⟩) [b] := by
  subst h
  refine ⟨rfl, fun _ => ⟨_, rfl, rfl, ?_⟩⟩
  exact cell_one_new w (cB b) _
theorem rd_newI (w : World) (n : Int) : RdI (w.alloc (.cells #[.int .i64 n] 3)) (· = w.heap.size) (some ⟨w.heap.size, 0, none⟩) [n] := by
  refine ⟨rfl, fun _ => ⟨_, rfl, rfl, ?_⟩⟩
  exact cell_one_new w (cI n) _

@[go_sem] theorem eqB_nil (w : World) (A : Option Addr) (n c : Nat) : (binOp .eql 27 (.slice A n c) (.slice none 0 0)).run Try.prog w = .ok (.bool A.isNone) w := Lib.run_eql_slice_nil w _ 5 A n c 0 0 Try.underlying27
@[go_sem] theorem eqI_nil (w : World) (A : Option Addr) (n c : Nat) : (binOp .eql 39 (.slice A n c) (.slice none 0 0)).run Try.prog w = .ok (.bool A.isNone) w := Lib.run_eql_slice_nil w _ 3 A n c 0 0 Try.underlying39
/-- string(b), b of the call's own, in a later world. -/
theorem str_in {w W : World} {base n c : Nat} {A : Option Addr} {bs : List UInt8} {X : Nat → Prop} (h : OwnB w base (.slice A n c) bs) (hn : n = bs.length) (hW : Mod X w W) (hx : ∀ k, base ≤ k → ¬ X k) :
    (convert 27 9 (.slice A n c)).run Try.prog W = .ok (.string (str bs)) W := by
  subst hn
  exact run_str (Rd.mod h.rd hW (fun b hb => hx b hb.1)) c _ _ _ Try.underlying27 Try.underlying5 Try.underlying9
theorem str_inB {w W : World} {base n c : Nat} {A : Option Addr} {bs : List UInt8} (h : OwnB w base (.slice A n c) bs) (hn : n = bs.length) (hW : Below w.heap.size w W) :
    (convert 27 9 (.slice A n c)).run Try.prog W = .ok (.string (str bs)) W := by
  subst hn
  exact run_str (Rd.below h.rd hW) c _ _ _ Try.underlying27 Try.underlying5 Try.underlying9
theorem str_rd {w : World} {D : Nat → Prop} {n c : Nat} {A : Option Addr} {bs : List UInt8} (h : RdB w D A bs) (hn : n = bs.length) :
    (convert 27 9 (.slice A n c)).run Try.prog w = .ok (.string (str bs)) w := by
  subst hn
  exact run_str h c _ _ _ Try.underlying27 Try.underlying5 Try.underlying9
theorem litB (w : World) (bs : List UInt8) (n : Nat) (cs : Array Value) (hn : n = bs.length) (hcs : cs = (bs.map cB).toArray) (hl : bs.length ≤ big) :
    OwnB (w.alloc (.cells cs 5)) w.heap.size (.slice (some ⟨w.heap.size, 0, none⟩) n n) bs := by
  subst hn; subst hcs
  have := own_lit w 5 (bs.map cB) w.heap.size (Nat.le_refl _) (by rw [List.length_map]; unfold big at hl; unfold maxLen; omega)
  rw [List.length_map] at this
  exact this
theorem litI (w : World) (zs : List Int) (n : Nat) (cs : Array Value) (hn : n = zs.length) (hcs : cs = (zs.map cI).toArray) (hl : zs.length ≤ big) :
    OwnI (w.alloc (.cells cs 3)) w.heap.size (.slice (some ⟨w.heap.size, 0, none⟩) n n) zs := by
  subst hn; subst hcs
  have := own_lit w 3 (zs.map cI) w.heap.size (Nat.le_refl _) (by rw [List.length_map]; unfold big at hl; unfold maxLen; omega)
  rw [List.length_map] at this
  exact this
theorem below_new (w : World) (o : Obj) : Below w.heap.size w (w.alloc o) := (Below.refl _ _).alloc (Nat.le_refl _) _

end Go.Proofs.Ytpfbiamgnmbhnaa
