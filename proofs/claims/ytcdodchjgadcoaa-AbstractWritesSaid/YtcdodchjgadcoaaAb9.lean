/- An image behind an operation, plain; clear and copy in the middle of a row of one's own. -/
import Derived.Test.YtcdodchjgadcoaaAbE
namespace Go.Proofs.Ytcdodchjgadcoaa
open Go.RowKit
set_option linter.unusedVariables false
set_option maxRecDepth 100000

/-- Bytes with others laid over them. -/
def laidO (d : List UInt8) (off : Nat) (x : List UInt8) : List UInt8 := d.take off ++ x ++ d.drop (off + x.length)
theorem laidO_len (d : List UInt8) (off : Nat) (x : List UInt8) (h : off + x.length ≤ d.length) : (laidO d off x).length = d.length := by
  unfold laidO
  rw [List.length_append, List.length_append, List.length_take, List.length_drop]
  omega
def sizeO (d : List UInt8) (n : Nat) : List UInt8 := d.take n ++ List.replicate (n - d.length) 0
theorem sizeO_len (d : List UInt8) (n : Nat) : (sizeO d n).length = n := by
  unfold sizeO
  rw [List.length_append, List.length_take, List.length_replicate]
  omega
def doP (p : PI) (e : E7) : PI × Int × Int :=
  if mayI p = false then (zeroI, 0, 1) else if mayE e = false then (zeroI, 0, 180)
  else if e.kind = 1 then (if (p.d.length : Int) < e.off + e.data.length then (zeroI, 0, 180) else ({ p with d := laidO p.d e.off.toNat e.data }, 0, 0))
  else if e.kind = 2 then (if (p.d.length : Int) < e.off + e.len then (zeroI, 0, 180) else ({ p with d := laidO p.d e.off.toNat (List.replicate e.len.toNat 0) }, 0, 0))
  else if e.kind = 3 then ({ p with d := sizeO p.d e.len.toNat }, 0, 0)
  else if e.kind = 4 then (if 4 ≤ p.S.length ∨ 100 ≤ p.last then (zeroI, 0, 110) else (⟨p.d, p.S ++ [(p.last + 1, p.d)], p.last + 1⟩, p.last + 1, 0))
  else if findO (idsP p.S) e.snap < 0 then (zeroI, 0, 182)
  else if e.kind = 5 then ({ p with S := p.S.eraseIdx (findO (idsP p.S) e.snap).toNat }, 0, 0)
  else ({ p with d := (p.S.getD (findO (idsP p.S) e.snap).toNat (0, [])).2 }, 0, 0)

theorem mayI_bd {p : PI} (h : mayI p = true) : p.d.length ≤ 512 ∧ p.S.length ≤ 4 ∧ 0 ≤ p.last ∧ p.last ≤ 100 ∧ copiesO p.last 0 p.S = true := by
  unfold mayI at h
  simp only [Bool.and_eq_true, decide_eq_true_eq] at h
  exact ⟨h.1, h.2.1, h.2.2.1, h.2.2.2.1, h.2.2.2.2⟩
theorem copiesO_bd (last : Int) : ∀ (a : Int) (S : List (Int × List UInt8)), copiesO last a S = true → ∀ s ∈ S, s.2.length ≤ 512 ∧ a < s.1 ∧ s.1 ≤ last
  | _, [], _, s, hs => by simp at hs
  | a, x :: r, h, s, hs => by
    rw [copiesO] at h
    simp only [Bool.and_eq_true, decide_eq_true_eq] at h
    rcases List.mem_cons.1 hs with rfl | hs
    · exact ⟨h.2.2.1, h.1, h.2.1⟩
    · have := copiesO_bd last x.1 r h.2.2.2 s hs
      exact ⟨this.1, by omega, this.2.2⟩

/-! ### a segment of a row of one's own -/
theorem laid_row (cur : List Value) (d x : List UInt8) (off c : Nat) (hc : cur.length = c) (ht : cur.take d.length = d.map cB) (hd : d.length ≤ c) (hx : off + x.length ≤ d.length) :
    (cur.take off ++ x.map cB ++ cur.drop (off + x.length)).take d.length = (laidO d off x).map cB := by
  unfold laidO
  rw [List.map_append, List.map_append, List.map_take, List.map_drop, ← ht]
  apply List.ext_getElem?
  intro j
  simp only [List.getElem?_take, List.getElem?_append, List.getElem?_drop, List.length_append, List.length_take, List.length_map]
  by_cases h1 : j < d.length
  · rw [if_pos h1]
    by_cases h2 : j < off
    · rw [if_pos (by omega), if_pos (by omega), if_pos h2, if_pos (by omega), if_pos (by omega), if_pos h2, if_pos h1]
    · by_cases h3 : j < off + x.length
      · rw [if_pos (by omega), if_neg (by omega), if_pos (by omega), if_neg (by omega)]
        congr 1
        omega
      · rw [if_neg (by omega), if_neg (by omega), if_pos (by omega)]
        congr 1
        omega
  · rw [if_neg h1, if_neg (by omega), if_neg (by omega)]
/-- What a segment of a row of one's own is, at a cut of the row. -/
theorem own_seg {w : World} {base c : Nat} {A : Option Addr} {d : List UInt8} (h : OwnB w base (.slice A d.length c) d) (off : Nat) (x : List UInt8) (hx : off + x.length ≤ d.length) (h0 : 0 < x.length) :
    ∃ g cur, A = some ⟨g, 0, none⟩ ∧ cutA A off c 1 = some ⟨g, off, none⟩ ∧ Blk w g 5 cur ∧ off + x.length ≤ cur.size ∧
      (let w' := w.setRow g (cur.toList.take off ++ x.map cB ++ cur.toList.drop (off + x.length)).toArray
       OwnB w' base (.slice A (laidO d off x).length c) (laidO d off x) ∧ Mod (fun b => (Value.slice A d.length c).ownBlock = some b) w w') := by
  have hl := laidO_len d off x hx
  rcases h.2 with ⟨hv, h2⟩ | ⟨g, cap, cur, hv, hb, hg, hnc, hcm, hcs, ht⟩
  · omega
  · injection hv with hA _ hc
    subst hA hc
    have hcs1 : cur.size = c := by simpa using hcs
    have ht1 : cur.toList.take d.length = d.map cB := by simpa using ht
    refine ⟨g, cur, rfl, ?_, hg, by omega, ?_, ?_⟩
    · unfold cutA
      rw [if_neg (by omega)]
      simp only [Nat.mul_one, Option.map_some, add_head]
    · refine ⟨by simp, .inr ⟨g, c, _, rfl, hb, setRow_heap w g cur _ _ _ hg, by rw [hl]; exact hnc, hcm, ?_, ?_⟩⟩
      · simp
        omega
      · rw [hl]
        have := laid_row cur.toList d x off c (by simpa using hcs1) ht1 hnc hx
        simpa using this
    · exact (mod_setRow _).mono fun k _ hk => by rw [hk]; rfl
theorem laidO_nil (d : List UInt8) (off : Nat) : laidO d off [] = d := by unfold laidO; simp
theorem run_clearB (w : World) (ty : TypeId) (base c : Nat) (A : Option Addr) (d : List UInt8) (h : OwnB w base (.slice A d.length c) d) (off n k : Nat) (hx : off + n ≤ d.length) :
    ∃ w', (Builtin.clear_ #[22] ty #[.slice (cutA A off c 1) n k]).run Try.prog w = .ok (.tuple #[]) w' ∧ OwnB w' base (.slice A (laidO d off (List.replicate n 0)).length c) (laidO d off (List.replicate n 0)) ∧ Mod (fun b => (Value.slice A d.length c).ownBlock = some b) w w' := by
  rcases Nat.eq_zero_or_pos n with h0 | h0
  · subst h0
    rw [List.replicate_zero, laidO_nil]
    refine ⟨w, ?_, h, Mod.refl _ _⟩
    cases hq : cutA A off c 1 <;> simp [Builtin.clear_, run_underlying Try.underlying22]
  · obtain ⟨g, cur, hA, hcut, hB, hsz, hO, hM⟩ := own_seg h off (List.replicate n 0) (by rw [List.length_replicate]; exact hx) (by rw [List.length_replicate]; exact h0)
    refine ⟨_, ?_, hO, hM⟩
    rw [hcut]
    have hz : ∀ w, (zeroValue 5).run Try.prog w = .ok (.int .u8 0) w := fun _ => by kernel_rfl
    have hzc : (Builtin.zeroCells (Value.int .u8 0).cells n).toList = (List.replicate n (0 : UInt8)).map cB := by
      rw [show (Value.int .u8 0).cells = #[.int .u8 0] from rfl, List.map_replicate]
      simp [Builtin.zeroCells]
      apply List.ext_getElem
      · simp
      · intro i h1 h2
        simp [Nat.mod_one]
        rfl
    have hst := run_storeCells_at Try.prog g off 5 ((List.replicate n (0 : UInt8)).map cB) 0 cur w hB (by simpa using hsz) (cB_one _)
    simp only [Nat.add_zero] at hst
    obtain ⟨m, rfl⟩ : ∃ m, n = m + 1 := ⟨n - 1, by omega⟩
    simp only [Builtin.clear_, List.getElem?_toArray, List.getElem?_cons_zero, run_underlying Try.underlying22, Sem.run_bind, Result.andThen_ok, hz, hzc, hst, Sem.run_pure]
    simp
theorem run_copyB (w : World) (ty : TypeId) (base c : Nat) (A : Option Addr) (d : List UInt8) (h : OwnB w base (.slice A d.length c) d) (off k : Nat) (D : Nat → Prop) (X : Option Addr) (cx : Nat) (x : List UInt8) (hr : RdB w D X x) (hx : off + x.length ≤ d.length) :
    ∃ w', (Builtin.copy_ #[22, 22] ty #[.slice (cutA A off c 1) x.length k, .slice X x.length cx]).run Try.prog w = .ok (goInt (x.length : Nat)) w' ∧ OwnB w' base (.slice A (laidO d off x).length c) (laidO d off x) ∧ Mod (fun b => (Value.slice A d.length c).ownBlock = some b) w w' := by
  rcases Nat.eq_zero_or_pos x.length with h0 | h0
  · have e : x = [] := List.eq_nil_of_length_eq_zero h0
    subst e
    rw [laidO_nil]
    exact ⟨w, run_copy_none w _ _ ty 5 _ X 0 k 0 cx Try.underlying22 (by kernel_rfl) rfl, h, Mod.refl _ _⟩
  · obtain ⟨g, cur, hA, hcut, hB, hsz, hO, hM⟩ := own_seg h off x hx h0
    obtain ⟨ad, rfl, _, hc⟩ := hr.2 h0
    have hrun := run_copy_row (P := Try.prog) w 22 22 ty 5 g off x.length k ad x.length cx cur 5 (x.map cB) Try.underlying22 (by kernel_rfl) hB (by simp) hc (by simpa using hsz) (cB_one _)
    rw [List.length_map] at hrun
    exact ⟨_, by rw [hcut]; exact hrun, hO, hM⟩
section
variable {w w' : World} {ops : Array Oper} {rest : List Oper} {o : Oper} {a : Act} {Q : Exit → Act → World → Prop}
theorem wpList_clearD (hgd : o.guard = none) (x : Operand) (ho : o.op = .call { callee := .builtin .clear, args := #[x], argTypes := #[22] }) (u : Value) (hx : a.eval x = u)
    (hrun : (Builtin.clear_ #[22] o.type #[u]).run Try.prog w = .ok (.tuple #[]) w') (h : wpList Try.prog ops Q rest (a.put o.dst (.tuple #[])) w') : wpList Try.prog ops Q (o :: rest) a w := by
  refine wpList_plain hgd fun _ hK => ?_
  unfold Oper.wp execOp
  simp only [ho, resolve, invoke, builtin, Sem.run_bind, Sem.run_pure, Result.andThen_ok, List.map_toArray, List.map_cons, List.map_nil, hx, hrun]
  exact hK _ _ h
theorem wpList_copyD (hgd : o.guard = none) (x y : Operand) (ho : o.op = .call { callee := .builtin .copy, args := #[x, y], argTypes := #[22, 22] }) (u v r : Value) (hx : a.eval x = u) (hy : a.eval y = v)
    (hrun : (Builtin.copy_ #[22, 22] o.type #[u, v]).run Try.prog w = .ok r w') (h : wpList Try.prog ops Q rest (a.put o.dst r) w') : wpList Try.prog ops Q (o :: rest) a w := by
  refine wpList_plain hgd fun _ hK => ?_
  unfold Oper.wp execOp
  simp only [ho, resolve, invoke, builtin, Sem.run_bind, Sem.run_pure, Result.andThen_ok, List.map_toArray, List.map_cons, List.map_nil, hx, hy, hrun]
  exact hK _ _ h
end
theorem results_cell_tmp2 {P : Program} {fn : Func} {p t s : Tmp} {ty : TypeId} (h : fn.results = #[.cell p ty, .tmp t, .tmp s]) (tmps : Array Value) (w : World) (g : Nat) (T : TypeId) (cs : Array Value) (fr : Nat × Nat) (d : TypeDesc)
    (hp : tmps.getD p undef = .pointer (some ⟨g, 0, none⟩)) (hg : w.heap[g]? = some (.cells cs T fr))
    (hu : P.underlying ty = some d) (hd : (match d with | .struct _ | .array _ _ => true | _ => false) = true) (hi : (P.info? ty).map (·.size) = some cs.size) :
    (results fn tmps).run P w = .ok (.tuple #[.agg cs, tmps.getD t undef, tmps.getD s undef]) w := by
  have hp' : tmps[p]?.getD undef = .pointer (some ⟨g, 0, none⟩) := by simpa using hp
  simp [results, h, hp', asAddr, run_loadVar_row w g T ty cs fr d hg hu hd hi]
end Go.Proofs.Ytcdodchjgadcoaa
