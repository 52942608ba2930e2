/- Entries as values: every contract over them; an entry in a variable. -/
import Derived.Test.YthpmmnpjdpgamaaDoorEnA
import Derived.Test.YthpmmnpjdpgamaaDoorCan
namespace Go.Proofs.YthpmmnpjdpgamaaDoor
open Go.RowKit
set_option linter.unusedVariables false
set_option maxRecDepth 100000

/-- The tables. -/
def T7 (w : World) : Prop := Tab w ∧ TabE w ∧ TabS w
theorem T7.below {w w' : World} (h : T7 w) (b : Below w.heap.size w w') : T7 w' := ⟨h.1.below b, h.2.1.below b, h.2.2.below b⟩
/-- A value that is an entry. -/
def EnY (w : World) (v : Value) (e : E7) : Prop := ∃ A c, v = enV e A c ∧ RdB w (fun _ => True) A e.data ∧ e.data.length ≤ c ∧ c ≤ 9223372036854775807
section
variable {w w' : World} {v v' : Value} {e e' : E7} {cs : Array Value}
theorem EnY.below (h : EnY w v e) (b : Below w.heap.size w w') : EnY w' v e := by
  obtain ⟨A, c, h1, h2, h3, h4⟩ := h
  exact ⟨A, c, h1, h2.below b, h3, h4⟩
theorem EnY.of_rd {A : Option Addr} {c : Nat} {D : Nat → Prop} (h : RdB w D A e.data) (h1 : e.data.length ≤ c) (h2 : c ≤ 9223372036854775807) : EnY w (enV e A c) e := ⟨A, c, rfl, Rd.imp h (fun _ _ _ => trivial) (by decide), h1, h2⟩
theorem EnY.of_own {A : Option Addr} {c : Nat} {base : Nat} (h : OwnB w base (.slice A e.data.length c) e.data) : EnY w (enV e A c) e := by
  obtain ⟨A9, c9, h1, h2, h3⟩ := OwnB.form h
  injection h1 with h4 h5 h6
  subst h6
  exact EnY.of_rd h.rd' h2 (by unfold maxLen at h3; omega)
theorem EnY.agg (h : EnY w v e) : ∃ cs, v = .agg cs ∧ cs.size = 7 ∧ cs.all (·.oneCell') = true := by
  obtain ⟨A, c, h1, _⟩ := h
  exact ⟨enA e A c, h1, rfl, by simp [enA, Value.oneCell']⟩
theorem EnY.data (h : EnY w (.agg cs) e) : ∃ A c, cs[6]? = some (.slice A e.data.length c) ∧ RdB w (fun _ => True) A e.data ∧ e.data.length ≤ c ∧ c ≤ 9223372036854775807 := by
  obtain ⟨A, c, h1, h2, h3, h4⟩ := h
  injection h1 with h1
  exact ⟨A, c, by rw [h1]; rfl, h2, h3, h4⟩
theorem EnY.check (h : EnY w v e) : Calls Tryd.prog 11 #[v] w fun r w' => r = .returned (.int .i64 (errE (mayE e))) ∧ Below w.heap.size w w' := by
  obtain ⟨A, c, rfl, _⟩ := h
  exact Check_any e A c w
theorem EnY.may (h : EnY w v e) : Calls Tryd.prog 10 #[v] w fun r w' => r = .returned (.bool (mayE e)) ∧ Below w.heap.size w w' := by
  obtain ⟨A, c, rfl, _⟩ := h
  exact rMay_any e A c w
theorem EnY.clean (h : EnY w v e) (hl : e.data.length ≤ big) (ht : T7 w) : Calls Tryd.prog 13 #[v] w fun r w' => ∃ v', r = .returned v' ∧ EnY w' v' (cleanO e) ∧ Below w.heap.size w w' := by
  obtain ⟨A, c, rfl, h2, h3, h4⟩ := h
  refine (Clean_any e _ A c w h2 hl ht.2.1).mono ?_
  rintro r w' ⟨A', c', rfl, ho, hb⟩
  exact ⟨_, rfl, EnY.of_own ho, hb⟩
theorem EnY.rclean (h : EnY w v e) : Calls Tryd.prog 14 #[v] w fun r w' => ∃ v', r = .returned v' ∧ EnY w' v' (cleanO e) ∧ Below w.heap.size w w' := by
  obtain ⟨A, c, rfl, h2, h3, h4⟩ := h
  refine (rClean_any e _ A c w h2 h3 h4).mono ?_
  rintro r w' ⟨A', c', rfl, hr, hb, h5, h6⟩
  exact ⟨_, rfl, ⟨A', c', rfl, hr, h5, h6⟩, hb⟩
theorem EnY.same (h : EnY w v e) (h' : EnY w v' e') : Calls Tryd.prog 12 #[v, v'] w fun r w' => r = .returned (.bool (sameO e e')) ∧ Below w.heap.size w w' := by
  obtain ⟨A, c, rfl, h2, h3, h4⟩ := h
  obtain ⟨A', c', rfl, k2, k3, k4⟩ := h'
  exact rSame_any e e' _ _ A A' c c' w h2 k2
theorem same_self (e : E7) : sameO e e = true := sameO_iff.2 rfl
theorem EnY.pack (h : EnY w v e) (hl : e.data.length ≤ big) (ht : T7 w) : Calls Tryd.prog 17 #[v] w fun r w' => ∃ v', r = .returned v' ∧ OwnB w' w.heap.size v' (packO e) ∧ Below w.heap.size w w' := by
  obtain ⟨A, c, rfl, h2, h3, h4⟩ := h
  exact Pack_any e _ A c w h2 hl ht.1 ht.2.1
theorem EnY.rpack (h : EnY w v e) : Calls Tryd.prog 18 #[v] w fun r w' => ∃ v', r = .returned v' ∧ OwnB w' w.heap.size v' (packO e) ∧ Below w.heap.size w w' := by
  obtain ⟨A, c, rfl, h2, h3, h4⟩ := h
  exact rPack_any e _ A c w h2 h3 h4
theorem unpack_y {D : Nat → Prop} {A : Option Addr} {c : Nat} {b : List UInt8} (h : RdB w D A b) (hl : b.length ≤ 1000000) (hc : b.length ≤ c) (hm : c ≤ 9223372036854775807) (ht : T7 w) :
    Calls Tryd.prog 15 #[.slice A b.length c] w fun r w' => ∃ v, r = .returned (.tuple #[v, .int .i64 (unpO b).2]) ∧ EnY w' v (unpO b).1 ∧ Below w.heap.size w w' := by
  refine (Unpack_any D A c b w h hl hc hm ht.1 ht.2.1).mono ?_
  rintro r w' ⟨A', c', rfl, ho, hb⟩
  exact ⟨_, rfl, EnY.of_own ho, hb⟩
theorem runpack_y {D : Nat → Prop} {A : Option Addr} {c : Nat} {b : List UInt8} (h : RdB w D A b) (hl : b.length ≤ 1000000) (hc : b.length ≤ c) (hm : c ≤ 9223372036854775807) :
    Calls Tryd.prog 16 #[.slice A b.length c] w fun r w' => ∃ v, r = .returned (.tuple #[v, .int .i64 (unpO b).2]) ∧ EnY w' v (unpO b).1 ∧ Below w.heap.size w w' := by
  refine (rUnpack_any D A c b w h hl hc hm).mono ?_
  rintro r w' ⟨A', c', rfl, hr, hb, h5, h6⟩
  exact ⟨_, rfl, ⟨A', c', rfl, Rd.imp hr (fun _ _ _ => trivial) (by decide), h5, h6⟩, hb⟩
end
theorem zeroY (w : World) : EnY w (.agg #[.int .i64 0, .int .i64 0, .int .i64 0, .int .i64 0, .int .i64 0, .int .i64 0, .slice none 0 0]) zeroE := ⟨none, 0, rfl, RdB.nil, Nat.zero_le _, Nat.zero_le _⟩
theorem exec_load_row {ρ : Operand → Value} {o : Oper} {w : World} {ty : TypeId} {x : Operand} {g : Nat} {t : TypeId} {cs : Array Value} {fs : Array Field} (ho : o.op = .load ty x) (hx : ρ x = .pointer (some ⟨g, 0, none⟩)) (hg : Blk w g t cs)
    (hu : Tryd.prog.underlying ty = some (.struct fs)) (hi : (Tryd.prog.info? ty).map (·.size) = some cs.size) : (execOp ρ o).run Tryd.prog w = .ok (.value (.agg cs)) w := by
  unfold execOp
  simp only [ho, hx, Instr.loadAt, Instr.sureAddr, Sem.run_bind, Sem.run_pure, Result.andThen_ok, run_loadVar_row w g t ty cs (0, 0) _ hg hu rfl hi]
/-- A load of a whole struct behind a guard that lets it. -/
theorem wpList_load_rowG {ops : Array Oper} {rest : List Oper} {o : Oper} {a : Act} {w : World} {Q : Exit → Act → World → Prop} {j : Nat} {b : Bool} (hgd : o.guard = some (j, b)) (hy : yielded ops a.tmps j = some b) (ty : TypeId) (x : Operand) (ho : o.op = .load ty x)
    (g : Nat) (hx : a.eval x = .pointer (some ⟨g, 0, none⟩)) (t : TypeId) (cs : Array Value) (hg : Blk w g t cs) (fs : Array Field)
    (hu : Tryd.prog.underlying ty = some (.struct fs)) (hi : (Tryd.prog.info? ty).map (·.size) = some cs.size)
    (h : wpList Tryd.prog ops Q rest (a.put o.dst (.agg cs)) w) : wpList Tryd.prog ops Q (o :: rest) a w :=
  wpList_step fun K hK => by
    have hw : Region.wanted o (yielded ops a.tmps) = true := by simp [Region.wanted, hgd, hy]
    rw [if_pos hw]
    exact wp_load_row ty x ho g hx t cs (0, 0) _ hg hu rfl hi (hK _ _ h)
/-- An entry's variable is new; its cells are stored. -/
theorem new7 {w w' : World} (m : Mod (· = w.heap.size) (w.alloc (.cells z7 24)) w') : Below w.heap.size w w' := by
  have bn := below_new w (.cells z7 24)
  exact bn.thenM m bn.size fun i hi e => by omega
theorem byte_wrap (z : Int) : ∃ x : UInt8, (x.toNat : Int) = IntKind.u8.wrap z := by
  have h : IntKind.u8.wrap z = z % 256 := by
    simp [IntKind.wrap, IntKind.bits, IntKind.signed]
  refine ⟨UInt8.ofNat (z % 256).toNat, ?_⟩
  rw [h, UInt8.toNat_ofNat', Nat.mod_eq_of_lt (by omega)]
  omega
end Go.Proofs.YthpmmnpjdpgamaaDoor
