/- Maps whose keys are pairs of ints: the laws of the operations. -/
import Derived.Test.YtpfbiamgnmbhnaaElems
import Derived.Test.YtpfbiamgnmbhnaaBlksB
import Derived.Maps.Own
namespace Go.Proofs.Ytpfbiamgnmbhnaa
open Go.RowKit
set_option linter.unusedVariables false
set_option maxRecDepth 100000

def kV (a : Int × Int) : Value := .agg #[.int .i64 a.1, .int .i64 a.2]
theorem sizeI : ∀ w, (sizeOf 3).run Try.prog w = .ok 1 w := fun w => by kernel_rfl
theorem isAggI : ∀ w, (isAgg 3).run Try.prog w = .ok false w := fun w => by kernel_rfl
theorem range2 : List.range' 0 2 = [0, 1] := rfl
theorem run_checkInt (b : Bool) (n : Nat) (x : Int) (w : World) : (Instr.checkKey b (n + 1) 3 (.int .i64 x)).run Try.prog w = .ok () w := by
  simp [Instr.checkKey, run_underlying Try.underlying3]
theorem run_checkKey (b : Bool) (n : Nat) (k : Int × Int) (w : World) : (Instr.checkKey b (n + 2) 37 (kV k)).run Try.prog w = .ok () w := by
  unfold kV
  simp [Instr.checkKey, run_underlying Try.underlying37, run_underlying Try.underlying3, part, range2]
theorem run_eqI (n : Nat) (x y : Int) (w : World) : (Op.equalIn (n + 1) 3 (.int .i64 x) (.int .i64 y)).run Try.prog w = .ok (x == y) w := by
  unfold Op.equalIn
  simp [run_underlying Try.underlying3]
theorem run_equalK (n : Nat) (a b : Int × Int) (w : World) : (Op.equalIn (n + 2) 37 (kV a) (kV b)).run Try.prog w = .ok (decide (a = b)) w := by
  obtain ⟨a1, a2⟩ := a
  obtain ⟨b1, b2⟩ := b
  unfold kV
  rw [Op.equalIn]
  simp only [Sem.run_bind, run_underlying Try.underlying37, Result.andThen_ok, sizeI]
  by_cases h1 : a1 = b1
  · by_cases h2 : a2 = b2
    · subst h1 h2
      simp [part, range2, run_eqI]
    · subst h1
      simp [part, range2, run_eqI, h2]
  · simp [part, range2, run_eqI, h1]
theorem run_equal (a b : Int × Int) (w : World) : (Op.equal 37 (kV a) (kV b)).run Try.prog w = .ok (decide (a = b)) w := run_equalK 9998 a b w

/-! ### the entries -/
/-- An entry: its key, its value, its stamp. -/
structure NE where
  k : Int × Int
  v : Value
  born : Nat
def mE (x : NE) : MapEntry := ⟨kV x.k, x.v, x.born⟩
def findN (k : Int × Int) : List NE → Nat → Option (Nat × Value)
  | [], _ => none
  | x :: r, i => if k = x.k then some (i, x.v) else findN k r (i + 1)
theorem run_asking (k : Int × Int) (w : World) : ∀ (L : List NE) (i : Nat), (Instr.findAsking 37 (kV k) (L.map mE) i).run Try.prog w = .ok (findN k L i) w
  | [], i => by simp [Instr.findAsking, findN]
  | x :: r, i => by
    have ih := run_asking k w r (i + 1)
    rw [List.map_cons, Instr.findAsking, findN]
    simp only [Sem.run_bind, mE, run_equal, Result.andThen_ok]
    by_cases h : k = x.k
    · simp [h]
    · simp [h]
      exact ih
theorem run_findKey (k : Int × Int) (L : List NE) (w : World) : (Instr.findKey 37 (kV k) (L.map mE)).run Try.prog w = .ok (findN k L 0) w := by
  unfold Instr.findKey
  have ha := run_asking k w L 0
  cases L with
  | nil => simp [Instr.findNow, run_underlying Try.underlying37, findN]
  | cons x r =>
    have hn : Instr.findNow (.array 2 3) (kV k) ((x :: r).map mE) 0 = none := by
      rw [List.map_cons, Instr.findNow]
      rfl
    simp only [Sem.run_bind, run_underlying Try.underlying37, Result.andThen_ok, hn]
    exact ha
/-- Block b is a map of these entries. -/
structure MapN (w : World) (b : Nat) (L : List NE) (cl : Nat) : Prop where
  obj : w.heap[b]? = some (.map (L.map mE).toArray cl)
  keys : L.Pairwise fun x y => x.k ≠ y.k
  born : L.Pairwise fun x y => x.born ≠ y.born
  old : ∀ x ∈ L, x.born < cl
theorem findN_some : ∀ (L : List NE) (k : Int × Int) (i j : Nat) (v : Value), findN k L i = some (j, v) → ∃ m x, j = i + m ∧ L[m]? = some x ∧ x.k = k ∧ x.v = v
  | [], _, _, _, _, h => by simp [findN] at h
  | x :: r, k, i, j, v, h => by
    unfold findN at h
    split at h
    · rename_i he
      injection h with h
      injection h with h1 h2
      exact ⟨0, x, by omega, rfl, he.symm, h2⟩
    · obtain ⟨m, y, h1, h2, h3, h4⟩ := findN_some r k (i + 1) j v h
      exact ⟨m + 1, y, by omega, by simpa using h2, h3, h4⟩
theorem findN_none : ∀ (L : List NE) (k : Int × Int) (i : Nat), findN k L i = none → ∀ x ∈ L, x.k ≠ k
  | [], _, _, _, _, h => by simp at h
  | y :: r, k, i, h, x, hx => by
    unfold findN at h
    split at h
    · cases h
    · rename_i hne
      rcases List.mem_cons.1 hx with rfl | hx
      · exact fun e => hne e.symm
      · exact findN_none r k (i + 1) h x hx
/-- The entry at a key: there, or nowhere. -/
theorem find_split (L : List NE) (k : Int × Int) : (findN k L 0 = none ∧ ∀ x ∈ L, x.k ≠ k) ∨ ∃ m x, findN k L 0 = some (m, x.v) ∧ L[m]? = some x ∧ x.k = k := by
  cases h : findN k L 0 with
  | none => exact .inl ⟨rfl, findN_none L k 0 h⟩
  | some p =>
    obtain ⟨j, v⟩ := p
    obtain ⟨m, x, h1, h2, h3, h4⟩ := findN_some L k 0 j v h
    exact .inr ⟨m, x, by rw [h4, h1, Nat.zero_add], h2, h3⟩
theorem zeroBB : ∀ w, (zeroValue 55).run Try.prog w = .ok (.slice none 0 0) w := fun w => by kernel_rfl
/-- What a look-up hands out. -/
def LookN (L : List NE) (k : Int × Int) (v : Value) : Prop := (∃ x ∈ L, x.k = k ∧ x.v = v) ∨ ((∀ x ∈ L, x.k ≠ k) ∧ v = .slice none 0 0)
def getN (L : List NE) (k : Int × Int) : Value := match findN k L 0 with
  | some (_, v) => v
  | none => .slice none 0 0
theorem getN_look (L : List NE) (k : Int × Int) : LookN L k (getN L k) := by
  unfold getN
  rcases find_split L k with ⟨h1, h2⟩ | ⟨m, x, h1, h2, h3⟩
  · rw [h1]; exact .inr ⟨h2, rfl⟩
  · rw [h1]; exact .inl ⟨x, List.mem_of_getElem? h2, h3, rfl⟩
theorem MapN.look_get {w : World} {b cl : Nat} {L : List NE} (h : MapN w b L cl) (k : Int × Int) : (Instr.lookup 48 (.map (some b)) (kV k) false).run Try.prog w = .ok (getN L k) w := by
  have hc : ∀ em, (Instr.checkKey em 10000 37 (kV k)).run Try.prog w = .ok () w := fun em => run_checkKey em 9998 k w
  have hf := run_findKey k L w
  unfold getN
  rcases find_split L k with ⟨h1, h2⟩ | ⟨m, x, h1, h2, h3⟩
  · rw [h1] at hf ⊢
    simp [Instr.lookup, run_underlying Try.underlying48, MapKept.run_getObj_map h.obj, hc, hf, Result.andThen]
  · rw [h1] at hf ⊢
    simp [Instr.lookup, run_underlying Try.underlying48, MapKept.run_getObj_map h.obj, hc, hf, Result.andThen]
theorem MapN.lookup {w : World} {b cl : Nat} {L : List NE} (h : MapN w b L cl) (k : Int × Int) : ∃ v, (Instr.lookup 48 (.map (some b)) (kV k) false).run Try.prog w = .ok v w ∧ LookN L k v := ⟨_, h.look_get k, getN_look L k⟩

/-! ### what turns the map -/
open Go.ChangeMaps (setBlock)
theorem setBlock_self {w : World} {b : Nat} {o o' : Obj} (h : w.heap[b]? = some o) : (setBlock w b o').heap[b]? = some o' := by
  have hlt := (Array.getElem?_eq_some_iff.1 h).1
  simp [setBlock, hlt]
theorem setBlock_other {w : World} {b k : Nat} {o' : Obj} (h : k ≠ b) : (setBlock w b o').heap[k]? = w.heap[k]? := by
  simp [setBlock, Ne.symm h]
theorem Mod.block_ {X : Nat → Prop} {a w : World} (h : Mod X a w) {b : Nat} (hb : X b ∨ a.heap.size ≤ b) (o : Obj) : Mod X a (setBlock w b o) :=
  ⟨h.os, h.tape, h.output, by simpa [setBlock] using h.size, fun k hk hx => (setBlock_other (by rintro rfl; exact hb.elim hx (fun h => by omega))).trans (h.block k hk hx)⟩
/-- The value at a key is turned. -/
def putN (k : Int × Int) (v : Value) (L : List NE) : List NE := L.map fun x => if x.k = k then { x with v := v } else x
theorem putN_mem {k : Int × Int} {v : Value} {L : List NE} {x : NE} : x ∈ putN k v L ↔ (x ∈ L ∧ x.k ≠ k) ∨ (x.k = k ∧ x.v = v ∧ ∃ y ∈ L, y.k = k ∧ y.born = x.born) := by
  unfold putN
  rw [List.mem_map]
  constructor
  · rintro ⟨y, hy, rfl⟩
    by_cases h : y.k = k
    · rw [if_pos h]; exact .inr ⟨h, rfl, y, hy, h, rfl⟩
    · rw [if_neg h]; exact .inl ⟨hy, h⟩
  · rintro (⟨h1, h2⟩ | ⟨h1, h2, y, hy, h3, h4⟩)
    · exact ⟨x, h1, if_neg h2⟩
    · refine ⟨y, hy, ?_⟩
      rw [if_pos h3]
      obtain ⟨xk, xv, xb⟩ := x
      simp only at h1 h2 h4
      subst h1 h2 h4 h3
      rfl
theorem putN_len (k : Int × Int) (v : Value) (L : List NE) : (putN k v L).length = L.length := by unfold putN; rw [List.length_map]
theorem putN_pair {k : Int × Int} {v : Value} {L : List NE} {r : NE → NE → Prop} (hr : ∀ x y, r x y → ∀ u u', r { x with v := u } { y with v := u' }) (h : L.Pairwise r) : (putN k v L).Pairwise r := by
  unfold putN
  rw [List.pairwise_map]
  refine h.imp fun {x y} hxy => ?_
  have := hr x y hxy
  split <;> split <;> exact this _ _
theorem putN_set : ∀ {L : List NE} {k : Int × Int} {v : Value} {m : Nat} {x : NE}, L.Pairwise (fun x y => x.k ≠ y.k) → L[m]? = some x → x.k = k → putN k v L = L.set m { x with v := v }
  | [], _, _, _, _, _, h, _ => by simp at h
  | y :: r, k, v, 0, x, hp, h, hk => by
    obtain ⟨h1, h2⟩ := List.pairwise_cons.1 hp
    simp at h
    subst h
    show (if y.k = k then _ else _) :: putN k v r = _
    rw [if_pos hk, List.set_cons_zero]
    congr 1
    unfold putN
    conv => rhs; rw [← List.map_id r]
    refine List.map_congr_left fun z hz => ?_
    rw [if_neg (fun e => h1 z hz (by rw [hk, e]))]
    rfl
  | y :: r, k, v, m + 1, x, hp, h, hk => by
    obtain ⟨h1, h2⟩ := List.pairwise_cons.1 hp
    have hx : r[m]? = some x := by simpa using h
    show (if y.k = k then _ else _) :: putN k v r = _
    rw [if_neg (fun e => h1 x (List.mem_of_getElem? hx) (by rw [e, hk])), List.set_cons_succ, putN_set h2 hx hk]
end Go.Proofs.Ytpfbiamgnmbhnaa
