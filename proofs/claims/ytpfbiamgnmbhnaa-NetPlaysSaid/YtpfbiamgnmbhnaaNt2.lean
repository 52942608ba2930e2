/- Maps whose keys are pairs of ints: what turns them. -/
import Derived.Test.YtpfbiamgnmbhnaaNt1
namespace Go.Proofs.Ytpfbiamgnmbhnaa
open Go.RowKit
open Go.ChangeMaps (setBlock modify_eq_set)
set_option linter.unusedVariables false
set_option maxRecDepth 100000

theorem arr_set (L : List NE) (m : Nat) (x : NE) (f : MapEntry → MapEntry) (y : NE) (hm : L[m]? = some x) (hf : f (mE x) = mE y) : (L.map mE).toArray.modify m f = ((L.set m y).map mE).toArray := by
  apply Array.toList_inj.1
  rw [Array.toList_modify]
  have : (L.map mE)[m]? = some (mE x) := by rw [List.getElem?_map, hm]; rfl
  rw [modify_eq_set _ _ _ _ this, hf, List.map_set]
theorem MapN.set {w : World} {b cl : Nat} {L : List NE} (h : MapN w b L cl) {m : Nat} {x : NE} (hm : L[m]? = some x) (v : Value) : MapN (setBlock w b (.map ((putN x.k v L).map mE).toArray cl)) b (putN x.k v L) cl where
  obj := setBlock_self h.obj
  keys := putN_pair (fun _ _ h _ _ => h) h.keys
  born := putN_pair (fun _ _ h _ _ => h) h.born
  old y hy := by
    rcases putN_mem.1 hy with ⟨h1, _⟩ | ⟨_, _, z, hz, _, e⟩
    · exact h.old y h1
    · rw [← e]; exact h.old z hz
theorem MapN.push {w : World} {b cl : Nat} {L : List NE} (h : MapN w b L cl) {k : Int × Int} (hk : ∀ x ∈ L, x.k ≠ k) (v : Value) : MapN (setBlock w b (.map (((L ++ [(⟨k, v, cl⟩ : NE)]).map mE).toArray) (cl + 1))) b (L ++ [(⟨k, v, cl⟩ : NE)]) (cl + 1) where
  obj := setBlock_self h.obj
  keys := by
    rw [List.pairwise_append]
    exact ⟨h.keys, List.pairwise_singleton _ _, fun x hx y hy => by
      obtain rfl : y = (⟨k, v, cl⟩ : NE) := by simpa using hy
      exact hk x hx⟩
  born := by
    rw [List.pairwise_append]
    exact ⟨h.born, List.pairwise_singleton _ _, fun x hx y hy => by
      obtain rfl : y = (⟨k, v, cl⟩ : NE) := by simpa using hy
      exact fun e => Nat.lt_irrefl cl (by have := h.old x hx; rw [e] at this; exact this)⟩
  old x hx := by
    rcases List.mem_append.1 hx with hx | hx
    · have := h.old x hx; omega
    · obtain rfl : x = (⟨k, v, cl⟩ : NE) := by simpa using hx
      exact Nat.lt_succ_self cl
theorem mod_set (w : World) (b : Nat) (o : Obj) : Mod (· = b) w (setBlock w b o) := (Mod.refl (· = b) w).block_ (.inl rfl) o
theorem set_self {α : Type} {L : List α} {m : Nat} {x : α} (h : L[m]? = some x) : L.set m x = L := by
  obtain ⟨h1, h2⟩ := List.getElem?_eq_some_iff.1 h
  rw [← h2, List.set_getElem_self]
/-- The value at a key is v, all else is as it was. -/
structure PutN (L : List NE) (k : Int × Int) (v : Value) (L' : List NE) : Prop where
  mem : ∀ x ∈ L', (x ∈ L ∧ x.k ≠ k) ∨ (x.k = k ∧ x.v = v)
  kept : ∀ x ∈ L, x.k ≠ k → x ∈ L'
  new : ∃ x ∈ L', x.k = k ∧ x.v = v
theorem PutN.of_put {L : List NE} {k : Int × Int} (v : Value) {x : NE} (hx : x ∈ L) (hk : x.k = k) : PutN L k v (putN k v L) where
  mem y hy := by
    rcases putN_mem.1 hy with h | ⟨h1, h2, _⟩
    · exact .inl h
    · exact .inr ⟨h1, h2⟩
  kept y hy hne := putN_mem.2 (.inl ⟨hy, hne⟩)
  new := ⟨{ x with v := v }, putN_mem.2 (.inr ⟨hk, rfl, x, hx, hk, rfl⟩), hk, rfl⟩
theorem PutN.of_push {L : List NE} {k : Int × Int} (v : Value) (n : Nat) (hk : ∀ x ∈ L, x.k ≠ k) : PutN L k v (L ++ [⟨k, v, n⟩]) where
  mem y hy := by
    rcases List.mem_append.1 hy with h | h
    · exact .inl ⟨h, hk y h⟩
    · obtain rfl : y = (⟨k, v, n⟩ : NE) := by simpa using h
      exact .inr ⟨rfl, rfl⟩
  kept y hy _ := List.mem_append.2 (.inl hy)
  new := ⟨⟨k, v, n⟩, by simp, rfl, rfl⟩
theorem stays (k : Int × Int) (w : World) : (Instr.keyThatStays (kV k) (kV k)).run Try.prog w = .ok (kV k) w := by
  unfold kV
  simp [Instr.keyThatStays, Instr.sameBits]
theorem MapN.update {w : World} {b cl : Nat} {L : List NE} (h : MapN w b L cl) (k : Int × Int) (v : Value) :
    ∃ L' cl' w', (Instr.mapUpdate 48 (.map (some b)) (kV k) v).run Try.prog w = .ok () w' ∧ MapN w' b L' cl' ∧ PutN L k v L' ∧ Mod (· = b) w w' ∧ w'.heap.size = w.heap.size := by
  have hc : ∀ em, (Instr.checkKey em 10000 37 (kV k)).run Try.prog w = .ok () w := fun em => run_checkKey em 9998 k w
  have hf := run_findKey k L w
  have hs := stays k w
  rcases find_split L k with ⟨h1, h2⟩ | ⟨m, x, h1, h2, h3⟩
  · rw [h1] at hf
    refine ⟨_, _, _, ?_, h.push h2 v, PutN.of_push v cl h2, mod_set w b _, by simp [setBlock]⟩
    simp [Instr.mapUpdate, run_underlying Try.underlying48, MapKept.run_getObj_map h.obj, hc, hf, MapKept.run_setObj_map _ h.obj, Result.andThen, setBlock, mE]
  · rw [h1] at hf
    subst h3
    refine ⟨_, _, _, ?_, h.set h2 v, PutN.of_put v (List.mem_of_getElem? h2) rfl, mod_set w b _, by simp [setBlock]⟩
    have hg : (L.map mE).toArray[m]? = some (mE x) := by simp [h2]
    have hset := arr_set L m x (fun e => { e with key := kV x.k, val := v }) { x with v := v } h2 rfl
    rw [← putN_set h.keys h2 rfl] at hset
    have hs' : (Instr.keyThatStays (((L.map mE).toArray[m]?.map (·.key)).getD (kV x.k)) (kV x.k)).run Try.prog w = .ok (kV x.k) w := by rw [hg]; exact hs
    unfold Instr.mapUpdate
    simp only [Sem.run_bind, run_underlying Try.underlying48, Result.andThen_ok, MapKept.run_getObj_map h.obj, hc, hf, hs', hset, MapKept.run_setObj_map _ h.obj, setBlock]
/-- A map's entry on its way: the value that is read, and the stamp under which it is stored again. -/
theorem MapN.entry {w : World} {b cl : Nat} {L : List NE} (h : MapN w b L cl) (k : Int × Int) :
    ∃ L' cl' w' v x, (Instr.mapEntry 48 (.map (some b)) (kV k)).run Try.prog w = .ok (.tuple #[v, goInt x.born]) w' ∧ LookN L k v ∧ MapN w' b L' cl' ∧ x ∈ L' ∧ x.k = k ∧ (∀ y, y.k ≠ k → (y ∈ L' ↔ y ∈ L)) ∧ Mod (· = b) w w' ∧ w'.heap.size = w.heap.size := by
  have hc : ∀ em, (Instr.checkKey em 10000 37 (kV k)).run Try.prog w = .ok () w := fun em => run_checkKey em 9998 k w
  have hf := run_findKey k L w
  have hs := stays k w
  rcases find_split L k with ⟨h1, h2⟩ | ⟨m, x, h1, h2, h3⟩
  · rw [h1] at hf
    refine ⟨_, _, _, .slice none 0 0, ⟨k, .slice none 0 0, cl⟩, ?_, .inr ⟨h2, rfl⟩, h.push h2 (.slice none 0 0), by simp, rfl, fun y hy => ?_, mod_set w b _, by simp [setBlock]⟩
    · simp [Instr.mapEntry, run_underlying Try.underlying48, MapKept.run_getObj_map h.obj, hc, hf, MapKept.run_setObj_map _ h.obj, Result.andThen, setBlock, mE]
    · constructor
      · intro hy'
        rcases List.mem_append.1 hy' with h | h
        · exact h
        · obtain rfl : y = (⟨k, .slice none 0 0, cl⟩ : NE) := by simpa using h
          exact absurd rfl hy
      · exact fun hy' => List.mem_append.2 (.inl hy')
  · rw [h1] at hf
    subst h3
    have hx := List.mem_of_getElem? h2
    have hp : putN x.k x.v L = L := by
      rw [putN_set h.keys h2 rfl]
      exact set_self h2
    have hM := h.set h2 x.v
    rw [hp] at hM
    refine ⟨_, _, _, x.v, x, ?_, .inl ⟨x, hx, rfl, rfl⟩, hM, hx, rfl, fun y _ => Iff.rfl, mod_set w b _, by simp [setBlock]⟩
    have hg : (L.map mE).toArray[m]? = some (mE x) := by simp [h2]
    have hset := arr_set L m x (fun e => { e with key := kV x.k }) x h2 rfl
    rw [set_self h2] at hset
    have hs' : (Instr.keyThatStays (((L.map mE).toArray[m]?.map (·.key)).getD (kV x.k)) (kV x.k)).run Try.prog w = .ok (kV x.k) w := by rw [hg]; exact hs
    have hb' : (((L.map mE).toArray[m]?.map (fun e => (e.born : Int))).getD 0) = (x.born : Int) := by rw [hg]; rfl
    unfold Instr.mapEntry
    simp only [Sem.run_bind, run_underlying Try.underlying48, Result.andThen_ok, MapKept.run_getObj_map h.obj, hc, hf, hs', hset, MapKept.run_setObj_map _ h.obj, setBlock, hb', Sem.run_pure]
theorem MapN.store {w : World} {b cl : Nat} {L : List NE} (h : MapN w b L cl) {x : NE} (hx : x ∈ L) (v : Value) :
    ∃ w', (Instr.entryStore 48 (.map (some b)) (goInt x.born) v).run Try.prog w = .ok () w' ∧ MapN w' b (putN x.k v L) cl ∧ Mod (· = b) w w' ∧ w'.heap.size = w.heap.size := by
  obtain ⟨m, hm, hmx⟩ := List.getElem_of_mem hx
  have h2 : L[m]? = some x := by rw [List.getElem?_eq_getElem hm, hmx]
  refine ⟨_, ?_, h.set h2 v, mod_set w b _, by simp [setBlock]⟩
  have hset := arr_set L m x (fun e => { e with val := v }) { x with v := v } h2 rfl
  rw [← putN_set h.keys h2 rfl] at hset
  have hidx : ((L.map mE).toArray.findIdx? fun e => (e.born : Int) == (x.born : Int)) = some m := by
    rw [List.findIdx?_toArray, List.findIdx?_eq_some_iff_getElem]
    refine ⟨by simpa using hm, by simp [mE, hmx], fun j hj => ?_⟩
    have := List.pairwise_iff_getElem.1 h.born j m (by omega) hm hj
    rw [hmx] at this
    simp [mE]
    omega
  unfold Instr.entryStore
  simp only [Sem.run_bind, Result.andThen_ok, MapKept.run_getObj_map h.obj, goInt, asInt, asIntOf, Sem.run_pure, hidx, hset, MapKept.run_setObj_map _ h.obj, setBlock]
theorem MapN.drop {w : World} {b cl : Nat} {L : List NE} (h : MapN w b L cl) (k : Int × Int) (ty : TypeId) :
    ∃ L' w', (Builtin.delete_ #[48, 37] ty #[.map (some b), kV k]).run Try.prog w = .ok (.tuple #[]) w' ∧ MapN w' b L' cl ∧ (∀ x, x ∈ L' ↔ x ∈ L ∧ x.k ≠ k) ∧ Mod (· = b) w w' ∧ w'.heap.size = w.heap.size := by
  have hc : ∀ em, (Instr.checkKey em 10000 37 (kV k)).run Try.prog w = .ok () w := fun em => run_checkKey em 9998 k w
  have hf := run_findKey k L w
  rcases find_split L k with ⟨h1, h2⟩ | ⟨m, x, h1, h2, h3⟩
  · rw [h1] at hf
    refine ⟨L, _, ?_, ⟨setBlock_self (o' := .map (L.map mE).toArray cl) h.obj, h.keys, h.born, h.old⟩, fun x => ⟨fun hx => ⟨hx, h2 x hx⟩, fun hx => hx.1⟩, mod_set w b _, by simp [setBlock]⟩
    simp [Builtin.delete_, run_underlying Try.underlying48, MapKept.run_getObj_map h.obj, hc, hf, MapKept.run_setObj_map _ h.obj, Result.andThen, setBlock]
  · rw [h1] at hf
    have hml : m < L.length := (List.getElem?_eq_some_iff.1 h2).1
    have hmx : L[m] = x := (List.getElem?_eq_some_iff.1 h2).2
    have hsub : (L.map mE).toArray.eraseIdxIfInBounds m = ((L.eraseIdx m).map mE).toArray := by
      apply Array.toList_inj.1
      unfold Array.eraseIdxIfInBounds
      rw [dif_pos (by simpa using hml)]
      simp [Go.ChangeMaps.map_eraseIdx]
    refine ⟨L.eraseIdx m, _, ?_, ⟨setBlock_self (o' := .map ((L.eraseIdx m).map mE).toArray cl) h.obj, h.keys.sublist (List.eraseIdx_sublist _ _), h.born.sublist (List.eraseIdx_sublist _ _), fun y hy => h.old y ((List.eraseIdx_sublist _ _).subset hy)⟩, fun y => ?_, mod_set w b _, by simp [setBlock]⟩
    · simp [Builtin.delete_, run_underlying Try.underlying48, MapKept.run_getObj_map h.obj, hc, hf, MapKept.run_setObj_map _ h.obj, Result.andThen, setBlock]
      rw [Go.ChangeMaps.map_eraseIdx]
    · rw [List.mem_eraseIdx_iff_getElem?]
      constructor
      · rintro ⟨i, hne, hi⟩
        refine ⟨List.mem_of_getElem? hi, ?_⟩
        obtain ⟨hil, rfl⟩ := List.getElem?_eq_some_iff.1 hi
        rw [← h3, ← hmx]
        rcases Nat.lt_or_gt_of_ne hne with hlt | hlt
        · exact List.pairwise_iff_getElem.1 h.keys i m hil hml hlt
        · exact (List.pairwise_iff_getElem.1 h.keys m i hml hil hlt).symm
      · rintro ⟨hy, hyk⟩
        obtain ⟨i, hi⟩ := List.getElem?_of_mem hy
        refine ⟨i, fun e => hyk ?_, hi⟩
        rw [e, h2] at hi
        injection hi with hi
        rw [← hi, h3]
theorem MapN.new (w : World) : MapN (w.alloc (.map #[] 0)) w.heap.size [] 0 := ⟨(MapKept.heap_alloc w _).1, List.Pairwise.nil, List.Pairwise.nil, by simp⟩
theorem MapN.lt {w : World} {b cl : Nat} {L : List NE} (h : MapN w b L cl) : b < w.heap.size := (Array.getElem?_eq_some_iff.1 h.obj).1
theorem MapN.mod {w w' : World} {b cl : Nat} {L : List NE} {X : Nat → Prop} (h : MapN w b L cl) (m : Mod X w w') (hb : ¬ X b) : MapN w' b L cl := ⟨(m.block b h.lt hb).trans h.obj, h.keys, h.born, h.old⟩
theorem MapN.below {w w' : World} {b cl : Nat} {L : List NE} (h : MapN w b L cl) (m : Below w.heap.size w w') : MapN w' b L cl := ⟨(m.block b h.lt).trans h.obj, h.keys, h.born, h.old⟩
end Go.Proofs.Ytpfbiamgnmbhnaa
