/- Bytes and as many noughts behind them: append(s, make([]byte, k)...), which the translation hands the number k; bytes with others laid over them (the document). -/
import Derived.Test.YtcdodchjgadcoaaAbJ
import Derived.Lib.AppendZerosOnto
namespace Go.Proofs.Ytcdodchjgadcoaa
open Go.RowKit
set_option linter.unusedVariables false
set_option maxRecDepth 100000

def zC (k : Nat) : List Value := List.replicate k (Value.int .u8 0)
theorem zC_len (k : Nat) : (zC k).length = k := by unfold zC; rw [List.length_replicate]
theorem zC_map (k : Nat) : zC k = (List.replicate k (0 : UInt8)).map cB := by unfold zC; rw [List.map_replicate]; rfl
theorem zC_one (k : Nat) : ∀ v ∈ zC k, v.oneCell' = true := fun v hv => by rw [(List.mem_replicate.1 hv).2]; rfl
theorem zC_cells (k : Nat) : Builtin.zeroCells (Value.int IntKind.u8 0).cells k = (zC k).toArray := by
  unfold zC Builtin.zeroCells
  apply Array.ext
  · simp [show (Value.int IntKind.u8 0).cells = #[.int .u8 0] from rfl]
  · intro i h1 h2
    simp [show (Value.int IntKind.u8 0).cells = #[.int .u8 0] from rfl, Nat.mod_one]
theorem run_zeros_room {w : World} (ty e : TypeId) (i : TypeInfo) (he : e = 5) (hi : Try.prog.info? e = some i) (hz : i.zero = some (.int .u8 0)) (hs1 : i.size = 1) (hby : i.bytes = 1)
    (g sLen sCap k : Nat) (h0 : 0 < k) (hk : k ≤ 1000000) (cur : Array Value) (hg : w.heap[g]? = some (.cells cur e (0, 0))) (hroom : sLen + k ≤ sCap) (hfit : sLen + k ≤ cur.size) :
    (Builtin.append_ #[22, 3] ty #[.slice (some ⟨g, 0, none⟩) sLen sCap, .int .i64 k]).run Try.prog w =
      .ok (.slice (some ⟨g, 0, none⟩) (sLen + k) sCap) (w.setRow g (cur.toList.take sLen ++ zC k ++ cur.toList.drop (sLen + k)).toArray) := by
  subst he
  have hst := run_storeCells_at Try.prog g sLen 5 (zC k) 0 cur w hg (by simpa [zC_len] using hfit) (zC_one k)
  simp only [Nat.add_zero, zC_len] at hst
  have hw : IntKind.i64.wrap (k : Int) = k := by rw [IntKind.wrap_i64]; omega
  have hneg : ¬ ((k : Int) < 0) := by omega
  have hns : ¬ (k = 0) := by omega
  have h48 : ¬ (281474976710656 < (k : Int)) := by omega
  have hzc := zC_cells k
  simp [Builtin.append_, run_underlying Try.underlying22, run_underlying Try.underlying3, sizeOf, typeInfo, zeroValue, hi, hz, hs1, hby, asInt, asIntOf, hw, hneg, hns, h48, hroom, hzc, Addr.add_lit, hst]
theorem run_appZ (w : World) (ty : TypeId) (base : Nat) (v : Value) (bs : List UInt8) (hown : OwnB w base v bs) (k : Nat) (h0 : 0 < k) (hk : k ≤ 1000000) (hb : bs.length ≤ 1000000) (hbase : base ≤ w.heap.size) :
    ∃ v' w', (Builtin.append_ #[22, 3] ty #[v, .int .i64 k]).run Try.prog w = .ok v' w' ∧ OwnB w' base v' (bs ++ List.replicate k 0) ∧ Ext w w' v v' := by
  obtain ⟨i, hi, hz, hsize, hby⟩ := info_parts infoB
  have hxl : (bs.map cB).length = bs.length := by rw [List.length_map]
  have e1 : (bs ++ List.replicate k (0 : UInt8)).map cB = bs.map cB ++ zC k := by rw [List.map_append, zC_map]
  have e2 : (bs ++ List.replicate k (0 : UInt8)).length = bs.length + k := by rw [List.length_append, List.length_replicate]
  have hlen : (bs.map cB ++ zC k).length = (bs.length + k) * 1 := by rw [List.length_append, hxl, zC_len, Nat.mul_one]
  unfold OwnB at hown ⊢
  rw [e1, e2]
  generalize hxs : bs.map cB = xs at *
  generalize bs.length = n at *
  have grown : ∀ (old : Nat), old < n + k → ∀ (row : Option Nat),
      (w.drew.alloc (.cells (xs.toArray ++ (zC k).toArray ++ Builtin.zeroCells (Value.int .u8 0).cells (grownCap w (n + k) old 5 - (n + k))) 5)).ownsRow base 5 1
        (.slice (some ⟨w.heap.size, 0, none⟩) (n + k) (grownCap w (n + k) old 5)) (n + k) (xs ++ zC k) ∧
      w.grownBy (w.drew.alloc (.cells (xs.toArray ++ (zC k).toArray ++ Builtin.zeroCells (Value.int .u8 0).cells (grownCap w (n + k) old 5 - (n + k))) 5)) row := by
    intro old ho row
    have hge := grownCap_ge w (n + k) old 5
    have hcm : grownCap w (n + k) old 5 ≤ maxLen := grownCap_le_maxLen w (n + k) old 5 (by unfold maxLen; omega)
    refine ⟨⟨hlen, .inr ⟨w.heap.size, _, _, rfl, hbase, heap_alloc_new w.drew _, hge, hcm, ?_, ?_⟩⟩, ⟨rfl, rfl, rfl, by simp, fun k hk _ => heap_alloc_old w.drew _ hk⟩⟩
    · have hz1 : (Value.int IntKind.u8 0).cells.size = 1 := rfl
      simp only [Array.size_append, List.size_toArray, size_zeroCells, hz1, hxl, zC_len]
      omega
    · simp only [Array.toList_append, List.append_assoc]
      rw [← List.append_assoc, ← hlen]
      exact List.take_left
  rcases hown.2 with ⟨rfl, hn⟩ | ⟨g, cap, cur, rfl, hbg, hg, hnc, hcm, hcs, htake⟩
  · have hn0 : n = 0 := hn
    subst hn0
    have hx : xs = [] := List.eq_nil_of_length_eq_zero hxl
    subst hx
    have hr := Go.Lib.run_append_nil_zeros (P := Try.prog) w 22 3 ty 5 i (.int .u8 0) .i64 .i64 Try.underlying22 Try.underlying3 hi hz k h0 (by omega) (by omega) (by rw [hby]; omega)
    have hgr := grown 0 (by omega) (Value.ownBlock (.slice none 0 0))
    simp only [Nat.zero_add, List.nil_append, Array.empty_append] at hgr ⊢
    rw [zC_cells k] at hr
    exact ⟨_, _, hr, hgr.1, ⟨hgr.2, .inr fun j hj => by simp [Value.ownBlock] at hj; omega⟩⟩
  · by_cases hroom : n + k ≤ cap
    · have hcs' : cur.size = cap := by simpa using hcs
      have hr := run_zeros_room ty 5 i rfl hi hz hsize hby g n cap k h0 hk cur hg hroom (by omega)
      refine ⟨_, _, hr, ⟨hlen, .inr ⟨g, cap, _, rfl, hbg, setRow_heap w g cur _ _ _ hg, hroom, hcm, ?_, ?_⟩⟩, ⟨⟨rfl, rfl, rfl, by simp, fun k _ hk => setRow_other w g k _ (fun e => hk (by simp [Value.ownBlock, e]))⟩, .inl rfl⟩⟩
      · simp only [List.size_toArray, List.length_append, List.length_take, List.length_drop, Array.length_toList, zC_len]
        omega
      · have ht' : cur.toList.take n = xs := by simpa using htake
        rw [ht', ← hlen]
        exact List.take_left
    · have holds : ∀ j u, xs[j]? = some u → w.drew.cell? ((⟨g, 0, none⟩ : Addr).add j) = some u := hown.cells (g := g) rfl
      have hfo := run_firstCells_some (P := Try.prog) w.drew i.size n ⟨g, 0, none⟩ n cap xs (by rw [hsize]; omega) (by simpa using holds)
      have hr := Go.Lib.run_append_grow_zeros (P := Try.prog) w 22 3 ty 5 i (.int .u8 0) .i64 .i64 Try.underlying22 Try.underlying3 hi hz (some ⟨g, 0, none⟩) n cap xs hfo k h0 (by omega) (by omega) (by omega) (by rw [hby]; omega) (by rw [hby]; exact growslice_fits (by omega) (by omega))
      have hgr := grown cap (by omega) (Value.ownBlock (.slice (some ⟨g, 0, none⟩) n cap))
      rw [zC_cells k] at hr
      exact ⟨_, _, hr, hgr.1, ⟨hgr.2, .inr fun j hj => by simp [Value.ownBlock] at hj; omega⟩⟩
section
variable {w : World} {ops : Array Oper} {rest : List Oper} {o : Oper} {a : Act} {Q : Exit → Act → World → Prop}
theorem wpList_appZ (hgd : o.guard = none) (s x : Operand) (ho : o.op = .call { callee := .builtin .append, args := #[s, x], argTypes := #[22, 3] })
    (base : Nat) (v : Value) (bs : List UInt8) (hs : a.eval s = v) (hown : OwnB w base v bs) (k : Nat) (hx : a.eval x = .int .i64 k) (h0 : 0 < k) (hk : k ≤ 1000000) (hb : bs.length ≤ 1000000) (hbase : base ≤ w.heap.size)
    (h : ∀ v' w', OwnB w' base v' (bs ++ List.replicate k 0) → Ext w w' v v' → wpList Try.prog ops Q rest (a.put o.dst v') w') : wpList Try.prog ops Q (o :: rest) a w := by
  obtain ⟨v', w', hr, h1, h2⟩ := run_appZ w o.type base v bs hown k h0 hk hb hbase
  exact Go.Lib.wpList_append_run w hgd s x _ _ ho v _ hs hx v' w' hr (h v' w' h1 h2)
end
end Go.Proofs.Ytcdodchjgadcoaa
