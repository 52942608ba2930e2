/- Entries: what a kind names; the code's Clean. -/
import Derived.Test.YthpmmnpjdpgamaaDoorEn1
import Derived.Laws.Rows
import Derived.Laws.ResultCell
namespace Go.Proofs.YthpmmnpjdpgamaaDoor
open Go.RowKit
set_option linter.unusedVariables false
set_option maxRecDepth 100000

def nmO (i : Nat) : Int := [(0 : Int), 9, 3, 2, 0, 4, 4].getD i 0
/-- The table of what the kinds name lies where the program's text lays it. -/
def TabE (w : World) : Prop := ∀ i, i < 7 → w.cell? ⟨0, i, none⟩ = some (.int .i64 (nmO i))
theorem TabE.lt {w : World} (h : TabE w) : 0 < w.heap.size := World.block_lt_of_cell? w _ (h 0 (by decide))
theorem TabE.below {w w' : World} (h : TabE w) (hb : Below w.heap.size w w') : TabE w' := fun i hi => by
  have e := hb.block 0 h.lt
  have := h i hi
  unfold World.cell? at this ⊢
  rw [e]; exact this
theorem TabE.mod {X : Nat → Prop} {w w' : World} (h : TabE w) (hb : Mod X w w') (hx : ¬ X 0) : TabE w' := fun i hi => by
  have e := hb.block 0 h.lt hx
  have := h i hi
  unfold World.cell? at this ⊢
  rw [e]; exact this
theorem TabE.alloc {w : World} (h : TabE w) (o : Obj) : TabE (w.alloc o) := h.below (below_new _ _)
def namedO (k what : Int) : Bool := if 0 ≤ k ∧ k < 7 then (bits .and .i64 (nmO k.toNat) what != 0) else false
theorem namedO_out {k what : Int} (h : ¬ (0 ≤ k ∧ k < 7)) : namedO k what = false := by unfold namedO; rw [if_neg h]
theorem named_any (k what s o f l n : Int) (A : Option Addr) (c m : Nat) (w : World) (ht : TabE w) :
    Calls Tryd.prog 22 #[.agg #[.int .i64 s, .int .i64 o, .int .i64 k, .int .i64 f, .int .i64 l, .int .i64 n, .slice A m c], .int .i64 what] w fun r w' => r = .returned (.bool (namedO k what)) ∧ w' = w.alloc (.cells #[.int .i64 s, .int .i64 o, .int .i64 k, .int .i64 f, .int .i64 l, .int .i64 n, .slice A m c] 24) := by
  by_cases h0 : 0 ≤ k
  · by_cases h7 : k < 7
    · obtain ⟨i, rfl⟩ : ∃ i : Nat, k = (i : Int) := ⟨k.toNat, by omega⟩
      have hi : i < 7 := by omega
      have hc := ht i hi
      have hlt := ht.lt
      have HN : Hid (namedO (i : Int) what = (bits .and .i64 (nmO i) what != 0)) := by unfold Hid namedO; rw [if_pos ⟨h0, h7⟩]; rfl
      generalize nmO i = x at *
      have hT : ((i : Int)).toNat = i := by omega
      go_enter Tryd.func22, Tryd.ntmps22
      go_wp2_with fail
      go_ret
      exact ⟨by rw [HN.out] <;> rfl, rfl⟩
    · have HN := Lib.hid (namedO_out (k := k) (what := what) (fun h => h7 h.2))
      go_enter Tryd.func22, Tryd.ntmps22
      go_wp2_with fail
      go_ret
      exact ⟨by rw [HN.out] <;> rfl, rfl⟩
  · have HN := Lib.hid (namedO_out (k := k) (what := what) (fun h => h0 h.1))
    go_enter Tryd.func22, Tryd.ntmps22
    go_wp2_with fail
    go_ret
    exact ⟨by rw [HN.out] <;> rfl, rfl⟩
theorem named_tab (k : Int) : namedO k 1 = decide (k = 1 ∨ k = 2) ∧ namedO k 2 = decide (k = 2 ∨ k = 3) ∧ namedO k 4 = decide (k = 5 ∨ k = 6) ∧ namedO k 8 = decide (k = 1) := by
  by_cases h : 0 ≤ k ∧ k < 7
  · have : k = 0 ∨ k = 1 ∨ k = 2 ∨ k = 3 ∨ k = 4 ∨ k = 5 ∨ k = 6 := by omega
    rcases this with rfl | rfl | rfl | rfl | rfl | rfl | rfl <;> decide
  · rw [namedO_out h, namedO_out h, namedO_out h, namedO_out h]
    refine ⟨?_, ?_, ?_, ?_⟩ <;> refine (decide_eq_false ?_).symm <;> omega
def cleanO (e : E7) : E7 := { e with off := if e.kind = 1 ∨ e.kind = 2 then e.off else 0, len := if e.kind = 2 ∨ e.kind = 3 then e.len else 0, snap := if e.kind = 5 ∨ e.kind = 6 then e.snap else 0, data := if e.kind = 1 then e.data else [] }
theorem infoEn7 : (Tryd.prog.info? 24).map (·.size) = some 7 := by kernel_rfl
theorem results_cell {P : Program} {fn : Func} {p : Tmp} {ty : TypeId} (h : fn.results = #[.cell p ty]) (tmps : Array Value) (w : World) (g : Nat) (T : TypeId) (cs : Array Value) (fr : Nat × Nat) (d : TypeDesc)
    (hp : tmps.getD p undef = .pointer (some ⟨g, 0, none⟩)) (hg : w.heap[g]? = some (.cells cs T fr))
    (hu : P.underlying ty = some d) (hd : (match d with | .struct _ | .array _ _ => true | _ => false) = true) (hi : (P.info? ty).map (·.size) = some cs.size) :
    (results fn tmps).run P w = .ok (.agg cs) w := by
  have hp' : tmps[p]?.getD undef = .pointer (some ⟨g, 0, none⟩) := by simpa using hp
  simp [results, h, hp', asAddr, run_loadVar_row w g T ty cs fr d hg hu hd hi]
theorem results_cell_tmp {P : Program} {fn : Func} {p t : Tmp} {ty : TypeId} (h : fn.results = #[.cell p ty, .tmp t]) (tmps : Array Value) (w : World) (g : Nat) (T : TypeId) (cs : Array Value) (fr : Nat × Nat) (d : TypeDesc)
    (hp : tmps.getD p undef = .pointer (some ⟨g, 0, none⟩)) (hg : w.heap[g]? = some (.cells cs T fr))
    (hu : P.underlying ty = some d) (hd : (match d with | .struct _ | .array _ _ => true | _ => false) = true) (hi : (P.info? ty).map (·.size) = some cs.size) :
    (results fn tmps).run P w = .ok (.tuple #[.agg cs, tmps.getD t undef]) w := by
  have hp' : tmps[p]?.getD undef = .pointer (some ⟨g, 0, none⟩) := by simpa using hp
  simp [results, h, hp', asAddr, run_loadVar_row w g T ty cs fr d hg hu hd hi]

theorem mod_setRow {w : World} {g : Nat} (cs : Array Value) : Mod (· = g) w (w.setRow g cs) :=
  ⟨rfl, rfl, rfl, by unfold World.setRow; simp, fun k _ hk => setRow_other w g k cs hk⟩
section
variable (w : World) (a0 a1 a2 a3 a4 a5 a6 : Value) (x2 : Array Value) (o1 o2 o3 o4 o5 o6 : Obj)
theorem six_b : Below w.heap.size w ((((((w.alloc o1).alloc o2).alloc o3).alloc o4).alloc o5).alloc o6) :=
  ((((((below_new w o1).thenB' (below_new _ o2)).thenB' (below_new _ o3)).thenB' (below_new _ o4)).thenB' (below_new _ o5)).thenB' (below_new _ o6))
theorem six_rd {D : Nat → Prop} {A : Option Addr} {d : List UInt8} (h : RdB w D A d) : RdB ((((((w.alloc o1).alloc o2).alloc o3).alloc o4).alloc o5).alloc o6) D A d :=
  ((((((Rd.alloc h o1).alloc o2).alloc o3).alloc o4).alloc o5).alloc o6)
theorem six_g : Blk ((((((w.alloc (.cells #[a0, a1, a2, a3, a4, a5, a6] 24)).alloc o2).alloc o3).alloc o4).alloc o5).alloc o6) w.heap.size 24 #[a0, a1, a2, a3, a4, a5, a6] :=
  ((((Blk.new w _ _).below (below_new _ o2)).below (below_new _ o3)).below (below_new _ o4)).below (below_new _ o5) |>.below (below_new _ o6)
theorem six_r : Blk ((((((w.alloc o1).alloc (.cells x2 24)).alloc o3).alloc o4).alloc o5).alloc o6) (w.heap.size + 1) 24 x2 := by
  have h := (((Blk.new (w.alloc o1) 24 x2).below (below_new _ o3)).below (below_new _ o4)).below (below_new _ o5) |>.below (below_new _ o6)
  rwa [show (w.alloc o1).heap.size = w.heap.size + 1 from by show (w.heap.push o1).size = _; simp] at h
theorem set7 {w : World} {g : Nat} {a0 a1 a2 a3 a4 a5 a6 : Value} (h : Blk w g 24 #[a0, a1, a2, a3, a4, a5, a6]) (v : Value) : Blk (w.setCell ⟨g, 6, none⟩ v) g 24 #[a0, a1, a2, a3, a4, a5, v] := by
  have := h.set_ 6 v
  simpa using this
end
/-- The five ways of what a kind names. -/
def Five (b1 b2 b3 b4 : Bool) : Prop := (b1 = true ∧ b2 = false ∧ b3 = false ∧ b4 = true) ∨ (b1 = true ∧ b2 = true ∧ b3 = false ∧ b4 = false) ∨ (b1 = false ∧ b2 = true ∧ b3 = false ∧ b4 = false) ∨ (b1 = false ∧ b2 = false ∧ b3 = true ∧ b4 = false) ∨ (b1 = false ∧ b2 = false ∧ b3 = false ∧ b4 = false)
set_option maxHeartbeats 4000000 in
theorem Clean_b (s o k f l n : Int) (d : List UInt8) (b1 b2 b3 b4 : Bool) (h5 : Five b1 b2 b3 b4) (U1 : Hid (namedO k 1 = b1)) (U2 : Hid (namedO k 2 = b2)) (U3 : Hid (namedO k 4 = b3)) (U4 : Hid (namedO k 8 = b4)) (D : Nat → Prop) (A : Option Addr) (c : Nat) (w : World) (hr : RdB w D A d) (hl : d.length ≤ big) (ht : TabE w) :
    Calls Tryd.prog 13 #[.agg #[.int .i64 s, .int .i64 o, .int .i64 k, .int .i64 f, .int .i64 l, .int .i64 n, .slice A d.length c]] w fun r w' => ∃ v, r = .returned (.agg #[.int .i64 s, .int .i64 o, .int .i64 k, .int .i64 (if b1 then f else 0), .int .i64 (if b2 then l else 0), .int .i64 (if b3 then n else 0), v]) ∧ OwnB w' w.heap.size v (if b4 then d else []) ∧ Below w.heap.size w w' := by
  rcases h5 with ⟨rfl, rfl, rfl, rfl⟩ | ⟨rfl, rfl, rfl, rfl⟩ | ⟨rfl, rfl, rfl, rfl⟩ | ⟨rfl, rfl, rfl, rfl⟩ | ⟨rfl, rfl, rfl, rfl⟩
  all_goals
    go_enter Tryd.func13, Tryd.ntmps13
    go_wp2_with fail
    refine (named_any _ _ _ _ _ _ _ _ _ _ _ (by repeat (first | exact ht | refine TabE.alloc ?_ _))).mono ?_
    rintro r wx ⟨rfl, rfl⟩
    rw [U1.out]
    go_wp2_with fail
    refine (named_any _ _ _ _ _ _ _ _ _ _ _ (by repeat (first | exact ht | refine TabE.alloc ?_ _))).mono ?_
    rintro r wx ⟨rfl, rfl⟩
    rw [U2.out]
    go_wp2_with fail
    refine (named_any _ _ _ _ _ _ _ _ _ _ _ (by repeat (first | exact ht | refine TabE.alloc ?_ _))).mono ?_
    rintro r wx ⟨rfl, rfl⟩
    rw [U3.out]
    go_wp2_with fail
    refine (named_any _ _ _ _ _ _ _ _ _ _ _ (by repeat (first | exact ht | refine TabE.alloc ?_ _))).mono ?_
    rintro r wx ⟨rfl, rfl⟩
    rw [U4.out]
    go_wp2_with fail
    first
      | (refine (cloneB_any D A c d _ (six_rd w _ _ _ _ _ _ hr) hl).mono ?_)
      | (refine (cloneB_any (fun _ => False) none 0 [] _ RdB.nil (Nat.zero_le _)).mono ?_)
    rintro r w9 ⟨v9, rfl, o9, b9⟩
    obtain ⟨A9, n9, c9, rfl⟩ : ∃ A n c, v9 = .slice A n c := by obtain ⟨A9, c9, hv9, _, _⟩ := OwnB.form o9; exact ⟨_, _, _, hv9⟩
    have hG := (six_g w _ _ _ _ _ _ _ _ _ _ _ _).below b9
    have hR := (six_r w _ _ _ _ _ _).below b9
    have bb := (six_b w _ _ _ _ _ _).thenB' b9
    have c6 := hG.cell 6
    have f6 := hG.frozen 6
    simp at c6
    have hGs := set7 hG (.slice A9 n9 c9)
    have hRs := hR.mod ((Mod.refl (· = w.heap.size) w9).setG 6 (.slice A9 n9 c9)) (by omega)
    have bbs := below_store (k := 6) bb (Nat.le_refl _) (.slice A9 n9 c9)
    have o9 := OwnB.low (OwnB.mod o9 ((Mod.refl (· = w.heap.size) w9).setG 6 (.slice A9 n9 c9)) (fun i hi e => by have e : i = w.heap.size := e; simp at hi; omega)) (show w.heap.size + 2 ≤ _ by simp)
    clear hr hl ht U1 U2 U3 U4 b9
    go_wp2_with first
      | (with_reducible show wpList _ _ _ _ _ _
         refine wpList_load_row rfl 24 (.tmp 1) rfl w.heap.size rfl 24 _ (0, 0) _ hGs Tryd.underlying24 rfl infoEn7 ?_)
      | (with_reducible show wpList _ _ _ _ _ _
         refine wpList_store_row rfl 24 (.tmp 2) (.tmp 23) rfl (w.heap.size + 1) _ rfl rfl 24 _ hRs infoEn7 rfl (by simp [Value.oneCell']) ?_)
    refine bodyPost_ret (results_cell rfl _ _ (w.heap.size + 1) _ _ (0, 0) _ rfl (setRow_heap _ _ _ _ _ _ hRs) Tryd.underlying24 rfl infoEn7) rfl ⟨_, rfl, ?_, ?_⟩
    · exact OwnB.low (OwnB.mod o9 (mod_setRow _) (fun i hi e => by have e : i = w.heap.size + 1 := e; omega)) (by omega)
    · exact bbs.thenM (mod_setRow _) bbs.size (fun i hi e => by have e : i = w.heap.size + 1 := e; omega)
end Go.Proofs.YthpmmnpjdpgamaaDoor
