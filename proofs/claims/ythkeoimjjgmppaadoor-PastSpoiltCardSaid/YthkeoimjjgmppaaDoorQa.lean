/- Parts of the proof, joined: Words Laws Open Elems Blks BlksB. -/
import Derived.WalkKit
import Derived.KernelRfl
import Derived.Lib.Hide
import Derived.WalkSpells
import Derived.WalkLawsBesides
import Derived.BigQuiet
import Derived.Deep.QuietTactic
import Derived.Deep.AppendLies
import Derived.Maps.AppendAt
import Derived.Laws.IdiomStrings
import Derived.Laws.CopyOwn
import Derived.Test.YthkeoimjjgmppaaDoorProg
import Derived.Test.YthkeoimjjgmppaaDoorRows
import Derived.ProofKit
import Derived.OpenShut
import Derived.ChangeOld
import Derived.Deep.Slices
import Derived.Deep.Fields
import Derived.ChangeSame
/- Words for memory that all proofs of this seat share: a slice that reads as a list of cells, bytes or numbers; a block known whole; what changes and what stays; make and append and conversions as laws over these words. No program. -/
namespace Go.Proofs.YthkeoimjjgmppaaDoor
open Go.RowKit

theorem block_of_add (a : Addr) (n : Nat) : (a.add n).block = a.block := by unfold Addr.add; split <;> rfl
theorem add_of_add (a : Addr) (i j : Nat) : (a.add i).add j = a.add (i + j) := by
  unfold Addr.add
  by_cases hi : i = 0 <;> by_cases hj : j = 0 <;> simp [hi, hj, Nat.add_assoc]
theorem add_zero_ (a : Addr) : a.add 0 = a := by simp [Addr.add]
theorem add_head (g j : Nat) : (⟨g, 0, none⟩ : Addr).add j = ⟨g, j, none⟩ := by unfold Addr.add; split <;> simp_all

section
variable {P : Program} {w : World}
@[go_sem high] theorem run_max_mm (ts : Array TypeId) (t : TypeId) (k k' : IntKind) (x y : Int) : (Builtin.max_ ts t #[.int k x, .int k' y]).run P w = .ok (.int k (max x y)) w := by
  rw [run_max_int2]; congr 2; split <;> omega
@[go_sem high] theorem run_min_mm (ts : Array TypeId) (t : TypeId) (k k' : IntKind) (x y : Int) : (Builtin.min_ ts t #[.int k x, .int k' y]).run P w = .ok (.int k (min x y)) w := by
  rw [run_min_int2]; congr 2; split <;> omega
end

/-- Where a cut 'x[l:..]' begins: at a cut at the very end the address stays. -/
def cutA (a : Option Addr) (l m s : Nat) : Option Addr := if m = l then a else a.map (·.add (l * s))
@[go_sem ↓ high] theorem sliced_cut (a : Option Addr) (l h m s : Nat) : sliced a l h m s = .slice (cutA a l m s) (h - l) (m - l) := rfl
@[go_sem] theorem cutA_zero (a : Option Addr) (m s : Nat) : cutA a 0 m s = a := by
  unfold cutA; split
  · rfl
  · cases a <;> simp [Addr.add]

/-! ### what changes -/
/-- Every block that was there, but for those of X, is as it was. -/
structure Mod (X : Nat → Prop) (w w' : World) : Prop where
  os : w'.os = w.os
  tape : w'.tape = w.tape
  output : w'.output = w.output
  size : w.heap.size ≤ w'.heap.size
  block : ∀ k, k < w.heap.size → ¬ X k → w'.heap[k]? = w.heap[k]?

section
variable {X Y : Nat → Prop} {a b c w w' : World}
theorem Mod.refl (X : Nat → Prop) (w : World) : Mod X w w := ⟨rfl, rfl, rfl, Nat.le_refl _, fun _ _ _ => rfl⟩
theorem Mod.trans (h : Mod X a b) (k : Mod X b c) : Mod X a c :=
  ⟨k.os.trans h.os, k.tape.trans h.tape, k.output.trans h.output, Nat.le_trans h.size k.size, fun i hi hx => (k.block i (Nat.lt_of_lt_of_le hi h.size) hx).trans (h.block i hi hx)⟩
theorem Mod.mono (h : Mod X a b) (hm : ∀ k, k < a.heap.size → X k → Y k) : Mod Y a b := ⟨h.os, h.tape, h.output, h.size, fun i hi hx => h.block i hi (fun hX => hx (hm i hi hX))⟩
theorem Mod.drew (h : Mod X a b) : Mod X a b.drew := ⟨h.os, h.tape, h.output, h.size, h.block⟩
theorem Mod.drewN (h : Mod X a b) (n : Nat) : Mod X a (b.drewN n) := ⟨h.os, h.tape, h.output, h.size, h.block⟩
theorem Mod.alloc (h : Mod X a b) (o : Obj) : Mod X a (b.alloc o) :=
  ⟨h.os, h.tape, h.output, Nat.le_trans h.size (by simp), fun i hi hx => (Below.heap_alloc b o i (Nat.lt_of_lt_of_le hi h.size)).trans (h.block i hi hx)⟩
theorem Mod.setCell (h : Mod X a b) {p : Addr} (hp : X p.block ∨ a.heap.size ≤ p.block) (u : Value) : Mod X a (b.setCell p u) :=
  ⟨h.os, h.tape, h.output, by simpa [World.setCell] using h.size, fun i hi hx => (Below.heap_setCell b p u i (by
    rintro rfl
    rcases hp with hp | hp
    · exact hx hp
    · omega)).trans (h.block i hi hx)⟩
theorem Mod.of_below (h : Below a.heap.size a b) (X : Nat → Prop) : Mod X a b := ⟨h.os, h.tape, h.output, h.size, fun i hi _ => h.block i hi⟩
theorem Mod.below (h : Mod X a b) {B : Nat} (hB : B ≤ a.heap.size) (hx : ∀ k, k < B → ¬ X k) : Below B a b := ⟨h.os, h.tape, h.output, h.size, fun i hi => h.block i (by omega) (hx i hi)⟩
theorem Mod.of_grown {row : Option Nat} (h : a.grownBy b row) (hr : ∀ k, row = some k → X k ∨ a.heap.size ≤ k) : Mod X a b :=
  ⟨h.os, h.tape, h.output, h.size, fun i hi hx => h.block i hi (by
    intro e
    rcases hr i e.symm with hp | hp
    · exact hx hp
    · omega)⟩
/-- One more step, whose set is put in the words of the first. -/
theorem Mod.then_ (h : Mod X a b) (k : Mod Y b c) (hm : ∀ i, i < a.heap.size → Y i → X i) : Mod X a c :=
  ⟨k.os.trans h.os, k.tape.trans h.tape, k.output.trans h.output, Nat.le_trans h.size k.size, fun i hi hx => (k.block i (Nat.lt_of_lt_of_le hi h.size) (fun hy => hx (hm i hi hy))).trans (h.block i hi hx)⟩
theorem Mod.thenB (h : Mod X a b) (k : Below b.heap.size b c) : Mod X a c := h.then_ (Mod.of_below k (fun _ => False)) (fun _ _ h => h.elim)
theorem _root_.Go.RowKit.Below.thenM {B : Nat} (h : Below B a b) (k : Mod Y b c) (hB : B ≤ b.heap.size) (hm : ∀ i, i < B → ¬ Y i) : Below B a c := h.trans (k.below hB hm)
theorem _root_.Go.RowKit.Below.thenB {B : Nat} (h : Below B a b) (k : Below b.heap.size b c) (hB : B ≤ b.heap.size) : Below B a c := h.trans (k.mono hB)
theorem _root_.Go.RowKit.Below.thenB' (h : Below a.heap.size a b) (k : Below b.heap.size b c) : Below a.heap.size a c := h.trans (k.mono h.size)
theorem below_drewN {B : Nat} (h : Below B a w) (n : Nat) : Below B a (w.drewN n) := ⟨h.os, h.tape, h.output, h.size, h.block⟩
end

/-! ### a slice that reads -/
/-- The slice of n elements of 'size' cells each at A holds the cells xs, in a block of D (asked where there is an element). -/
def Rd (w : World) (D : Nat → Prop) (size : Nat) (A : Option Addr) (n : Nat) (xs : List Value) : Prop :=
  xs.length = n * size ∧ (0 < n → ∃ ad, A = some ad ∧ D ad.block ∧ ∀ j u, xs[j]? = some u → w.cell? (ad.add j) = some u)

section
variable {w w' : World} {D D' : Nat → Prop} {size n : Nat} {A : Option Addr} {xs : List Value}
theorem Rd.none_ : Rd w D size A 0 [] := ⟨by simp, fun h => absurd h (by omega)⟩
theorem Rd.imp (h : Rd w D size A n xs) (hd : ∀ b, b < w.heap.size → D b → D' b) (hs : 0 < size) : Rd w D' size A n xs :=
  ⟨h.1, fun hn => by
    obtain ⟨ad, e, hb, hc⟩ := h.2 hn
    have hp : 0 < n * size := Nat.mul_pos hn hs
    have h0 := hc 0 (xs[0]'(by rw [h.1]; exact hp)) (List.getElem?_eq_getElem _)
    exact ⟨ad, e, hd _ (by have := World.block_lt_of_cell? w _ h0; rwa [block_of_add] at this) hb, hc⟩⟩
theorem Rd.keep (h : Rd w D size A n xs) (hk : ∀ b, b < w.heap.size → D b → w'.heap[b]? = w.heap[b]?) : Rd w' D size A n xs :=
  ⟨h.1, fun hn => by
    obtain ⟨ad, e, hb, hc⟩ := h.2 hn
    refine ⟨ad, e, hb, fun j u hu => ?_⟩
    have h1 := hc j u hu
    have hlt := World.block_lt_of_cell? w _ h1
    rw [World.cell?_of_block (w := w) (hk _ hlt (by rw [block_of_add]; exact hb))]
    exact h1⟩
theorem Rd.below (h : Rd w D size A n xs) (hb : Below w.heap.size w w') : Rd w' D size A n xs := h.keep fun b hlt _ => hb.block b hlt
theorem Rd.belowB {B : Nat} (h : Rd w D size A n xs) (hb : Below B w w') (hd : ∀ b, D b → b < B) : Rd w' D size A n xs := h.keep fun b _ hD => hb.block b (hd b hD)
theorem Rd.mod {X : Nat → Prop} (h : Rd w D size A n xs) (hb : Mod X w w') (hd : ∀ b, D b → ¬ X b) : Rd w' D size A n xs := h.keep fun b hlt hD => hb.block b hlt (hd b hD)
theorem Rd.drew (h : Rd w D size A n xs) : Rd w.drew D size A n xs := h
theorem Rd.drewN (h : Rd w D size A n xs) (k : Nat) : Rd (w.drewN k) D size A n xs := h
theorem Rd.alloc (h : Rd w D size A n xs) (o : Obj) : Rd (w.alloc o) D size A n xs := h.keep fun b hlt _ => Below.heap_alloc w o b hlt
theorem Rd.setCell (h : Rd w D size A n xs) {p : Addr} (hp : ¬ D p.block) (u : Value) : Rd (w.setCell p u) D size A n xs :=
  h.keep fun b _ hD => Below.heap_setCell w p u b (by rintro rfl; exact hp hD)
theorem Rd.cut (h : Rd w D size A n xs) {k cap : Nat} (hk : k ≤ n) (hc : n ≤ cap) :
    Rd w D size (cutA A k cap size) (n - k) (xs.drop (k * size)) := by
  refine ⟨by rw [List.length_drop, h.1, Nat.sub_mul], fun hn => ?_⟩
  obtain ⟨ad, rfl, hb, hcell⟩ := h.2 (by omega)
  unfold cutA
  rw [if_neg (by omega)]
  refine ⟨ad.add (k * size), rfl, by rw [block_of_add]; exact hb, fun j u hu => ?_⟩
  rw [add_of_add]
  exact hcell _ u (by rw [← hu, List.getElem?_drop])
theorem Rd.take (h : Rd w D size A n xs) {k : Nat} (hk : k ≤ n) : Rd w D size A k (xs.take (k * size)) := by
  refine ⟨by rw [List.length_take, h.1]; exact Nat.min_eq_left (Nat.mul_le_mul_right _ hk), fun hn => ?_⟩
  obtain ⟨ad, rfl, hb, hcell⟩ := h.2 (by omega)
  refine ⟨ad, rfl, hb, fun j u hu => hcell j u ?_⟩
  rw [List.getElem?_take] at hu
  split at hu
  · exact hu
  · cases hu
theorem Rd.of_own {base : Nat} {e : TypeId} {c : Nat} (h : w.ownsRow base e size (.slice A n c) n xs) : Rd w (fun b => base ≤ b ∧ b < w.heap.size ∧ (Value.slice A n c).ownBlock = some b) size A n xs := by
  refine ⟨h.1, fun hn => ?_⟩
  obtain ⟨g, cap, hv, _, hlt⟩ := h.form hn
  have hA : A = some ⟨g, 0, none⟩ := by injection hv
  subst hA
  exact ⟨_, rfl, ⟨(h.lt g rfl).1, hlt, rfl⟩, h.cells (g := g) rfl⟩
end

/-! ### bytes and numbers -/
def cB (b : UInt8) : Value := .int .u8 (b.toNat : Int)
def cI (z : Int) : Value := .int .i64 z
def RdB (w : World) (D : Nat → Prop) (A : Option Addr) (bs : List UInt8) : Prop := Rd w D 1 A bs.length (bs.map cB)
def RdI (w : World) (D : Nat → Prop) (A : Option Addr) (zs : List Int) : Prop := Rd w D 1 A zs.length (zs.map cI)
def OwnB (w : World) (base : Nat) (v : Value) (bs : List UInt8) : Prop := w.ownsRow base 5 1 v bs.length (bs.map cB)
def OwnI (w : World) (base : Nat) (v : Value) (zs : List Int) : Prop := w.ownsRow base 3 1 v zs.length (zs.map cI)
/-- A number that an int holds. -/
def I64 (z : Int) : Prop := -9223372036854775808 ≤ z ∧ z ≤ 9223372036854775807

theorem cB_one (bs : List UInt8) : ∀ u ∈ bs.map cB, u.oneCell' = true := by
  intro u hu; obtain ⟨b, _, rfl⟩ := List.mem_map.1 hu; rfl
theorem cI_one (zs : List Int) : ∀ u ∈ zs.map cI, u.oneCell' = true := by
  intro u hu; obtain ⟨b, _, rfl⟩ := List.mem_map.1 hu; rfl

section
variable {w w' : World} {D D' : Nat → Prop} {A : Option Addr} {bs : List UInt8} {zs : List Int} {base : Nat} {v : Value} {c : Nat}
theorem RdB.at_ (h : RdB w D A bs) {k : Nat} (hk : k < bs.length) : ∃ ad, A = some ad ∧ D ad.block ∧ w.cell? (ad.add k) = some (.int .u8 ((bs[k]).toNat : Int)) := by
  obtain ⟨ad, e, hb, hc⟩ := h.2 (by omega)
  exact ⟨ad, e, hb, hc k _ (by simp [hk, cB])⟩
theorem RdI.at_ (h : RdI w D A zs) {k : Nat} (hk : k < zs.length) : ∃ ad, A = some ad ∧ D ad.block ∧ w.cell? (ad.add k) = some (.int .i64 (zs[k])) := by
  obtain ⟨ad, e, hb, hc⟩ := h.2 (by omega)
  exact ⟨ad, e, hb, hc k _ (by simp [hk, cI])⟩
theorem RdB.below (h : RdB w D A bs) (hb : Below w.heap.size w w') : RdB w' D A bs := Rd.below h hb
theorem RdI.below (h : RdI w D A zs) (hb : Below w.heap.size w w') : RdI w' D A zs := Rd.below h hb
theorem RdB.nil : RdB w D A [] := Rd.none_
theorem RdI.nil : RdI w D A [] := Rd.none_
theorem RdB.take (h : RdB w D A bs) {k : Nat} (hk : k ≤ bs.length) : RdB w D A (bs.take k) := by
  have := Rd.take h hk
  simp only [Nat.mul_one] at this
  unfold RdB
  rw [List.length_take, Nat.min_eq_left hk, List.map_take]
  exact this
theorem RdI.take (h : RdI w D A zs) {k : Nat} (hk : k ≤ zs.length) : RdI w D A (zs.take k) := by
  have := Rd.take h hk
  simp only [Nat.mul_one] at this
  unfold RdI
  rw [List.length_take, Nat.min_eq_left hk, List.map_take]
  exact this
theorem RdB.drop (h : RdB w D A bs) {k cap : Nat} (hk : k ≤ bs.length) (hc : bs.length ≤ cap) : RdB w D (cutA A k cap 1) (bs.drop k) := by
  have := Rd.cut (cap := cap) h hk hc
  simp only [Nat.mul_one] at this
  unfold RdB
  rw [List.length_drop, List.map_drop]
  exact this
theorem RdI.drop (h : RdI w D A zs) {k cap : Nat} (hk : k ≤ zs.length) (hc : zs.length ≤ cap) : RdI w D (cutA A k cap 1) (zs.drop k) := by
  have := Rd.cut (cap := cap) h hk hc
  simp only [Nat.mul_one] at this
  unfold RdI
  rw [List.length_drop, List.map_drop]
  exact this
theorem own_form {e : TypeId} {size n : Nat} {xs : List Value} (h : w.ownsRow base e size v n xs) : ∃ A c, v = .slice A n c ∧ n ≤ c ∧ c ≤ maxLen := by
  rcases h.2 with ⟨rfl, rfl⟩ | ⟨g, cap, cur, rfl, _, _, hn, hm, _⟩
  · exact ⟨none, 0, rfl, Nat.le_refl _, by simp [maxLen]⟩
  · exact ⟨_, cap, rfl, hn, hm⟩
theorem OwnB.form (h : OwnB w base v bs) : ∃ A c, v = .slice A bs.length c ∧ bs.length ≤ c ∧ c ≤ maxLen := own_form h
theorem OwnI.form (h : OwnI w base v zs) : ∃ A c, v = .slice A zs.length c ∧ zs.length ≤ c ∧ c ≤ maxLen := own_form h
theorem OwnB.rd (h : OwnB w base (.slice A bs.length c) bs) : RdB w (fun b => base ≤ b ∧ b < w.heap.size ∧ (Value.slice A bs.length c).ownBlock = some b) A bs := Rd.of_own h
theorem OwnI.rd (h : OwnI w base (.slice A zs.length c) zs) : RdI w (fun b => base ≤ b ∧ b < w.heap.size ∧ (Value.slice A zs.length c).ownBlock = some b) A zs := Rd.of_own h
theorem OwnB.rdG (h : OwnB w base (.slice A bs.length c) bs) : RdB w (base ≤ ·) A bs := Rd.imp h.rd (fun _ _ h => h.1) (by omega)
theorem OwnI.rdG (h : OwnI w base (.slice A zs.length c) zs) : RdI w (base ≤ ·) A zs := Rd.imp h.rd (fun _ _ h => h.1) (by omega)
theorem own_below {e : TypeId} {size n : Nat} {xs : List Value} (h : w.ownsRow base e size v n xs) (hb : Below w.heap.size w w') : w'.ownsRow base e size v n xs :=
  h.kept (row := none) ⟨hb.os, hb.tape, hb.output, hb.size, fun k hk _ => hb.block k hk⟩ (by cases v.ownBlock <;> simp)
theorem OwnB.below (h : OwnB w base v bs) (hb : Below w.heap.size w w') : OwnB w' base v bs := own_below h hb
theorem OwnI.below (h : OwnI w base v zs) (hb : Below w.heap.size w w') : OwnI w' base v zs := own_below h hb
theorem own_base {base' : Nat} {e : TypeId} {size n : Nat} {xs : List Value} (h : w.ownsRow base e size v n xs) (hb : base' ≤ base) : w.ownsRow base' e size v n xs := by
  refine ⟨h.1, ?_⟩
  rcases h.2 with h0 | ⟨g, cap, cur, hv, hg, r⟩
  · exact .inl h0
  · exact .inr ⟨g, cap, cur, hv, by omega, r⟩
theorem OwnB.low {base' : Nat} (h : OwnB w base v bs) (hb : base' ≤ base) : OwnB w base' v bs := own_base h hb
theorem OwnI.low {base' : Nat} (h : OwnI w base v zs) (hb : base' ≤ base) : OwnI w base' v zs := own_base h hb
theorem OwnB.nil : OwnB w base (.slice none 0 0) [] := World.ownsRow_nil _ _ _ _
theorem OwnI.nil : OwnI w base (.slice none 0 0) [] := World.ownsRow_nil _ _ _ _
end

theorem below_app {B base n : Nat} {a w w' : World} {e : TypeId} {size : Nat} {v : Value} {xs : List Value} (h : Below B a w) (hown : w.ownsRow base e size v n xs) (hg : w.grownBy w' v.ownBlock) (hB : B ≤ base) (hs : B ≤ w.heap.size) : Below B a w' :=
  h.grown hg hs fun k hk => by have := (hown.lt k hk).1; omega
theorem own_lit (w : World) (e : TypeId) (cs : List Value) (base : Nat) (hb : base ≤ w.heap.size) (hm : cs.length ≤ maxLen) :
    (w.alloc (.cells cs.toArray e)).ownsRow base e 1 (.slice (some ⟨w.heap.size, 0, none⟩) cs.length cs.length) cs.length cs := by
  have := World.ownsRow_lit (base := base) (e := e) (size := 1) w cs.toArray cs.length hb hm (by simp)
  simpa using this

/-- From v in w to v' in w': only v's own row is written, and v' lies there or in a new block. -/
structure Ext (w w' : World) (v v' : Value) : Prop where
  grown : w.grownBy w' v.ownBlock
  lies : v'.ownBlock = v.ownBlock ∨ ∀ k, v'.ownBlock = some k → w.heap.size ≤ k
section
variable {a b c : World} {u v x : Value}
theorem Ext.refl (w : World) (v : Value) : Ext w w v v := ⟨World.grownBy.refl _ _, .inl rfl⟩
theorem Ext.trans (h : Ext a b u v) (k : Ext b c v x) : Ext a c u x := by
  refine ⟨⟨k.grown.os.trans h.grown.os, k.grown.tape.trans h.grown.tape, k.grown.output.trans h.grown.output, Nat.le_trans h.grown.size k.grown.size, fun i hi hx => ?_⟩, ?_⟩
  · refine (k.grown.block i (Nat.lt_of_lt_of_le hi h.grown.size) ?_).trans (h.grown.block i hi hx)
    intro e
    rcases h.lies with h1 | h1
    · exact hx (e.trans h1)
    · have := h1 i e.symm; omega
  · rcases k.lies with k1 | k1
    · rcases h.lies with h1 | h1
      · exact .inl (k1.trans h1)
      · exact .inr fun i hi => h1 i (by rw [← k1]; exact hi)
    · exact .inr fun i hi => Nat.le_trans h.grown.size (k1 i hi)
theorem Ext.pre (h : Below a.heap.size a b) (k : Ext b c v x) : Ext a c v x :=
  ⟨⟨k.grown.os.trans h.os, k.grown.tape.trans h.tape, k.grown.output.trans h.output, Nat.le_trans h.size k.grown.size, fun i hi hx => (k.grown.block i (Nat.lt_of_lt_of_le hi h.size) hx).trans (h.block i hi)⟩,
    k.lies.imp id fun f i hi => Nat.le_trans h.size (f i hi)⟩
theorem Ext.post (h : Ext a b v x) (k : Below b.heap.size b c) : Ext a c v x :=
  ⟨⟨k.os.trans h.grown.os, k.tape.trans h.grown.tape, k.output.trans h.grown.output, Nat.le_trans h.grown.size k.size, fun i hi hx => (k.block i (Nat.lt_of_lt_of_le hi h.grown.size)).trans (h.grown.block i hi hx)⟩, h.lies⟩
theorem Ext.preAlloc {o : Obj} (k : Ext (a.alloc o) c v x) : Ext a c v x := Ext.pre ((Below.refl _ _).alloc (Nat.le_refl _) _) k
theorem Ext.below {B base n : Nat} {e : TypeId} {size : Nat} {xs : List Value} (k : Ext a c v x) (hown : a.ownsRow base e size v n xs) (hB : B ≤ base) (hs : B ≤ a.heap.size) : Below B a c :=
  below_app (Below.refl _ _) hown k.grown hB hs
theorem Ext.of_nil {n m : Nat} (h : Ext a c (.slice none n m) x) : Below a.heap.size a c := ⟨h.grown.os, h.grown.tape, h.grown.output, h.grown.size, fun i hi => h.grown.block i hi (by simp [Value.ownBlock])⟩
end

/-! ### conversions -/
def str (bs : List UInt8) : ByteArray := ⟨bs.toArray⟩
@[go_sem] theorem str_toList (bs : List UInt8) : (str bs).toList = bs := ByteArray.toList_mk bs
@[go_sem] theorem str_size (bs : List UInt8) : (str bs).size = bs.length := by simp [str, ByteArray.size]
theorem str_inj {a b : List UInt8} : str a = str b ↔ a = b := by
  constructor
  · intro h
    have := congrArg ByteArray.toList h
    rwa [str_toList, str_toList] at this
  · rintro rfl; rfl

section
variable {P : Program} {w : World} {D : Nat → Prop}
/-- string(b). -/
theorem run_str {A : Option Addr} {bs : List UInt8} (h : RdB w D A bs) (c : Nat) (src dst e : TypeId) (hs : P.underlying src = some (.slice e)) (he : P.underlying e = some (.int .u8)) (hd : P.underlying dst = some .string) :
    (convert src dst (.slice A bs.length c)).run P w = .ok (.string (str bs)) w := by
  by_cases hn : bs.length = 0
  · obtain rfl : bs = [] := List.eq_nil_of_length_eq_zero hn
    rw [run_convert_bytes_string w src dst e A _ c hs he hd]
    cases A with
    | none =>
      simp [Conv.bytesToString, Sem.run_pure, str]
      rfl
    | some a =>
      have hl := run_loadCells_list (P := P) w a [] (by simp)
      have := run_bytesToString (P := P) w a 0 c [] hl
      simp only [List.foldl_nil] at this
      exact this
  · obtain ⟨ad, rfl, _, _⟩ := h.2 (by omega)
    exact run_convert_bytes_back w src dst e ad c bs hs he hd (fun j hj => by
      obtain ⟨ad', he', _, hc⟩ := RdB.at_ h hj
      injection he' with he'
      subst he'
      exact hc)
end
end Go.Proofs.YthkeoimjjgmppaaDoor

/- Laws of make, append and conversion at this program's types of bytes and of numbers. -/
namespace Go.Proofs.YthkeoimjjgmppaaDoor
set_option maxRecDepth 100000
open Go.RowKit

theorem infoB : (Tryd.prog.info? 5).map (fun i => (i.zero, i.size, i.bytes)) = some (some (.int .u8 0), 1, 1) := by kernel_rfl
theorem infoI : (Tryd.prog.info? 3).map (fun i => (i.zero, i.size, i.bytes)) = some (some (.int .i64 0), 1, 8) := by kernel_rfl

def big : Nat := 4398046511104

/-- append of a slice that reads, whatever it is, onto a row of the call's own: the run itself. -/
theorem run_app (w : World) (base : Nat) (t ty e : TypeId) (z : Value) (size bytes : Nat) (ht : Tryd.prog.underlying t = some (.slice e)) (hinfo : (Tryd.prog.info? e).map (fun i => (i.zero, i.size, i.bytes)) = some (some z, size, bytes))
    (hzs : z.cells.size = size) (hsz : 0 < size)
    (v : Value) (n : Nat) (xs : List Value) (hown : w.ownsRow base e size v n xs)
    (D : Nat → Prop) (A : Option Addr) (m c : Nat) (news : List Value) (hr : Rd w D size A m news) (h1 : ∀ u ∈ news, u.oneCell' = true)
    (h63 : n + m ≤ maxLen) (hbytes : (n + m) * bytes ≤ 140737488355328) (hbase : base ≤ w.heap.size) :
    ∃ v' w', (Builtin.append_ #[t, t] ty #[v, .slice A m c]).run Tryd.prog w = .ok v' w' ∧ w'.ownsRow base e size v' (n + m) (xs ++ news) ∧ w.grownBy w' v.ownBlock ∧
      (v'.ownBlock = v.ownBlock ∨ v'.ownBlock = some w.heap.size) := by
  obtain ⟨i, hi, hz, hsize, hby⟩ := info_parts hinfo
  rcases A with _ | ad
  · have hm : m = 0 := by
      rcases Nat.eq_zero_or_pos m with h0 | h0
      · exact h0
      · obtain ⟨ad, h, _⟩ := hr.2 h0
        cases h
    subst hm
    have hn : news = [] := List.eq_nil_of_length_eq_zero (by simpa using hr.1)
    subst hn
    refine ⟨v, w, ?_, by simpa using hown, World.grownBy.refl w _, .inl rfl⟩
    rcases hown.2 with ⟨rfl, rfl⟩ | ⟨g, cap, cur, rfl, _, _, hnc, _⟩
    · simp [Builtin.append_, run_underlying ht, sizeOf, typeInfo, hi, Builtin.lenOf, Builtin.firstCells]
    · simp [Builtin.append_, run_underlying ht, sizeOf, typeInfo, hi, Builtin.lenOf, Builtin.firstCells, hnc, storeCells]
  · have hcells : ∀ j u, news[j]? = some u → w.cell? (ad.add j) = some u := by
      intro j u hu
      rcases Nat.eq_zero_or_pos m with h0 | h0
      · subst h0
        have hn : news = [] := List.eq_nil_of_length_eq_zero (by simpa using hr.1)
        subst hn
        simp at hu
      · obtain ⟨ad', h, _, hc⟩ := hr.2 h0
        injection h with h
        subst h
        exact hc j u hu
    obtain ⟨v', w', hrun, h2, h3, _, h5⟩ := run_append_own_at (P := Tryd.prog) w base t ty e i z size bytes ht hi hz hsize hby hzs hsz v n xs hown ad m c news hr.1 hcells h1 h63 hbytes hbase
    exact ⟨v', w', hrun, h2, h3, h5⟩

/-- append, as an operation of the walk. -/
theorem wp_app {w : World} {o : Oper} {a : Act} {K : Act → World → Prop} {Q : Exit → Act → World → Prop} (s x : Operand) (t : TypeId)
    (ho : o.op = .call { callee := .builtin .append, args := #[s, x], argTypes := #[t, t] })
    (base : Nat) (e : TypeId) (z : Value) (size bytes : Nat) (ht : Tryd.prog.underlying t = some (.slice e)) (hinfo : (Tryd.prog.info? e).map (fun i => (i.zero, i.size, i.bytes)) = some (some z, size, bytes))
    (hzs : z.cells.size = size) (hsz : 0 < size)
    (v : Value) (n : Nat) (xs : List Value) (hs : a.eval s = v) (hown : w.ownsRow base e size v n xs)
    (D : Nat → Prop) (A : Option Addr) (m c : Nat) (news : List Value) (hx : a.eval x = .slice A m c) (hr : Rd w D size A m news) (h1 : ∀ u ∈ news, u.oneCell' = true)
    (h63 : n + m ≤ maxLen) (hbytes : (n + m) * bytes ≤ 140737488355328) (hbase : base ≤ w.heap.size)
    (h : ∀ v' w', w'.ownsRow base e size v' (n + m) (xs ++ news) → w.grownBy w' v.ownBlock → (v'.ownBlock = v.ownBlock ∨ v'.ownBlock = some w.heap.size) → K (a.put o.dst v') w') : o.wp Tryd.prog a w K Q := by
  obtain ⟨v', w', hrun, h2, h3, h4⟩ := run_app w base t o.type e z size bytes ht hinfo hzs hsz v n xs hown D A m c news hr h1 h63 hbytes hbase
  unfold Oper.wp execOp
  simp only [ho, resolve, invoke, builtin, Sem.run_bind, Sem.run_pure, Result.andThen_ok, List.map_toArray, List.map_cons, List.map_nil, hs, hx, hrun]
  exact h v' w' h2 h3 h4

section
variable {w : World} {ops : Array Oper} {rest : List Oper} {o : Oper} {a : Act} {Q : Exit → Act → World → Prop}
theorem wpList_appB (hgd : o.guard = none) (s x : Operand) (ho : o.op = .call { callee := .builtin .append, args := #[s, x], argTypes := #[23, 23] })
    (base : Nat) (v : Value) (bs : List UInt8) (hs : a.eval s = v) (hown : OwnB w base v bs)
    (D : Nat → Prop) (A : Option Addr) (m c : Nat) (news : List UInt8) (hx : a.eval x = .slice A m c) (hm : m = news.length) (hr : RdB w D A news)
    (hlen : bs.length + news.length ≤ big) (hbase : base ≤ w.heap.size)
    (h : ∀ v' w', OwnB w' base v' (bs ++ news) → Ext w w' v v' → wpList Tryd.prog ops Q rest (a.put o.dst v') w') :
    wpList Tryd.prog ops Q (o :: rest) a w := by
  subst hm
  refine wpList_plain hgd fun _ hK => wp_app s x _ ho base 5 (.int .u8 0) 1 1 Tryd.underlying23 infoB rfl (by decide) v _ _ hs hown D A _ c _ hx hr (cB_one _) ?_ ?_ hbase fun v' w' h2 h3 h4 => hK _ _ (h v' w' ?_ ⟨h3, h4.imp id fun e k hk => by rw [e] at hk; injection hk with hk; omega⟩)
  · unfold big at hlen; unfold maxLen; omega
  · unfold big at hlen; omega
  · unfold OwnB; rw [List.length_append, List.map_append]; exact h2
theorem wpList_appI (hgd : o.guard = none) (s x : Operand) (ho : o.op = .call { callee := .builtin .append, args := #[s, x], argTypes := #[118, 118] })
    (base : Nat) (v : Value) (bs : List Int) (hs : a.eval s = v) (hown : OwnI w base v bs)
    (D : Nat → Prop) (A : Option Addr) (m c : Nat) (news : List Int) (hx : a.eval x = .slice A m c) (hm : m = news.length) (hr : RdI w D A news)
    (hlen : bs.length + news.length ≤ big) (hbase : base ≤ w.heap.size)
    (h : ∀ v' w', OwnI w' base v' (bs ++ news) → Ext w w' v v' → wpList Tryd.prog ops Q rest (a.put o.dst v') w') :
    wpList Tryd.prog ops Q (o :: rest) a w := by
  subst hm
  refine wpList_plain hgd fun _ hK => wp_app s x _ ho base 3 (.int .i64 0) 1 8 Tryd.underlying118 infoI rfl (by decide) v _ _ hs hown D A _ c _ hx hr (cI_one _) ?_ ?_ hbase fun v' w' h2 h3 h4 => hK _ _ (h v' w' ?_ ⟨h3, h4.imp id fun e k hk => by rw [e] at hk; injection hk with hk; omega⟩)
  · unfold big at hlen; unfold maxLen; omega
  · unfold big at hlen; omega
  · unfold OwnI; rw [List.length_append, List.map_append]; exact h2
end

theorem run_copy_own (w : World) (dT sT ty e : TypeId) (ht : Tryd.prog.underlying dT = some (.slice e)) (hsz : (Tryd.prog.info? e).map (·.size) = some 1)
    (base : Nat) (v : Value) (n : Nat) (xs : List Value) (hown : w.ownsRow base e 1 v n xs) (D : Nat → Prop) (A : Option Addr) (m c : Nat) (ys : List Value) (hr : Rd w D 1 A m ys) (h1 : ∀ u ∈ ys, u.oneCell' = true) :
    ∃ w', (Builtin.copy_ #[dT, sT] ty #[v, .slice A m c]).run Tryd.prog w = .ok (goInt ((min m n : Nat) : Int)) w' ∧ w'.ownsRow base e 1 v n (ys.take n ++ xs.drop m) ∧ w.grownBy w' v.ownBlock := by
  have hlx : xs.length = n := by simpa using hown.1
  have hly : ys.length = m := by simpa using hr.1
  have nothing : min m n = 0 → xs = ys.take n ++ xs.drop m := by
    intro h
    rcases Nat.eq_zero_or_pos n with hn | hn
    · subst hn
      have : xs = [] := List.eq_nil_of_length_eq_zero hlx
      subst this; simp
    · have hm : m = 0 := by omega
      subst hm
      have : ys = [] := List.eq_nil_of_length_eq_zero hly
      subst this; simp
  rcases own_form hown with ⟨dA, dc, rfl, hdc, _⟩
  by_cases h0 : min m n = 0
  · have hrun := run_copy_none (P := Tryd.prog) w dT sT ty e dA A n dc m c ht hsz h0
    rw [h0]
    exact ⟨w, hrun, by rw [← nothing h0]; exact hown, World.grownBy.refl _ _⟩
  · obtain ⟨ad, rfl, _, hc⟩ := hr.2 (by omega)
    rcases hown.2 with ⟨hv, hn0⟩ | ⟨g, cap, cur, hv, hbg, hg, hnc, hcm, hcs, htake⟩
    · omega
    · injection hv with hA _ hcap
      subst hA
      have hcl : (ys.take n).length = Nat.min m n := by rw [List.length_take, hly]; show min n m = min m n; omega
      have hcs1 : cur.size = cap := by simpa using hcs
      have hrun := run_copy_row (P := Tryd.prog) w dT sT ty e g 0 n dc ad m c cur e (ys.take n) ht hsz hg hcl (fun j u hu => hc j u (by
        rw [List.getElem?_take] at hu
        split at hu
        · exact hu
        · cases hu)) (by rw [hcl]; show 0 + min m n ≤ _; omega) (fun u hu => h1 u (List.mem_of_mem_take hu))
      have hcl' : (ys.take n).length = min m n := hcl
      rw [hcl'] at hrun
      subst hcap
      refine ⟨_, hrun, ⟨by simp [hlx, hly]; omega, .inr ⟨g, dc, _, rfl, hbg, setRow_heap w g cur _ e _ hg, hnc, hcm, ?_, ?_⟩⟩, ⟨rfl, rfl, rfl, by simp, fun k _ hk => setRow_other w g k _ (fun e => hk (by simp [Value.ownBlock, e]))⟩⟩
      · simp [hly]; omega
      · simp only [List.take_zero, List.nil_append, Nat.zero_add, Nat.mul_one] at htake ⊢
        rw [← htake]
        have hlt : cur.toList.length = dc := by simpa using hcs1
        apply List.ext_getElem?
        intro i
        simp only [List.getElem?_take, List.getElem?_append, List.getElem?_drop, List.length_take, hly]
        split <;> rename_i hi
        · split <;> rename_i hi2
          · rfl
          · have e1 : min m n + (i - min n m) = i := by omega
            have e2 : m + (i - min n m) = i := by omega
            rw [e1, e2, if_pos hi]
        · split <;> rename_i hi2
          · omega
          · rw [if_neg (by omega)]

section
variable {w : World} {ops : Array Oper} {rest : List Oper} {o : Oper} {a : Act} {Q : Exit → Act → World → Prop}
theorem wpList_copyB (hgd : o.guard = none) (d s : Operand) (ho : o.op = .call { callee := .builtin .copy, args := #[d, s], argTypes := #[23, 23] })
    (base : Nat) (v : Value) (xs : List UInt8) (hd : a.eval d = v) (hown : OwnB w base v xs) (D : Nat → Prop) (A : Option Addr) (m c : Nat) (ys : List UInt8) (hs : a.eval s = .slice A m c) (hm : m = ys.length) (hr : RdB w D A ys)
    (h : ∀ w', OwnB w' base v (ys.take xs.length ++ xs.drop ys.length) → w.grownBy w' v.ownBlock → wpList Tryd.prog ops Q rest (a.put o.dst (goInt ((min ys.length xs.length : Nat) : Int))) w') :
    wpList Tryd.prog ops Q (o :: rest) a w := by
  subst hm
  refine wpList_plain hgd fun K hK => ?_
  obtain ⟨w', hrun, h1, h2⟩ := run_copy_own w 23 23 o.type 5 Tryd.underlying23 (by rfl) base v _ _ hown D A _ c _ hr (cB_one _)
  unfold Oper.wp
  simp only [execOp, ho, resolve, invoke, builtin, hd, hs, hrun, Sem.run_bind, Sem.run_pure, Result.andThen_ok, List.map_toArray, List.map_cons, List.map_nil]
  refine hK _ _ (h w' ?_ h2)
  unfold OwnB
  rw [List.map_append, List.map_take, List.map_drop]
  have : (ys.take xs.length ++ xs.drop ys.length).length = xs.length := by simp; omega
  rw [this]
  simpa using h1
theorem wpList_makeB (hgd : o.guard = none) (l c : Operand) (hop : o.op = Op.makeSlice 23 l c) (base n : Nat) (hl : a.eval l = .int .i64 (n : Int)) (hc : a.eval c = .int .i64 (n : Int)) (hn : n ≤ big) (hb : base ≤ w.heap.size)
    (h : ∀ w', OwnB w' base (.slice (some ⟨w.heap.size, 0, none⟩) n n) (List.replicate n 0) → Below w.heap.size w w' → wpList Tryd.prog ops Q rest (a.put o.dst (.slice (some ⟨w.heap.size, 0, none⟩) n n)) w') :
    wpList Tryd.prog ops Q (o :: rest) a w := by
  obtain ⟨i, hi, hz0, hz1, hz2⟩ := info_parts infoB
  refine wpList_make_full w hgd l c _ hop base _ i _ 1 Tryd.underlying23 hi hz0 hz1 .i64 .i64 n n n hl hc rfl rfl (by rw [hz2]; unfold big at hn; omega) (by unfold big at hn; unfold maxLen; omega) hb fun w' h1 h2 => h w' ?_ ⟨h2.os, h2.tape, h2.output, h2.size, fun k hk => h2.block k hk (by simp)⟩
  unfold OwnB
  simp only [List.length_replicate, List.map_replicate]
  have e : (madeCells (Value.int .u8 0).cells (n * 1)).toList = List.replicate n (cB 0) := by
    rw [Nat.mul_one]; exact toList_madeCells_one _ _
  rw [e] at h1
  exact h1
end

/-- One byte in a new block of its own: what 'append(out, x)' appends. -/
def byteOf (n : Int) : UInt8 := UInt8.ofNat (n % 256).toNat
theorem byteOf_cell (n : Int) : Value.int .u8 (IntKind.u8.wrap n) = cB (byteOf n) := by
  unfold cB byteOf
  congr 1
  simp only [IntKind.wrap, UInt8.toNat_ofNat']
  simp [IntKind.signed, IntKind.bits]
  omega
theorem rd_newB (w : World) (b : UInt8) (n : Int) (h : n = (b.toNat : Int)) : RdB (w.alloc (.cells #[.int .u8 n] 5)) (· = w.heap.size) (some ⟨w.heap.size, 0, none⟩) [b] := by
  subst h
  refine ⟨rfl, fun _ => ⟨_, rfl, rfl, ?_⟩⟩
  exact cell_one_new w (cB b) _
theorem rd_newI (w : World) (n : Int) : RdI (w.alloc (.cells #[.int .i64 n] 3)) (· = w.heap.size) (some ⟨w.heap.size, 0, none⟩) [n] := by
  refine ⟨rfl, fun _ => ⟨_, rfl, rfl, ?_⟩⟩
  exact cell_one_new w (cI n) _

@[go_sem] theorem eqB_nil (w : World) (A : Option Addr) (n c : Nat) : (binOp .eql 23 (.slice A n c) (.slice none 0 0)).run Tryd.prog w = .ok (.bool A.isNone) w := Lib.run_eql_slice_nil w _ 5 A n c 0 0 Tryd.underlying23
@[go_sem] theorem eqI_nil (w : World) (A : Option Addr) (n c : Nat) : (binOp .eql 118 (.slice A n c) (.slice none 0 0)).run Tryd.prog w = .ok (.bool A.isNone) w := Lib.run_eql_slice_nil w _ 3 A n c 0 0 Tryd.underlying118
/-- string(b), b of the call's own, in a later world. -/
theorem str_in {w W : World} {base n c : Nat} {A : Option Addr} {bs : List UInt8} {X : Nat → Prop} (h : OwnB w base (.slice A n c) bs) (hn : n = bs.length) (hW : Mod X w W) (hx : ∀ k, base ≤ k → ¬ X k) :
    (convert 23 9 (.slice A n c)).run Tryd.prog W = .ok (.string (str bs)) W := by
  subst hn
  exact run_str (Rd.mod h.rd hW (fun b hb => hx b hb.1)) c _ _ _ Tryd.underlying23 Tryd.underlying5 Tryd.underlying9
theorem str_inB {w W : World} {base n c : Nat} {A : Option Addr} {bs : List UInt8} (h : OwnB w base (.slice A n c) bs) (hn : n = bs.length) (hW : Below w.heap.size w W) :
    (convert 23 9 (.slice A n c)).run Tryd.prog W = .ok (.string (str bs)) W := by
  subst hn
  exact run_str (Rd.below h.rd hW) c _ _ _ Tryd.underlying23 Tryd.underlying5 Tryd.underlying9
theorem str_rd {w : World} {D : Nat → Prop} {n c : Nat} {A : Option Addr} {bs : List UInt8} (h : RdB w D A bs) (hn : n = bs.length) :
    (convert 23 9 (.slice A n c)).run Tryd.prog w = .ok (.string (str bs)) w := by
  subst hn
  exact run_str h c _ _ _ Tryd.underlying23 Tryd.underlying5 Tryd.underlying9
theorem litB (w : World) (bs : List UInt8) (n : Nat) (cs : Array Value) (hn : n = bs.length) (hcs : cs = (bs.map cB).toArray) (hl : bs.length ≤ big) :
    OwnB (w.alloc (.cells cs 5)) w.heap.size (.slice (some ⟨w.heap.size, 0, none⟩) n n) bs := by
  subst hn; subst hcs
  have := own_lit w 5 (bs.map cB) w.heap.size (Nat.le_refl _) (by rw [List.length_map]; unfold big at hl; unfold maxLen; omega)
  rw [List.length_map] at this
  exact this
theorem litI (w : World) (zs : List Int) (n : Nat) (cs : Array Value) (hn : n = zs.length) (hcs : cs = (zs.map cI).toArray) (hl : zs.length ≤ big) :
    OwnI (w.alloc (.cells cs 3)) w.heap.size (.slice (some ⟨w.heap.size, 0, none⟩) n n) zs := by
  subst hn; subst hcs
  have := own_lit w 3 (zs.map cI) w.heap.size (Nat.le_refl _) (by rw [List.length_map]; unfold big at hl; unfold maxLen; omega)
  rw [List.length_map] at this
  exact this
theorem below_new (w : World) (o : Obj) : Below w.heap.size w (w.alloc o) := (Below.refl _ _).alloc (Nat.le_refl _) _

end Go.Proofs.YthkeoimjjgmppaaDoor

/- What arguments read as, in the words of this seat; the frame's two closed facts. -/
namespace Go.Proofs.YthkeoimjjgmppaaDoor
open Go.ChangeShapes Go.WideShapes Go.ChangeAt Go.RowKit
set_option linter.unusedVariables false
set_option maxRecDepth 100000

theorem own : ownKnob Tryd.prog.godebug = none := by kernel_rfl
theorem laidOut : laidOutB Tryd.prog = true := by kernel_rfl

def Old (w : World) : Nat → Prop := fun b => b < w.heap.size

section
variable {H : Type} {enc : TypeId × Value → H} {w : World} {base : Nat} {spare : Nat → Bool} {held : Bool} {fuel : Nat} {cs : List Value} {x : DataW H × List MemPlace}

theorem i64_of {n : Int} (h : (Lit.int .i64 n).wf = true) : I64 n := by
  simpa [I64, Lit.wf, IntKind.min, IntKind.max, IntKind.signed, IntKind.bits] using h
theorem byte_of {n : Int} (h : (Lit.int .u8 n).wf = true) : n = ((byteOf n).toNat : Int) := by
  have h' : 0 ≤ n ∧ n ≤ 255 := by simpa [Lit.wf, IntKind.min, IntKind.max, IntKind.signed, IntKind.bits] using h
  unfold byteOf
  rw [UInt8.toNat_ofNat']
  omega

theorem readB (h : DataW.trod enc Tryd.prog w base spare held fuel 23 cs = some x) :
    ∃ A bs c, cs = [.slice A bs.length c] ∧ RdB w (Old w) A bs ∧ bs.length ≤ c ∧ c ≤ 9223372036854775807 ∧ (A = none → c = 0) := by
  rcases open_ints Tryd.underlying23 Tryd.underlying5 (by kernel_rfl) h with ⟨hcs, _⟩ | ⟨a, l, c, zs, hcs, _, hl, hm, hz, _, hcell, hwz⟩
  · exact ⟨none, [], 0, hcs, RdB.nil, by simp, by omega, fun _ => rfl⟩
  · have hlz : l ≤ zs.length := by rw [hz]; split <;> omega
    have hlen : ((zs.take l).map byteOf).length = l := by simp; omega
    refine ⟨some a, (zs.take l).map byteOf, c, by rw [hlen]; exact hcs, ?_, by omega, by unfold maxLen at hm; omega, by simp⟩
    refine Rd.imp (D := fun _ => True) ?_ (fun b hb _ => hb) (by omega)
    refine ⟨by simp, fun hn => ⟨a, rfl, trivial, fun j u hu => ?_⟩⟩
    rw [hlen] at hn
    have hj : j < l := by
      have := (List.getElem?_eq_some_iff.1 hu).1
      simp at this
      omega
    rw [hcell j (by omega)]
    simp only [List.getElem?_map, List.getElem?_take, if_pos hj] at hu
    rw [List.getElem?_eq_getElem (show j < zs.length by omega)] at hu
    simp only [Option.map_some, Option.some.injEq] at hu
    rw [← hu]
    unfold cB
    rw [← byte_of (hwz _ (List.getElem_mem _)), List.getD_eq_getElem?_getD, List.getElem?_eq_getElem (show j < zs.length by omega)]
    rfl

theorem readI (h : DataW.trod enc Tryd.prog w base spare held fuel 118 cs = some x) :
    ∃ A zs c, cs = [.slice A zs.length c] ∧ RdI w (Old w) A zs ∧ zs.length ≤ c ∧ c ≤ 9223372036854775807 ∧ (A = none → c = 0) ∧ ∀ z ∈ zs, I64 z := by
  rcases open_ints Tryd.underlying118 Tryd.underlying3 (by kernel_rfl) h with ⟨hcs, _⟩ | ⟨a, l, c, zs, hcs, _, hl, hm, hz, _, hcell, hwz⟩
  · exact ⟨none, [], 0, hcs, RdI.nil, by simp, by omega, fun _ => rfl, by simp⟩
  · have hlz : l ≤ zs.length := by rw [hz]; split <;> omega
    have hlen : (zs.take l).length = l := by simp; omega
    refine ⟨some a, zs.take l, c, by rw [hlen]; exact hcs, ?_, by omega, by unfold maxLen at hm; omega, by simp, fun z hz => i64_of (hwz z (List.mem_of_mem_take hz))⟩
    refine Rd.imp (D := fun _ => True) ?_ (fun b hb _ => hb) (by omega)
    refine ⟨by simp, fun hn => ⟨a, rfl, trivial, fun j u hu => ?_⟩⟩
    rw [hlen] at hn
    have hj : j < l := by
      have := (List.getElem?_eq_some_iff.1 hu).1
      simp at this
      omega
    rw [hcell j (by omega)]
    simp only [List.getElem?_map, List.getElem?_take, if_pos hj] at hu
    rw [List.getElem?_eq_getElem (show j < zs.length by omega)] at hu
    simp only [Option.map_some, Option.some.injEq] at hu
    rw [← hu]
    unfold cI
    rw [List.getD_eq_getElem?_getD, List.getElem?_eq_getElem (show j < zs.length by omega)]
    rfl
theorem readN (h : DataW.trod enc Tryd.prog w base spare held fuel 3 cs = some x) : ∃ n, cs = [.int .i64 n] ∧ I64 n := by
  obtain ⟨n, hcs, _, hw⟩ := DataW.trod_int Tryd.underlying3 h
  exact ⟨n, hcs, i64_of hw⟩
end

section
variable {H : Type} {enc : TypeId × Value → H} {W : World} {base : Nat} {v : Value} {d : DataW H} {p : List MemPlace}
theorem openB (hv : Value.okWide Tryd.prog W .any base 23 v) (h : DataW.Trod enc Tryd.prog W 0 (fun _ => true) true 23 v d p) :
    ∃ A bs c, v = .slice A bs.length c ∧ RdB W (Old W) A bs ∧ bs.length ≤ c ∧ c ≤ 9223372036854775807 ∧ (A = none → c = 0) := by
  obtain ⟨a, l, c, rfl⟩ := okWide_slice Tryd.underlying23 hv
  obtain ⟨fuel, hf⟩ := h
  obtain ⟨A, bs, c', hcs, r⟩ := readB hf
  simp [Value.cells] at hcs
  obtain ⟨rfl, rfl, rfl⟩ := hcs
  exact ⟨_, _, _, rfl, r⟩
theorem openI (hv : Value.okWide Tryd.prog W .any base 118 v) (h : DataW.Trod enc Tryd.prog W 0 (fun _ => true) true 118 v d p) :
    ∃ A zs c, v = .slice A zs.length c ∧ RdI W (Old W) A zs ∧ zs.length ≤ c ∧ c ≤ 9223372036854775807 ∧ (A = none → c = 0) ∧ ∀ z ∈ zs, I64 z := by
  obtain ⟨a, l, c, rfl⟩ := okWide_slice Tryd.underlying118 hv
  obtain ⟨fuel, hf⟩ := h
  obtain ⟨A, bs, c', hcs, r⟩ := readI hf
  simp [Value.cells] at hcs
  obtain ⟨rfl, rfl, rfl⟩ := hcs
  exact ⟨_, _, _, rfl, r⟩
theorem openN (hv : Value.okWide Tryd.prog W .any base 3 v) (h : DataW.Trod enc Tryd.prog W 0 (fun _ => true) true 3 v d p) : ∃ n, v = .int .i64 n ∧ I64 n := by
  obtain ⟨n, rfl, _, _, hw⟩ := open_int Tryd.underlying3 hv h
  exact ⟨n, rfl, i64_of hw⟩
theorem openU8 (hv : Value.okWide Tryd.prog W .any base 5 v) (h : DataW.Trod enc Tryd.prog W 0 (fun _ => true) true 5 v d p) : ∃ b : UInt8, v = .int .u8 (b.toNat : Int) := by
  obtain ⟨n, rfl, _, _, hw⟩ := open_int Tryd.underlying5 hv h
  exact ⟨byteOf n, by rw [← byte_of hw]⟩
theorem openBool (hv : Value.okWide Tryd.prog W .any base 4 v) (h : DataW.Trod enc Tryd.prog W 0 (fun _ => true) true 4 v d p) : ∃ b : Bool, v = .bool b := by
  obtain ⟨n, rfl, _, _⟩ := open_bool Tryd.underlying4 hv h
  exact ⟨n, rfl⟩
end
end Go.Proofs.YthkeoimjjgmppaaDoor

/- Slices of structs of one-cell fields, as lists: how an argument reads, and how it is carried. -/
namespace Go.Proofs.YthkeoimjjgmppaaDoor
open Go.ChangeShapes Go.WideShapes Go.Deep Go.RowKit
set_option linter.unusedVariables false

/-- The slice at A holds the elements of L, of k cells each, in a block of D. -/
def RdL {α : Type} (w : World) (D : Nat → Prop) (k : Nat) (cells : α → List Value) (A : Option Addr) (L : List α) : Prop :=
  0 < L.length → ∃ ad, A = some ad ∧ D ad.block ∧ ∀ i s, L[i]? = some s → ∀ j v, (cells s)[j]? = some v → w.cell? (ad.add (i * k + j)) = some v

section
variable {α : Type} {w w' : World} {D D' : Nat → Prop} {k : Nat} {cells : α → List Value} {A : Option Addr} {L : List α}
theorem RdL.keep (h : RdL w D k cells A L) (hk : ∀ b, b < w.heap.size → D b → w'.heap[b]? = w.heap[b]?) : RdL w' D k cells A L := fun hn => by
  obtain ⟨ad, e, hb, hc⟩ := h hn
  refine ⟨ad, e, hb, fun i s hs j v hv => ?_⟩
  have h1 := hc i s hs j v hv
  have hlt := World.block_lt_of_cell? w _ h1
  rw [World.cell?_of_block (w := w) (hk _ hlt (by rw [block_of_add]; exact hb))]
  exact h1
theorem RdL.below (h : RdL w D k cells A L) (hb : Below w.heap.size w w') : RdL w' D k cells A L := h.keep fun b hlt _ => hb.block b hlt
theorem RdL.belowB {B : Nat} (h : RdL w D k cells A L) (hb : Below B w w') (hd : ∀ b, D b → b < B) : RdL w' D k cells A L := h.keep fun b _ hD => hb.block b (hd b hD)
theorem RdL.mod {X : Nat → Prop} (h : RdL w D k cells A L) (hb : Mod X w w') (hd : ∀ b, D b → ¬ X b) : RdL w' D k cells A L := h.keep fun b hlt hD => hb.block b hlt (hd b hD)
end

theorem listOf {α : Type} {Q : Nat → α → Prop} : ∀ n, (∀ i, i < n → ∃ s, Q i s) → ∃ L : List α, L.length = n ∧ ∀ i s, L[i]? = some s → Q i s
  | 0, _ => ⟨[], rfl, by simp⟩
  | n + 1, h => by
    obtain ⟨L, hl, hL⟩ := listOf n fun i hi => h i (by omega)
    obtain ⟨s, hs⟩ := h n (by omega)
    refine ⟨L ++ [s], by simp [hl], fun i u hu => ?_⟩
    rw [List.getElem?_append] at hu
    split at hu
    · exact hL i u hu
    · have hi : i = n := by
        have := (List.getElem?_eq_some_iff.1 hu).1
        simp at this
        omega
      subst hi
      rw [hl, Nat.sub_self] at hu
      simp at hu
      exact hu ▸ hs

section
variable {H : Type} {enc : TypeId × Value → H} {P : Program} {w : World} {base : Nat} {spare : Nat → Bool} {held : Bool}
theorem readL {α : Type} {t e : TypeId} {fs : Array Field} {fuel : Nat} {cs : List Value} {x : DataW H × List MemPlace} (ht : P.underlying t = some (.slice e)) (he : P.underlying e = some (.struct fs))
    (hone : oneCellFields P fs = true) (hC : P.cellsOf e = fs.size) (cells : α → List Value) (Pr : α → Prop)
    (hel : ∀ (b : Addr) (o : Nat), (∀ (j : Nat) f, fs[j]? = some f → ∃ v n y, w.cell? (b.add (o + j)) = some v ∧ DataW.trod enc P w base spare held n f.type [v] = some y) → ∃ s, Pr s ∧ ∀ j v, (cells s)[j]? = some v → w.cell? (b.add (o + j)) = some v)
    (h : DataW.trod enc P w base spare held fuel t cs = some x) (h0 : 0 < fs.size) (hcl : ∀ s, (cells s).length = fs.size) :
    ∃ A L c, cs = [.slice A L.length c] ∧ RdL w (Old w) fs.size cells A L ∧ L.length ≤ c ∧ c ≤ 9223372036854775807 ∧ (A = none → c = 0) ∧ ∀ s ∈ L, Pr s := by
  rcases open_slice ht h with ⟨hcs, _⟩ | ⟨a, len, cap, m, n, D, Pl, hcs, _, hl, hm, hmm, _, hi⟩
  · exact ⟨none, [], 0, hcs, fun h => absurd h (by simp), by simp, by omega, fun _ => rfl, by simp⟩
  · have each : ∀ i, i < len → ∃ s, Pr s ∧ ∀ j v, (cells s)[j]? = some v → w.cell? (a.add (i * fs.size + j)) = some v := fun i hil => by
      have him : i < m := by rw [hmm]; split <;> omega
      obtain ⟨cs', hc, ht'⟩ := hi i him
      rw [hC] at hc
      obtain ⟨ys, n', _, _, hlen, hyl, hf⟩ := DataW.trod_struct he ht'
      obtain ⟨_, hcl, hat⟩ := World.cells?_some hc
      refine hel a (i * fs.size) fun j f hj => ?_
      obtain ⟨ho, hk⟩ := hone_of hone j f hj
      have hjl : j < fs.size := (Array.getElem?_eq_some_iff.1 hj).1
      have h1 := hf j f hj
      rw [ho, hk] at h1
      have hv : cs'[j]? = some (cs'[j]'(by omega)) := List.getElem?_eq_getElem (by omega)
      rw [List.drop_eq_getElem_cons (by omega)] at h1
      have hcell := hat j hjl
      rw [hv, Go.Deep.add_add] at hcell
      exact ⟨_, n', _, hcell, h1.trans (List.getElem?_eq_getElem (by omega))⟩
    obtain ⟨L, hL, hQ⟩ := listOf len each
    refine ⟨some a, L, cap, by rw [hL]; exact hcs, fun hn => ⟨a, rfl, ?_, fun i s hs => (hQ i s hs).2⟩, by omega, by unfold maxLen at hm; omega, by simp, fun s hs => ?_⟩
    · have h1 := (hQ 0 L[0] (List.getElem?_eq_getElem hn)).2 0 _ (List.getElem?_eq_getElem (by rw [hcl]; exact h0))
      have := World.block_lt_of_cell? w _ h1
      rwa [block_of_add] at this
    · obtain ⟨i, hi, rfl⟩ := List.getElem_of_mem hs
      exact (hQ i _ (List.getElem?_eq_getElem hi)).1
end
end Go.Proofs.YthkeoimjjgmppaaDoor

/- A block known whole; a row in a block of one's own, whatever stands behind it. -/
namespace Go.Proofs.YthkeoimjjgmppaaDoor
open Go.RowKit
set_option linter.unusedVariables false

def Blk (w : World) (g : Nat) (t : TypeId) (cs : Array Value) : Prop := w.heap[g]? = some (.cells cs t (0, 0))
section
variable {w w' : World} {g : Nat} {t : TypeId} {cs : Array Value}
theorem Blk.lt (h : Blk w g t cs) : g < w.heap.size := by
  rcases Nat.lt_or_ge g w.heap.size with hlt | hge
  · exact hlt
  · unfold Blk at h; rw [Array.getElem?_eq_none hge] at h; cases h
theorem Blk.cell (h : Blk w g t cs) (i : Nat) : w.cell? ⟨g, i, none⟩ = cs[i]? := cell_of_row w g i cs t (0, 0) h
theorem Blk.frozen (h : Blk w g t cs) (i : Nat) : w.frozen? ⟨g, i, none⟩ = false := by unfold Blk at h; simp [World.frozen?, h]
theorem Blk.new (w : World) (t : TypeId) (cs : Array Value) : Blk (w.alloc (.cells cs t)) w.heap.size t cs := heap_alloc_new w _
theorem Blk.set_ (h : Blk w g t cs) (i : Nat) (u : Value) : Blk (w.setCell ⟨g, i, none⟩ u) g t (cs.setIfInBounds i u) := heap_setCell_same w g i cs t u h
theorem Blk.mod {X : Nat → Prop} (h : Blk w g t cs) (hb : Mod X w w') (hg : ¬ X g) : Blk w' g t cs := (hb.block g h.lt hg).trans h
theorem Blk.grown {row : Option Nat} (h : Blk w g t cs) (hb : w.grownBy w' row) (hg : some g ≠ row) : Blk w' g t cs := (hb.block g h.lt hg).trans h
theorem Blk.grownS {g' n c : Nat} (h : Blk w g t cs) (hb : w.grownBy w' (Value.slice (some ⟨g', 0, none⟩) n c).ownBlock) (hg : g' ≠ g) : Blk w' g t cs :=
  h.grown (row := some g') hb (fun e => hg (by injection e with e; exact e.symm))
theorem Mod.setG {a b : World} {g : Nat} (h : Mod (· = g) a b) (i : Nat) (u : Value) : Mod (· = g) a (b.setCell ⟨g, i, none⟩ u) := h.setCell (p := ⟨g, i, none⟩) (.inl rfl) u
theorem Blk.below (h : Blk w g t cs) (hb : Below w.heap.size w w') : Blk w' g t cs := (hb.block g h.lt).trans h
end

/-- The numbers zs at A, at the head of a block that is base or later; more may stand behind them. -/
def RowI (w : World) (base : Nat) (A : Option Addr) (zs : List Int) : Prop :=
  zs = [] ∨ ∃ g t cs, A = some ⟨g, 0, none⟩ ∧ base ≤ g ∧ Blk w g t cs ∧ ∀ (j : Nat) z, zs[j]? = some z → cs[j]? = some (cI z)
section
variable {w w' : World} {base : Nat} {A : Option Addr} {zs : List Int}
theorem RowI.nil : RowI w base A [] := .inl rfl
theorem RowI.rd (h : RowI w base A zs) : RdI w (fun b => base ≤ b) A zs := by
  refine ⟨by simp, fun hn => ?_⟩
  rcases h with rfl | ⟨g, t, cs, rfl, hb, hB, hc⟩
  · simp at hn
  · refine ⟨_, rfl, hb, fun j u hu => ?_⟩
    rw [List.getElem?_map] at hu
    obtain ⟨z, hz, rfl⟩ := Option.map_eq_some_iff.1 hu
    rw [add_head, hB.cell]
    exact hc j z hz
theorem RowI.below (h : RowI w base A zs) (hb : Below w.heap.size w w') : RowI w' base A zs := by
  rcases h with h | ⟨g, t, cs, e, hb', hB, hc⟩
  · exact .inl h
  · exact .inr ⟨g, t, cs, e, hb', hB.below hb, hc⟩
theorem RowI.belowB (h : RowI w base A zs) (hb : Below w.heap.size w w') {b2 : Nat} (h2 : b2 ≤ base) : RowI w' b2 A zs := by
  rcases h with h | ⟨g, t, cs, e, hb', hB, hc⟩
  · exact .inl h
  · exact .inr ⟨g, t, cs, e, by omega, hB.below hb, hc⟩
theorem RowI.low (h : RowI w base A zs) {b2 : Nat} (h2 : b2 ≤ base) : RowI w b2 A zs := h.belowB (Below.refl _ _) h2
theorem RowI.take (h : RowI w base A zs) (k : Nat) : RowI w base A (zs.take k) := by
  rcases h with h | ⟨g, t, cs, e, hb', hB, hc⟩
  · exact .inl (by rw [h]; simp)
  · refine .inr ⟨g, t, cs, e, hb', hB, fun j z hz => hc j z ?_⟩
    rw [List.getElem?_take] at hz
    split at hz
    · exact hz
    · cases hz
theorem RowI.of_own {n c : Nat} (h : OwnI w base (.slice A n c) zs) : RowI w base A zs := by
  rcases h.2 with ⟨_, hn⟩ | ⟨g, cap, cur, hv, hbg, hg, hnc, hcm, hcs, htake⟩
  · exact .inl (List.eq_nil_of_length_eq_zero hn)
  · injection hv with hA _ _
    refine .inr ⟨g, _, cur, hA, hbg, hg, fun j z hz => ?_⟩
    have hlt := (List.getElem?_eq_some_iff.1 hz).1
    have : (zs.map cI)[j]? = some (cI z) := by rw [List.getElem?_map, hz]; rfl
    rw [← htake, List.getElem?_take, if_pos (by omega)] at this
    rw [← this]
    simp
/-- What a store into the row wants and leaves. -/
theorem RowI.store (h : RowI w base A zs) {k : Nat} (hk : k < zs.length) : ∃ g, A = some ⟨g, 0, none⟩ ∧ base ≤ g ∧ g < w.heap.size ∧ w.cell? ⟨g, k, none⟩ = some (.int .i64 zs[k]) ∧ w.frozen? ⟨g, k, none⟩ = false ∧
    ∀ z, RowI (w.setCell ⟨g, k, none⟩ (.int .i64 z)) base A (zs.set k z) := by
  rcases h with h | ⟨g, t, cs, e, hb', hB, hc⟩
  · subst h; simp at hk
  · have h1 := hc k _ (List.getElem?_eq_getElem hk)
    have hlt : k < cs.size := (Array.getElem?_eq_some_iff.1 h1).1
    refine ⟨g, e, hb', hB.lt, by rw [hB.cell]; exact h1, hB.frozen k, fun z => .inr ⟨g, t, _, e, hb', hB.set_ k _, fun j y hy => ?_⟩⟩
    rw [Array.getElem?_setIfInBounds]
    rw [List.getElem?_set] at hy
    split at hy
    · rename_i hkj
      subst hkj
      injection hy with hy
      subst hy
      rw [if_pos rfl, if_pos hlt]
      rfl
    · rename_i hkj
      rw [if_neg hkj]
      exact hc j y hy
theorem below_store {w w' : World} {B g k : Nat} (h : Below B w w') (hg : B ≤ g) (u : Value) : Below B w (w'.setCell ⟨g, k, none⟩ u) :=
  ⟨h.os, h.tape, h.output, by simpa [World.setCell] using h.size, fun i hi => (Below.heap_setCell w' ⟨g, k, none⟩ u i (by rintro rfl; omega)).trans (h.block i hi)⟩
end

theorem wpList_makeI {w : World} {ops : Array Oper} {rest : List Oper} {o : Oper} {a : Act} {Q : Exit → Act → World → Prop} (hgd : o.guard = none) (l c : Operand) (hop : o.op = Op.makeSlice 118 l c) (base n : Nat) (hl : a.eval l = .int .i64 (n : Int)) (hc : a.eval c = .int .i64 (n : Int)) (hn : n ≤ big) (hb : base ≤ w.heap.size)
    (h : ∀ w', OwnI w' base (.slice (some ⟨w.heap.size, 0, none⟩) n n) (List.replicate n 0) → Below w.heap.size w w' → wpList Tryd.prog ops Q rest (a.put o.dst (.slice (some ⟨w.heap.size, 0, none⟩) n n)) w') :
    wpList Tryd.prog ops Q (o :: rest) a w := by
  obtain ⟨i, hi, hz0, hz1, hz2⟩ := info_parts infoI
  refine wpList_make_full w hgd l c _ hop base _ i _ 1 Tryd.underlying118 hi hz0 hz1 .i64 .i64 n n n hl hc rfl rfl (by rw [hz2]; unfold big at hn; omega) (by unfold big at hn; unfold maxLen; omega) hb fun w' h1 h2 => h w' ?_ ⟨h2.os, h2.tape, h2.output, h2.size, fun k hk => h2.block k hk (by simp)⟩
  unfold OwnI
  simp only [List.length_replicate, List.map_replicate]
  have e : (madeCells (Value.int .i64 0).cells (n * 1)).toList = List.replicate n (cI 0) := by
    rw [Nat.mul_one]; exact toList_madeCells_one _ _
  rw [e] at h1
  exact h1
end Go.Proofs.YthkeoimjjgmppaaDoor

/- A row of bytes in a block of one's own. -/
namespace Go.Proofs.YthkeoimjjgmppaaDoor
open Go.RowKit
set_option linter.unusedVariables false

/-- The bytes zs at A, at the head of a block that is base or later; more may stand behind them. -/
def RowB (w : World) (base : Nat) (A : Option Addr) (zs : List UInt8) : Prop :=
  zs = [] ∨ ∃ g t cs, A = some ⟨g, 0, none⟩ ∧ base ≤ g ∧ Blk w g t cs ∧ ∀ (j : Nat) z, zs[j]? = some z → cs[j]? = some (cB z)
section
variable {w w' : World} {base : Nat} {A : Option Addr} {zs : List UInt8}
theorem RowB.nil : RowB w base A [] := .inl rfl
theorem RowB.rd (h : RowB w base A zs) : RdB w (fun b => base ≤ b) A zs := by
  refine ⟨by simp, fun hn => ?_⟩
  rcases h with rfl | ⟨g, t, cs, rfl, hb, hB, hc⟩
  · simp at hn
  · refine ⟨_, rfl, hb, fun j u hu => ?_⟩
    rw [List.getElem?_map] at hu
    obtain ⟨z, hz, rfl⟩ := Option.map_eq_some_iff.1 hu
    rw [add_head, hB.cell]
    exact hc j z hz
theorem RowB.below (h : RowB w base A zs) (hb : Below w.heap.size w w') : RowB w' base A zs := by
  rcases h with h | ⟨g, t, cs, e, hb', hB, hc⟩
  · exact .inl h
  · exact .inr ⟨g, t, cs, e, hb', hB.below hb, hc⟩
theorem RowB.belowB (h : RowB w base A zs) (hb : Below w.heap.size w w') {b2 : Nat} (h2 : b2 ≤ base) : RowB w' b2 A zs := by
  rcases h with h | ⟨g, t, cs, e, hb', hB, hc⟩
  · exact .inl h
  · exact .inr ⟨g, t, cs, e, by omega, hB.below hb, hc⟩
theorem RowB.low (h : RowB w base A zs) {b2 : Nat} (h2 : b2 ≤ base) : RowB w b2 A zs := h.belowB (Below.refl _ _) h2
theorem RowB.take (h : RowB w base A zs) (k : Nat) : RowB w base A (zs.take k) := by
  rcases h with h | ⟨g, t, cs, e, hb', hB, hc⟩
  · exact .inl (by rw [h]; simp)
  · refine .inr ⟨g, t, cs, e, hb', hB, fun j z hz => hc j z ?_⟩
    rw [List.getElem?_take] at hz
    split at hz
    · exact hz
    · cases hz
theorem RowB.of_own {n c : Nat} (h : OwnB w base (.slice A n c) zs) : RowB w base A zs := by
  rcases h.2 with ⟨_, hn⟩ | ⟨g, cap, cur, hv, hbg, hg, hnc, hcm, hcs, htake⟩
  · exact .inl (List.eq_nil_of_length_eq_zero hn)
  · injection hv with hA _ _
    refine .inr ⟨g, _, cur, hA, hbg, hg, fun j z hz => ?_⟩
    have hlt := (List.getElem?_eq_some_iff.1 hz).1
    have : (zs.map cB)[j]? = some (cB z) := by rw [List.getElem?_map, hz]; rfl
    rw [← htake, List.getElem?_take, if_pos (by omega)] at this
    rw [← this]
    simp
/-- What a store into the row wants and leaves. -/
theorem RowB.store (h : RowB w base A zs) {k : Nat} (hk : k < zs.length) : ∃ g, A = some ⟨g, 0, none⟩ ∧ base ≤ g ∧ g < w.heap.size ∧ w.cell? ⟨g, k, none⟩ = some (.int .u8 (zs[k].toNat : Int)) ∧ w.frozen? ⟨g, k, none⟩ = false ∧
    ∀ z, RowB (w.setCell ⟨g, k, none⟩ (.int .u8 (z.toNat : Int))) base A (zs.set k z) := by
  rcases h with h | ⟨g, t, cs, e, hb', hB, hc⟩
  · subst h; simp at hk
  · have h1 := hc k _ (List.getElem?_eq_getElem hk)
    have hlt : k < cs.size := (Array.getElem?_eq_some_iff.1 h1).1
    refine ⟨g, e, hb', hB.lt, by rw [hB.cell]; exact h1, hB.frozen k, fun z => .inr ⟨g, t, _, e, hb', hB.set_ k _, fun j y hy => ?_⟩⟩
    rw [Array.getElem?_setIfInBounds]
    rw [List.getElem?_set] at hy
    split at hy
    · rename_i hkj
      subst hkj
      injection hy with hy
      subst hy
      rw [if_pos rfl, if_pos hlt]
      rfl
    · rename_i hkj
      rw [if_neg hkj]
      exact hc j y hy
end
end Go.Proofs.YthkeoimjjgmppaaDoor
