/- Words for memory that all proofs of this seat share: a slice that reads as a list of cells, bytes or numbers; a block known whole; what changes and what stays; make and append and conversions as laws over these words. No program. -/
import Derived.WalkKit
import Derived.KernelRfl
import Derived.Lib.Hide
import Derived.WalkSpells
import Derived.WalkLawsBesides
import Derived.BigQuiet
import Derived.Deep.QuietTactic
import Derived.Deep.AppendLies
import Derived.Maps.AppendAt
import Derived.Laws.IdiomStrings
import Derived.Laws.CopyOwn
namespace Go.Proofs.Ytpfbiamgnmbhnaa
open Go.RowKit

theorem block_of_add (a : Addr) (n : Nat) : (a.add n).block = a.block := by unfold Addr.add; split <;> rfl
theorem add_of_add (a : Addr) (i j : Nat) : (a.add i).add j = a.add (i + j) := by
  unfold Addr.add
  by_cases hi : i = 0 <;> by_cases hj : j = 0 <;> simp [hi, hj, Nat.add_assoc]
theorem add_zero_ (a : Addr) : a.add 0 = a := by simp [Addr.add]
theorem add_head (g j : Nat) : (⟨g, 0, none⟩ : Addr).add j = ⟨g, j, none⟩ := by unfold Addr.add; split <;> simp_all

section
variable {P : Program} {w : World}
@[go_sem high] theorem run_max_mm (ts : Array TypeId) (t : TypeId) (k k' : IntKind) (x y : Int) : (Builtin.max_ ts t #[.int k x, .int k' y]).run P w = .ok (.int k (max x y)) w := by
  rw [run_max_int2]; congr 2; split <;> omega
@[go_sem high] theorem run_min_mm (ts : Array TypeId) (t : TypeId) (k k' : IntKind) (x y : Int) : (Builtin.min_ ts t #[.int k x, .int k' y]).run P w = .ok (.int k (min x y)) w := by
  rw [run_min_int2]; congr 2; split <;> omega
end

/-- Where a cut 'x[l:..]' begins: at a cut at the very end the address stays. -/
def cutA (a : Option Addr) (l m s : Nat) : Option Addr := if m = l then a else a.map (·.add (l * s))
@[go_sem ↓ high] theorem sliced_cut (a : Option Addr) (l h m s : Nat) : sliced a l h m s = .slice (cutA a l m s) (h - l) (m - l) := rfl
@[go_sem] theorem cutA_zero (a : Option Addr) (m s : Nat) : cutA a 0 m s = a := by
  unfold cutA; split
  · rfl
  · cases a <;> simp [Addr.add]

/-! ### what changes -/
/-- Every block that was there, but for those of X, is as it was. -/
structure Mod (X : Nat → Prop) (w w' : World) : Prop where
  os : w'.os = w.os
  tape : w'.tape = w.tape
  output : w'.output = w.output
  size : w.heap.size ≤ w'.heap.size
  block : ∀ k, k < w.heap.size → ¬ X k → w'.heap[k]? = w.heap[k]?

section
variable {X Y : Nat → Prop} {a b c w w' : World}
theorem Mod.refl (X : Nat → Prop) (w : World) : Mod X w w := ⟨rfl, rfl, rfl, Nat.le_refl _, fun _ _ _ => rfl⟩
theorem Mod.trans (h : Mod X a b) (k : Mod X b c) : Mod X a c :=
  ⟨k.os.trans h.os, k.tape.trans h.tape, k.output.trans h.output, Nat.le_trans h.size k.size, fun i hi hx => (k.block i (Nat.lt_of_lt_of_le hi h.size) hx).trans (h.block i hi hx)⟩
theorem Mod.mono (h : Mod X a b) (hm : ∀ k, k < a.heap.size → X k → Y k) : Mod Y a b := ⟨h.os, h.tape, h.output, h.size, fun i hi hx => h.block i hi (fun hX => hx (hm i hi hX))⟩
theorem Mod.drew (h : Mod X a b) : Mod X a b.drew := ⟨h.os, h.tape, h.output, h.size, h.block⟩
theorem Mod.drewN (h : Mod X a b) (n : Nat) : Mod X a (b.drewN n) := ⟨h.os, h.tape, h.output, h.size, h.block⟩
theorem Mod.alloc (h : Mod X a b) (o : Obj) : Mod X a (b.alloc o) :=
  ⟨h.os, h.tape, h.output, Nat.le_trans h.size (by simp), fun i hi hx => (Below.heap_alloc b o i (Nat.lt_of_lt_of_le hi h.size)).trans (h.block i hi hx)⟩
theorem Mod.setCell (h : Mod X a b) {p : Addr} (hp : X p.block ∨ a.heap.size ≤ p.block) (u : Value) : Mod X a (b.setCell p u) :=
  ⟨h.os, h.tape, h.output, by simpa [World.setCell] using h.size, fun i hi hx => (Below.heap_setCell b p u i (by
    rintro rfl
    rcases hp with hp | hp
    · exact hx hp
    · omega)).trans (h.block i hi hx)⟩
theorem Mod.of_below (h : Below a.heap.size a b) (X : Nat → Prop) : Mod X a b := ⟨h.os, h.tape, h.output, h.size, fun i hi _ => h.block i hi⟩
theorem Mod.below (h : Mod X a b) {B : Nat} (hB : B ≤ a.heap.size) (hx : ∀ k, k < B → ¬ X k) : Below B a b := ⟨h.os, h.tape, h.output, h.size, fun i hi => h.block i (by omega) (hx i hi)⟩
theorem Mod.of_grown {row : Option Nat} (h : a.grownBy b row) (hr : ∀ k, row = some k → X k ∨ a.heap.size ≤ k) : Mod X a b :=
  ⟨h.os, h.tape, h.output, h.size, fun i hi hx => h.block i hi (by
    intro e
    rcases hr i e.symm with hp | hp
    · exact hx hp
    · omega)⟩
/-- One more step, whose set is put in the words of the first. -/
theorem Mod.then_ (h : Mod X a b) (k : Mod Y b c) (hm : ∀ i, i < a.heap.size → Y i → X i) : Mod X a c :=
  ⟨k.os.trans h.os, k.tape.trans h.tape, k.output.trans h.output, Nat.le_trans h.size k.size, fun i hi hx => (k.block i (Nat.lt_of_lt_of_le hi h.size) (fun hy => hx (hm i hi hy))).trans (h.block i hi hx)⟩
theorem Mod.thenB (h : Mod X a b) (k : Below b.heap.size b c) : Mod X a c := h.then_ (Mod.of_below k (fun _ => False)) (fun _ _ h => h.elim)
theorem _root_.Go.RowKit.Below.thenM {B : Nat} (h : Below B a b) (k : Mod Y b c) (hB : B ≤ b.heap.size) (hm : ∀ i, i < B → ¬ Y i) : Below B a c := h.trans (k.below hB hm)
theorem _root_.Go.RowKit.Below.thenB {B : Nat} (h : Below B a b) (k : Below b.heap.size b c) (hB : B ≤ b.heap.size) : Below B a c := h.trans (k.mono hB)
theorem _root_.Go.RowKit.Below.thenB' (h : Below a.heap.size a b) (k : Below b.heap.size b c) : Below a.heap.size a c := h.trans (k.mono h.size)
theorem below_drewN {B : Nat} (h : Below B a w) (n : Nat) : Below B a (w.drewN n) := ⟨h.os, h.tape, h.output, h.size, h.block⟩
end

/-! ### a slice that reads -/
/-- The slice of n elements of 'size' cells each at A holds the cells xs, in a block of D (asked where there is an element). -/
def Rd (w : World) (D : Nat → Prop) (size : Nat) (A : Option Addr) (n : Nat) (xs : List Value) : Prop :=
  xs.length = n * size ∧ (0 < n → ∃ ad, A = some ad ∧ D ad.block ∧ ∀ j u, xs[j]? = some u → w.cell? (ad.add j) = some u)

section
variable {w w' : World} {D D' : Nat → Prop} {size n : Nat} {A : Option Addr} {xs : List Value}
theorem Rd.none_ : Rd w D size A 0 [] := ⟨by simp, fun h => absurd h (by omega)⟩
theorem Rd.imp (h : Rd w D size A n xs) (hd : ∀ b, b < w.heap.size → D b → D' b) (hs : 0 < size) : Rd w D' size A n xs :=
  ⟨h.1, fun hn => by
    obtain ⟨ad, e, hb, hc⟩ := h.2 hn
    have hp : 0 < n * size := Nat.mul_pos hn hs
    have h0 := hc 0 (xs[0]'(by rw [h.1]; exact hp)) (List.getElem?_eq_getElem _)
    exact ⟨ad, e, hd _ (by have := World.block_lt_of_cell? w _ h0; rwa [block_of_add] at this) hb, hc⟩⟩
theorem Rd.keep (h : Rd w D size A n xs) (hk : ∀ b, b < w.heap.size → D b → w'.heap[b]? = w.heap[b]?) : Rd w' D size A n xs :=
  ⟨h.1, fun hn => by
    obtain ⟨ad, e, hb, hc⟩ := h.2 hn
    refine ⟨ad, e, hb, fun j u hu => ?_⟩
    have h1 := hc j u hu
    have hlt := World.block_lt_of_cell? w _ h1
    rw [World.cell?_of_block (w := w) (hk _ hlt (by rw [block_of_add]; exact hb))]
    exact h1⟩
theorem Rd.below (h : Rd w D size A n xs) (hb : Below w.heap.size w w') : Rd w' D size A n xs := h.keep fun b hlt _ => hb.block b hlt
theorem Rd.belowB {B : Nat} (h : Rd w D size A n xs) (hb : Below B w w') (hd : ∀ b, D b → b < B) : Rd w' D size A n xs := h.keep fun b _ hD => hb.block b (hd b hD)
theorem Rd.mod {X : Nat → Prop} (h : Rd w D size A n xs) (hb : Mod X w w') (hd : ∀ b, D b → ¬ X b) : Rd w' D size A n xs := h.keep fun b hlt hD => hb.block b hlt (hd b hD)
theorem Rd.drew (h : Rd w D size A n xs) : Rd w.drew D size A n xs := h
theorem Rd.drewN (h : Rd w D size A n xs) (k : Nat) : Rd (w.drewN k) D size A n xs := h
theorem Rd.alloc (h : Rd w D size A n xs) (o : Obj) : Rd (w.alloc o) D size A n xs := h.keep fun b hlt _ => Below.heap_alloc w o b hlt
theorem Rd.setCell (h : Rd w D size A n xs) {p : Addr} (hp : ¬ D p.block) (u : Value) : Rd (w.setCell p u) D size A n xs :=
  h.keep fun b _ hD => Below.heap_setCell w p u b (by rintro rfl; exact hp hD)
theorem Rd.cut (h : Rd w D size A n xs) {k cap : Nat} (hk : k ≤ n) (hc : n ≤ cap) :
    Rd w D size (cutA A k cap size) (n - k) (xs.drop (k * size)) := by
  refine ⟨by rw [List.length_drop, h.1, Nat.sub_mul], fun hn => ?_⟩
  obtain ⟨ad, rfl, hb, hcell⟩ := h.2 (by omega)
  unfold cutA
  rw [if_neg (by omega)]
  refine ⟨ad.add (k * size), rfl, by rw [block_of_add]; exact hb, fun j u hu => ?_⟩
  rw [add_of_add]
  exact hcell _ u (by rw [← hu, List.getElem?_drop])
theorem Rd.take (h : Rd w D size A n xs) {k : Nat} (hk : k ≤ n) : Rd w D size A k (xs.take (k * size)) := by
  refine ⟨by rw [List.length_take, h.1]; exact Nat.min_eq_left (Nat.mul_le_mul_right _ hk), fun hn => ?_⟩
  obtain ⟨ad, rfl, hb, hcell⟩ := h.2 (by omega)
  refine ⟨ad, rfl, hb, fun j u hu => hcell j u ?_⟩
  rw [List.getElem?_take] at hu
  split at hu
  · exact hu
  · cases hu
theorem Rd.of_own {base : Nat} {e : TypeId} {c : Nat} (h : w.ownsRow base e size (.slice A n c) n xs) : Rd w (fun b => base ≤ b ∧ b < w.heap.size ∧ (Value.slice A n c).ownBlock = some b) size A n xs := by
  refine ⟨h.1, fun hn => ?_⟩
  obtain ⟨g, cap, hv, _, hlt⟩ := h.form hn
  have hA : A = some ⟨g, 0, none⟩ := by injection hv
  subst hA
  exact ⟨_, rfl, ⟨(h.lt g rfl).1, hlt, rfl⟩, h.cells (g := g) rfl⟩
end

/-! ### bytes and numbers -/
def cB (b : UInt8) : Value := .int .u8 (b.toNat : Int)
def cI (z : Int) : Value := .int .i64 z
def RdB (w : World) (D : Nat → Prop) (A : Option Addr) (bs : List UInt8) : Prop := Rd w D 1 A bs.length (bs.map cB)
def RdI (w : World) (D : Nat → Prop) (A : Option Addr) (zs : List Int) : Prop := Rd w D 1 A zs.length (zs.map cI)
def OwnB (w : World) (base : Nat) (v : Value) (bs : List UInt8) : Prop := w.ownsRow base 5 1 v bs.length (bs.map cB)
def OwnI (w : World) (base : Nat) (v : Value) (zs : List Int) : Prop := w.ownsRow base 3 1 v zs.length (zs.map cI)
/-- A number that an int holds. -/
def I64 (z : Int) : Prop := -9223372036854775808 ≤ z ∧ z ≤ 9223372036854775807

theorem cB_one (bs : List UInt8) : ∀ u ∈ bs.map cB, u.oneCell' = true := by
  intro u hu; obtain ⟨b, _, rfl⟩ := List.mem_map.1 hu; rfl
theorem cI_one (zs : List Int) : ∀ u ∈ zs.map cI, u.oneCell' = true := by
  intro u hu; obtain ⟨b, _, rfl⟩ := List.mem_map.1 hu; rfl

section
variable {w w' : World} {D D' : Nat → Prop} {A : Option Addr} {bs : List UInt8} {zs : List Int} {base : Nat} {v : Value} {c : Nat}
theorem RdB.at_ (h : RdB w D A bs) {k : Nat} (hk : k < bs.length) : ∃ ad, A = some ad ∧ D ad.block ∧ w.cell? (ad.add k) = some (.int .u8 ((bs[k]).toNat : Int)) := by
  obtain ⟨ad, e, hb, hc⟩ := h.2 (by omega)
  exact ⟨ad, e, hb, hc k _ (by simp [hk, cB])⟩
theorem RdI.at_ (h : RdI w D A zs) {k : Nat} (hk : k < zs.length) : ∃ ad, A = some ad ∧ D ad.block ∧ w.cell? (ad.add k) = some (.int .i64 (zs[k])) := by
  obtain ⟨ad, e, hb, hc⟩ := h.2 (by omega)
  exact ⟨ad, e, hb, hc k _ (by simp [hk, cI])⟩
theorem RdB.below (h : RdB w D A bs) (hb : Below w.heap.size w w') : RdB w' D A bs := Rd.below h hb
theorem RdI.below (h : RdI w D A zs) (hb : Below w.heap.size w w') : RdI w' D A zs := Rd.below h hb
theorem RdB.nil : RdB w D A [] := Rd.none_
theorem RdI.nil : RdI w D A [] := Rd.none_
theorem RdB.take (h : RdB w D A bs) {k : Nat} (hk : k ≤ bs.length) : RdB w D A (bs.take k) := by
  have := Rd.take h hk
  simp only [Nat.mul_one] at this
  unfold RdB
  rw [List.length_take, Nat.min_eq_left hk, List.map_take]
  exact this
theorem RdI.take (h : RdI w D A zs) {k : Nat} (hk : k ≤ zs.length) : RdI w D A (zs.take k) := by
  have := Rd.take h hk
  simp only [Nat.mul_one] at this
  unfold RdI
  rw [List.length_take, Nat.min_eq_left hk, List.map_take]
  exact this
theorem RdB.drop (h : RdB w D A bs) {k cap : Nat} (hk : k ≤ bs.length) (hc : bs.length ≤ cap) : RdB w D (cutA A k cap 1) (bs.drop k) := by
  have := Rd.cut (cap := cap) h hk hc
  simp only [Nat.mul_one] at this
  unfold RdB
  rw [List.length_drop, List.map_drop]
  exact this
theorem RdI.drop (h : RdI w D A zs) {k cap : Nat} (hk : k ≤ zs.length) (hc : zs.length ≤ cap) : RdI w D (cutA A k cap 1) (zs.drop k) := by
  have := Rd.cut (cap := cap) h hk hc
  simp only [Nat.mul_one] at this
  unfold RdI
  rw [List.length_drop, List.map_drop]
  exact this
theorem own_form {e : TypeId} {size n : Nat} {xs : List Value} (h : w.ownsRow base e size v n xs) : ∃ A c, v = .slice A n c ∧ n ≤ c ∧ c ≤ maxLen := by
  rcases h.2 with ⟨rfl, rfl⟩ | ⟨g, cap, cur, rfl, _, _, hn, hm, _⟩
  · exact ⟨none, 0, rfl, Nat.le_refl _, by simp [maxLen]⟩
  · exact ⟨_, cap, rfl, hn, hm⟩
theorem OwnB.form (h : OwnB w base v bs) : ∃ A c, v = .slice A bs.length c ∧ bs.length ≤ c ∧ c ≤ maxLen := own_form h
theorem OwnI.form (h : OwnI w base v zs) : ∃ A c, v = .slice A zs.length c ∧ zs.length ≤ c ∧ c ≤ maxLen := own_form h
theorem OwnB.rd (h : OwnB w base (.slice A bs.length c) bs) : RdB w (fun b => base ≤ b ∧ b < w.heap.size ∧ (Value.slice A bs.length c).ownBlock = some b) A bs := Rd.of_own h
theorem OwnI.rd (h : OwnI w base (.slice A zs.length c) zs) : RdI w (fun b => base ≤ b ∧ b < w.heap.size ∧ (Value.slice A zs.length c).ownBlock = some b) A zs := Rd.of_own h
theorem OwnB.rdG (h : OwnB w base (.slice A bs.length c) bs) : RdB w (base ≤ ·) A bs := Rd.imp h.rd (fun _ _ h => h.1) (by omega)
theorem OwnI.rdG (h : OwnI w base (.slice A zs.length c) zs) : RdI w (base ≤ ·) A zs := Rd.imp h.rd (fun _ _ h => h.1) (by omega)
theorem own_below {e : TypeId} {size n : Nat} {xs : List Value} (h : w.ownsRow base e size v n xs) (hb : Below w.heap.size w w') : w'.ownsRow base e size v n xs :=
  h.kept (row := none) ⟨hb.os, hb.tape, hb.output, hb.size, fun k hk _ => hb.block k hk⟩ (by cases v.ownBlock <;> simp)
theorem OwnB.below (h : OwnB w base v bs) (hb : Below w.heap.size w w') : OwnB w' base v bs := own_below h hb
theorem OwnI.below (h : OwnI w base v zs) (hb : Below w.heap.size w w') : OwnI w' base v zs := own_below h hb
theorem own_base {base' : Nat} {e : TypeId} {size n : Nat} {xs : List Value} (h : w.ownsRow base e size v n xs) (hb : base' ≤ base) : w.ownsRow base' e size v n xs := by
  refine ⟨h.1, ?_⟩
  rcases h.2 with h0 | ⟨g, cap, cur, hv, hg, r⟩
  · exact .inl h0
  · exact .inr ⟨g, cap, cur, hv, by omega, r⟩
theorem OwnB.low {base' : Nat} (h : OwnB w base v bs) (hb : base' ≤ base) : OwnB w base' v bs := own_base h hb
theorem OwnI.low {base' : Nat} (h : OwnI w base v zs) (hb : base' ≤ base) : OwnI w base' v zs := own_base h hb
theorem OwnB.nil : OwnB w base (.slice none 0 0) [] := World.ownsRow_nil _ _ _ _
theorem OwnI.nil : OwnI w base (.slice none 0 0) [] := World.ownsRow_nil _ _ _ _
end

theorem below_app {B base n : Nat} {a w w' : World} {e : TypeId} {size : Nat} {v : Value} {xs : List Value} (h : Below B a w) (hown : w.ownsRow base e size v n xs) (hg : w.grownBy w' v.ownBlock) (hB : B ≤ base) (hs : B ≤ w.heap.size) : Below B a w' :=
  h.grown hg hs fun k hk => by have := (hown.lt k hk).1; omega
theorem own_lit (w : World) (e : TypeId) (cs : List Value) (base : Nat) (hb : base ≤ w.heap.size) (hm : cs.length ≤ maxLen) :
    (w.alloc (.cells cs.toArray e)).ownsRow base e 1 (.slice (some ⟨w.heap.size, 0, none⟩) cs.length cs.length) cs.length cs := by
  have := World.ownsRow_lit (base := base) (e := e) (size := 1) w cs.toArray cs.length hb hm (by simp)
  simpa using this

/-- From v in w to v' in w': only v's own row is written, and v' lies there or in a new block. -/
structure Ext (w w' : World) (v v' : Value) : Prop where
  grown : w.grownBy w' v.ownBlock
  lies : v'.ownBlock = v.ownBlock ∨ ∀ k, v'.ownBlock = some k → w.heap.size ≤ k
section
variable {a b c : World} {u v x : Value}
theorem Ext.refl (w : World) (v : Value) : Ext w w v v := ⟨World.grownBy.refl _ _, .inl rfl⟩
theorem Ext.trans (h : Ext a b u v) (k : Ext b c v x) : Ext a c u x := by
  refine ⟨⟨k.grown.os.trans h.grown.os, k.grown.tape.trans h.grown.tape, k.grown.output.trans h.grown.output, Nat.le_trans h.grown.size k.grown.size, fun i hi hx => ?_⟩, ?_⟩
  · refine (k.grown.block i (Nat.lt_of_lt_of_le hi h.grown.size) ?_).trans (h.grown.block i hi hx)
    intro e
    rcases h.lies with h1 | h1
    · exact hx (e.trans h1)
    · have := h1 i e.symm; omega
  · rcases k.lies with k1 | k1
    · rcases h.lies with h1 | h1
      · exact .inl (k1.trans h1)
      · exact .inr fun i hi => h1 i (by rw [← k1]; exact hi)
    · exact .inr fun i hi => Nat.le_trans h.grown.size (k1 i hi)
theorem Ext.pre (h : Below a.heap.size a b) (k : Ext b c v x) : Ext a c v x :=
  ⟨⟨k.grown.os.trans h.os, k.grown.tape.trans h.tape, k.grown.output.trans h.output, Nat.le_trans h.size k.grown.size, fun i hi hx => (k.grown.block i (Nat.lt_of_lt_of_le hi h.size) hx).trans (h.block i hi)⟩,
    k.lies.imp id fun f i hi => Nat.le_trans h.size (f i hi)⟩
theorem Ext.post (h : Ext a b v x) (k : Below b.heap.size b c) : Ext a c v x :=
  ⟨⟨k.os.trans h.grown.os, k.tape.trans h.grown.tape, k.output.trans h.grown.output, Nat.le_trans h.grown.size k.size, fun i hi hx => (k.block i (Nat.lt_of_lt_of_le hi h.grown.size)).trans (h.grown.block i hi hx)⟩, h.lies⟩
theorem Ext.preAlloc {o : Obj} (k : Ext (a.alloc o) c v x) : Ext a c v x := Ext.pre ((Below.refl _ _).alloc (Nat.le_refl _) _) k
theorem Ext.below {B base n : Nat} {e : TypeId} {size : Nat} {xs : List Value} (k : Ext a c v x) (hown : a.ownsRow base e size v n xs) (hB : B ≤ base) (hs : B ≤ a.heap.size) : Below B a c :=
  below_app (Below.refl _ _) hown k.grown hB hs
theorem Ext.of_nil {n m : Nat} (h : Ext a c (.slice none n m) x) : Below a.heap.size a c := ⟨h.grown.os, h.grown.tape, h.grown.output, h.grown.size, fun i hi => h.grown.block i hi (by simp [Value.ownBlock])⟩
end

/-! ### conversions -/
def str (bs : List UInt8) : ByteArray := ⟨bs.toArray⟩
@[go_sem] theorem str_toList (bs : List UInt8) : (str bs).toList = bs := ByteArray.toList_mk bs
@[go_sem] theorem str_size (bs : List UInt8) : (str bs).size = bs.length := by simp [str, ByteArray.size]
theorem str_inj {a b : List UInt8} : str a = str b ↔ a = b := by
  constructor
  · intro h
    have := congrArg ByteArray.toList h
    rwa [str_toList, str_toList] at this
  · rintro rfl; rfl

section
variable {P : Program} {w : World} {D : Nat → Prop}
/-- string(b). -/
theorem run_str {A : Option Addr} {bs : List UInt8} (h : RdB w D A bs) (c : Nat) (src dst e : TypeId) (hs : P.underlying src = some (.slice e)) (he : P.underlying e = some (.int .u8)) (hd : P.underlying dst = some .string) :
    (convert src dst (.slice A bs.length c)).run P w = .ok (.string (str bs)) w := by
  by_cases hn : bs.length = 0
  · obtain rfl : bs = [] := List.eq_nil_of_length_eq_zero hn
    rw [run_convert_bytes_string w src dst e A _ c hs he hd]
    cases A with
    | none =>
      simp [Conv.bytesToString, Sem.run_pure, str]
      rfl
    | some a =>
      have hl := run_loadCells_list (P := P) w a [] (by simp)
      have := run_bytesToString (P := P) w a 0 c [] hl
      simp only [List.foldl_nil] at this
      exact this
  · obtain ⟨ad, rfl, _, _⟩ := h.2 (by omega)
    exact run_convert_bytes_back w src dst e ad c bs hs he hd (fun j hj => by
      obtain ⟨ad', he', _, hc⟩ := RdB.at_ h hj
      injection he' with he'
      subst he'
      exact hc)
end
end Go.Proofs.Ytpfbiamgnmbhnaa
