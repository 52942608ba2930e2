/- Parts of the proof, joined: Can Ab1 Ab2. -/
import Derived.Test.YthkeoimjjgmppaaDoorQa
import Derived.OrdersHeld
import Derived.RegionTactic
import Derived.Test.YthkeoimjjgmppaaDoorQb
import Derived.Shelf.Abstract
/- A region that draws its order, walked in ONE order: what reads alone is taken as soon as it may come up, and its value is shown to stand in every later world; what calls or makes memory comes alone. -/
namespace Go.Proofs.YthkeoimjjgmppaaDoor
open Go.RowKit
set_option linter.unusedVariables false

section
variable {P : Program} {ops : Array Oper} {Q : Exit → Act → World → Prop} {R : World → World → Prop}

theorem anyH_mono {md : Region.Mode} {S S' : World → Prop} (h : ∀ w, S' w → S w) : ∀ (fuel : Nat) (L : Array Bool) (a : Act) (w : World), wpAnyH P md ops Q S' fuel L a w → wpAnyH P md ops Q S fuel L a w
  | 0, _, _, _, hh => hh
  | fuel + 1, _, _, _, hh => ⟨hh.1, fun i hi => wpOp_mono (fun a' w' h' => ⟨h w' h'.1, anyH_mono h fuel _ a' w' h'.2⟩) (hh.2 i hi)⟩

def wpR (P : Program) (ops : Array Oper) (R : World → World → Prop) (Q : Exit → Act → World → Prop) (fuel : Nat) (L : Array Bool) (a : Act) (w : World) : Prop := wpAnyH P .any ops Q (R w) fuel L a w

/-- One of those that may come up comes up. -/
def Alt (P : Program) (ops : Array Oper) (R : World → World → Prop) (Q : Exit → Act → World → Prop) (fuel : Nat) (L : Array Bool) (a : Act) (w : World) (i : Nat) : Prop :=
  wpOp P ops Q i (fun a' w' => R w w' ∧ wpR P ops R Q fuel (L.setIfInBounds i true) a' w') a w

theorem r_start {id : Nat} {a : Act} {w : World} (hm : P.follows .mixedOrders = true) {n : Nat} {L : Array Bool} (hn : ops.size = n) (hL : Array.replicate n false = L) (h : wpR P ops R Q n L a w.drew) : (Code.region id ops true).wp P Q a w := by
  subst hn; subst hL
  exact wp_region_held hm h

variable {i fuel : Nat} {o : Oper} {v : Value} {L L' : Array Bool} {a a' : Act} {w : World}

theorem r_flt (hR : ∀ w, R w w) (i d : Nat) (L' : Array Bool) (ho : ops[i]? = some o) (hd : o.dst = some d) (hs : Region.noSelect ops = true) (hf : Region.free .any ops L i = true) (hr : (Region.ready .any ops L).contains i = true)
    (hQ : ∀ v c a w, Q (.panic c) (a.put (some d) v) w → Q (.panic c) a w) (hl : L.setIfInBounds i true = L') (hw : Region.wanted o (yielded ops a.tmps) = true)
    (h : ∃ v, (∀ W, R w W → (execOp a.eval o).run P W = .ok (.value v) W) ∧ wpR P ops R Q fuel L' (a.put (some d) v) w) : wpR P ops R Q (fuel + 1) L a w := by
  subst hl
  rw [← hd] at h hQ
  obtain ⟨v, hy, h⟩ := h
  exact wpAnyH_take ho hs hf hr (hQ v) (.inl ⟨hw, hy⟩) (hR w) h

theorem r_skip (hR : ∀ w, R w w) (i d : Nat) (L' : Array Bool) (ho : ops[i]? = some o) (hd : o.dst = some d) (hs : Region.noSelect ops = true) (hf : Region.free .any ops L i = true) (hr : (Region.ready .any ops L).contains i = true)
    (hQ : ∀ v c a w, Q (.panic c) (a.put (some d) v) w → Q (.panic c) a w) (hl : L.setIfInBounds i true = L') (hw : Region.wanted o (yielded ops a.tmps) = false)
    (h : wpR P ops R Q fuel L' (a.put (some d) undef) w) : wpR P ops R Q (fuel + 1) L a w := by
  subst hl
  rw [← hd] at h hQ
  exact wpAnyH_take ho hs hf hr (hQ undef) (.inr ⟨hw, rfl⟩) (hR w) h

theorem r_done (hr : Region.ready .any ops L = []) (h : Q .normal a w) : wpR P ops R Q fuel L a w := wpAnyH_done hr h _

theorem Alt.up (hT : ∀ a b c, R a b → R b c → R a c) (h : Alt P ops R Q fuel L a w i) :
    wpOp P ops Q i (fun a' w' => R w w' ∧ wpAnyH P Region.Mode.any ops Q (R w) fuel (L.setIfInBounds i true) a' w') a w :=
  wpOp_mono (fun a' w' ⟨h1, h2⟩ => ⟨h1, anyH_mono (fun w2 h3 => hT _ _ _ h1 h3) _ _ _ _ h2⟩) h

theorem r_one (hT : ∀ a b c, R a b → R b c → R a c) (i : Nat) (hr : Region.ready .any ops L = [i]) (h : Alt P ops R Q fuel L a w i) : wpR P ops R Q (fuel + 1) L a w :=
  wpAnyH_all hr (by simp) fun j hj => by
    obtain rfl : j = i := by simpa using hj
    exact h.up hT

theorem r_two (hT : ∀ a b c, R a b → R b c → R a c) (i j : Nat) (hr : Region.ready .any ops L = [i, j]) (h1 : Alt P ops R Q fuel L a w i) (h2 : Alt P ops R Q fuel L a w j) : wpR P ops R Q (fuel + 1) L a w :=
  wpAnyH_all hr (by simp) fun k hk => by
    rcases List.mem_cons.1 hk with rfl | hk
    · exact h1.up hT
    · obtain rfl : k = j := by simpa using hk
      exact h2.up hT

theorem alt_call (d : Nat) (L' : Array Bool) (ho : ops[i]? = some o) (hd : o.dst = some d) (hl : L.setIfInBounds i true = L') (hw : Region.wanted o (yielded ops a.tmps) = true) {f : FuncId} {args : Array Value}
    (hrun : (execOp a.eval o).run P w = .ok (.enter f args) w) (h : Calls P f args w fun e w' => ∃ v, e = .returned v ∧ R w w' ∧ wpR P ops R Q fuel L' (a.put (some d) v) w') : Alt P ops R Q fuel L a w i := by
  subst hl
  rw [← hd] at h
  unfold Alt wpOp
  simp only [ho, hw, if_true]
  refine .inl ?_
  unfold Oper.wp
  rw [hrun, Oper.upon_enter]
  exact h.mono fun e w' ⟨v, he, h1, h2⟩ => by
    subst he
    exact ⟨h1, h2⟩

theorem alt_val (d : Nat) (L' : Array Bool) (ho : ops[i]? = some o) (hd : o.dst = some d) (hl : L.setIfInBounds i true = L') (hw : Region.wanted o (yielded ops a.tmps) = true) {w' : World}
    (hrun : (execOp a.eval o).run P w = .ok (.value v) w') (h1 : R w w') (h : wpR P ops R Q fuel L' (a.put (some d) v) w') : Alt P ops R Q fuel L a w i := by
  subst hl
  rw [← hd] at h
  unfold Alt wpOp
  simp only [ho, hw, if_true]
  refine .inl ?_
  unfold Oper.wp
  rw [hrun, Oper.upon_value]
  exact ⟨h1, h⟩
end

/-- Only block g, and what is new, has turned. -/
def RG (g : Nat) (a b : World) : Prop := Mod (· = g) a b
theorem RG_refl (g : Nat) (w : World) : RG g w w := Mod.refl _ w
theorem RG_trans (g : Nat) (a b c : World) (h : RG g a b) (k : RG g b c) : RG g a c := Mod.trans h k
theorem RG.of_below {g : Nat} {a b : World} (h : Below a.heap.size a b) : RG g a b := Mod.of_below h _
/-- Nothing that was there has turned. -/
def RB (a b : World) : Prop := Below a.heap.size a b
theorem RB_refl (w : World) : RB w w := Below.refl _ w
theorem RB_trans (a b c : World) (h : RB a b) (k : RB b c) : RB a c := h.thenB' k
end Go.Proofs.YthkeoimjjgmppaaDoor

/- Images in memory; where a copy stands: the code and the document. -/
namespace Go.Proofs.YthkeoimjjgmppaaDoor
open Go.RowKit
set_option linter.unusedVariables false

/-- A copy, with the slice that holds its bytes. -/
structure CpV where
  id : Int
  A : Option Addr
  m : List UInt8
  c : Nat
/-- An image, with its slices. -/
structure ImV where
  DA : Option Addr
  d : List UInt8
  dc : Nat
  CA : Option Addr
  S : List CpV
  cc : Nat
  last : Int
def cpC (s : CpV) : List Value := [cI s.id, .slice s.A s.m.length s.c]
def imA (i : ImV) : Array Value := #[.slice i.DA i.d.length i.dc, .slice i.CA i.S.length i.cc, .int .i64 i.last]
def CpR (w : World) (D : Nat → Prop) (s : CpV) : Prop := RdB w D s.A s.m ∧ s.m.length ≤ s.c ∧ s.c ≤ 9223372036854775807
/-- An image reads. -/
structure ImR (w : World) (D : Nat → Prop) (i : ImV) : Prop where
  rd : RdB w D i.DA i.d
  dl : i.d.length ≤ i.dc
  dm : i.dc ≤ 9223372036854775807
  rS : RdL w D 2 cpC i.CA i.S
  sl : i.S.length ≤ i.cc
  sm : i.cc ≤ 9223372036854775807
  cp : ∀ s ∈ i.S, CpR w D s
theorem cpC_len (s : CpV) : (cpC s).length = 2 := rfl
theorem cpC_pos (s : CpV) : 0 < (cpC s).length := by rw [cpC_len]; decide
theorem cpC_one (s : CpV) : ∀ v ∈ cpC s, v.oneCell' = true := by
  intro v hv
  simp only [cpC, List.mem_cons, List.not_mem_nil, or_false] at hv
  rcases hv with rfl | rfl <;> rfl
section
variable {w w' : World} {D D' : Nat → Prop} {s : CpV} {i : ImV}
theorem CpR.below (h : CpR w D s) (hb : Below w.heap.size w w') : CpR w' D s := ⟨RdB.below h.1 hb, h.2⟩
theorem CpR.imp (h : CpR w D s) (hd : ∀ b, b < w.heap.size → D b → D' b) : CpR w D' s := ⟨Rd.imp h.1 hd (by decide), h.2⟩
theorem CpR.mod {X : Nat → Prop} (h : CpR w D s) (hb : Mod X w w') (hd : ∀ b, D b → ¬ X b) : CpR w' D s := ⟨Rd.mod h.1 hb hd, h.2⟩
theorem ImR.below (h : ImR w D i) (hb : Below w.heap.size w w') : ImR w' D i := ⟨RdB.below h.rd hb, h.dl, h.dm, RdL.below h.rS hb, h.sl, h.sm, fun s hs => (h.cp s hs).below hb⟩
theorem ImR.imp (h : ImR w D i) (hd : ∀ b, b < w.heap.size → D b → D' b) : ImR w D' i := ⟨Rd.imp h.rd hd (by decide), h.dl, h.dm, h.rS.imp cpC_pos hd, h.sl, h.sm, fun s hs => (h.cp s hs).imp hd⟩
theorem ImR.mod {X : Nat → Prop} (h : ImR w D i) (hb : Mod X w w') (hd : ∀ b, D b → ¬ X b) : ImR w' D i := ⟨Rd.mod h.rd hb hd, h.dl, h.dm, RdL.mod h.rS hb hd, h.sl, h.sm, fun s hs => (h.cp s hs).mod hb hd⟩
theorem RdL.cp {A : Option Addr} {L : List CpV} (h : RdL w D 2 cpC A L) {k : Nat} (hi : k < L.length) :
    ∃ ad, A = some ad ∧ w.cell? (ad.add (k * 2)) = some (.int .i64 L[k].id) ∧ w.cell? ⟨(ad.add (k * 2)).block, (ad.add (k * 2)).off + 1, none⟩ = some (.slice L[k].A L[k].m.length L[k].c) := by
  obtain ⟨ad, e, _, hc⟩ := h (by omega)
  have hL := List.getElem?_eq_getElem hi
  exact ⟨ad, e, hc k _ hL 0 _ rfl, by rw [← add_at _ _ 0]; exact hc k _ hL 1 _ rfl⟩
end
theorem imA_ok (i : ImV) : (imA i).all (·.oneCell') = true := by unfold imA; simp [Value.oneCell']
theorem imA_n (i : ImV) : (imA i).size = 3 := rfl
theorem infoIm : (Tryd.prog.info? 35).map (·.size) = some 3 := by kernel_rfl
theorem infoCp : (Tryd.prog.info? 71).map (fun i => (i.zero, i.size, i.bytes)) = some (some (.agg #[.int .i64 0, .slice none 0 0]), 2, 32) := by kernel_rfl

/-! ### plain images -/
/-- An image. -/
structure PI where
  d : List UInt8
  S : List (Int × List UInt8)
  last : Int
  deriving DecidableEq
def pureC (S : List CpV) : List (Int × List UInt8) := S.map fun s => (s.id, s.m)
def ImV.p (i : ImV) : PI := ⟨i.d, pureC i.S, i.last⟩
theorem pureC_len (S : List CpV) : (pureC S).length = S.length := by unfold pureC; simp
theorem pureC_at (S : List CpV) (k : Nat) (h : k < S.length) : (pureC S)[k]'(by rw [pureC_len]; exact h) = (S[k].id, S[k].m) := by unfold pureC; simp
def zeroI : PI := ⟨[], [], 0⟩
/-- A value that is an image. -/
def ImY (w : World) (v : Value) (p : PI) : Prop := ∃ i : ImV, v = .agg (imA i) ∧ ImR w (fun _ => True) i ∧ i.p = p
theorem ImY.below {w w' : World} {v : Value} {p : PI} (h : ImY w v p) (b : Below w.heap.size w w') : ImY w' v p := by
  obtain ⟨i, h1, h2, h3⟩ := h
  exact ⟨i, h1, h2.below b, h3⟩
theorem ImY.of {w : World} {D : Nat → Prop} {i : ImV} (h : ImR w D i) : ImY w (.agg (imA i)) i.p := ⟨i, rfl, h.imp fun _ _ _ => trivial, rfl⟩
theorem ImY.agg {w : World} {v : Value} {p : PI} (h : ImY w v p) : ∃ cs, v = .agg cs ∧ cs.size = 3 ∧ cs.all (·.oneCell') = true := by
  obtain ⟨i, h1, _⟩ := h
  exact ⟨_, h1, rfl, imA_ok i⟩
theorem zeroIm (w : World) (D : Nat → Prop) : ImR w D ⟨none, [], 0, none, [], 0, 0⟩ := ⟨RdB.nil, Nat.le_refl _, by show (0 : Nat) ≤ _; omega, fun h => by simp at h, Nat.le_refl _, by show (0 : Nat) ≤ _; omega, fun s hs => by simp at hs⟩
theorem zeroIY (w : World) : ImY w (.agg #[.slice none 0 0, .slice none 0 0, .int .i64 0]) zeroI := ImY.of (i := ⟨none, [], 0, none, [], 0, 0⟩) (zeroIm w fun _ => True)

/-! ### where a copy stands -/
def findAt : List Int → Int → Nat → Int
  | [], _, _ => -1
  | s :: r, id, k => if s = id then (k : Int) else findAt r id (k + 1)
def findO (ids : List Int) (id : Int) : Int := findAt ids id 0
theorem find_here {ids : List Int} {id : Int} {k : Nat} (hk : k < ids.length) (h : findAt (ids.drop k) id k = findO ids id) (he : ids[k] = id) : findO ids id = (k : Int) := by
  rw [List.drop_eq_getElem_cons hk, findAt, if_pos he] at h
  exact h.symm
theorem find_next {ids : List Int} {id : Int} {k : Nat} (hk : k < ids.length) (h : findAt (ids.drop k) id k = findO ids id) (he : ids[k] ≠ id) : findAt (ids.drop (k + 1)) id (k + 1) = findO ids id := by
  rw [List.drop_eq_getElem_cons hk, findAt, if_neg he] at h
  exact h
theorem find_end {ids : List Int} {id : Int} {k : Nat} (hk : ids.length ≤ k) (h : findAt (ids.drop k) id k = findO ids id) : findO ids id = -1 := by
  rw [List.drop_eq_nil_of_le hk] at h
  exact h.symm
theorem findAt_bd (id : Int) : ∀ (l : List Int) (k : Nat), findAt l id k = -1 ∨ ((k : Int) ≤ findAt l id k ∧ findAt l id k < (k : Int) + l.length)
  | [], k => .inl rfl
  | s :: l, k => by
    rw [findAt]
    split
    · right; rw [List.length_cons]; omega
    · rcases findAt_bd id l (k + 1) with h | h
      · exact .inl h
      · right; rw [List.length_cons]; omega
theorem findO_bd (l : List Int) (id : Int) : findO l id = -1 ∨ (0 ≤ findO l id ∧ findO l id < l.length) := by
  have := findAt_bd id l 0
  unfold findO
  omega
def idsO (S : List CpV) : List Int := S.map fun s => s.id
def idsP (S : List (Int × List UInt8)) : List Int := S.map fun s => s.1
theorem ids_p (S : List CpV) : idsO S = idsP (pureC S) := by unfold idsO idsP pureC; rw [List.map_map]; rfl
theorem ids_len (S : List CpV) : (idsO S).length = S.length := by unfold idsO; simp
theorem ids_at (S : List CpV) (k : Nat) (h : k < S.length) : (idsO S)[k]'(by rw [ids_len]; exact h) = S[k].id := by unfold idsO; simp

set_option maxRecDepth 100000 in
theorem findclo_any (bx : Nat) (id : Int) (s : CpV) (w : World) (hB : Blk w bx 3 #[.int .i64 id]) :
    Calls Tryd.prog 74 #[.agg #[.int .i64 s.id, .slice s.A s.m.length s.c], .pointer (some ⟨bx, 0, none⟩)] w fun e w' => e = .returned (.bool (s.id == id)) ∧ Below w.heap.size w w' := by
  have hb := below_new w (.cells #[.int .i64 s.id, .slice s.A s.m.length s.c] 71)
  have c0 := (hB.below hb).cell 0
  simp at c0
  go_enter Tryd.func74, Tryd.ntmps74
  go_wp2_with fail
  go_ret
  exact ⟨rfl, hb⟩

set_option maxHeartbeats 4000000 in
set_option maxRecDepth 100000 in
theorem cpIndex_any (bx : Nat) (id : Int) (D : Nat → Prop) (A : Option Addr) (c : Nat) (L : List CpV) (w : World) (hB : Blk w bx 3 #[.int .i64 id]) (h : RdL w D 2 cpC A L) (hl : L.length ≤ 9223372036854775807) :
    Calls Tryd.prog 73 #[.slice A L.length c, .func (.func 74) #[] #[.pointer (some ⟨bx, 0, none⟩)]] w fun e w' => e = .returned (.int .i64 (findO (idsO L) id)) ∧ Below w.heap.size w w' := by
  have hent : ∀ (args : Array Value) (w : World), (callFunc 74 args).run Tryd.prog w = .ok (.enter 74 args) w := Go.Proofs.enters_of Tryd.func74 (by kernel_rfl) rfl
  go_enter Tryd.func73, Tryd.ntmps73
  go_wp2_with fail
  go_loopw [5, 8] (fun s5 i wr => ∃ k : Nat, k ≤ L.length ∧ i = .int .i64 (k : Int) ∧ Hid (findAt ((idsO L).drop k) id k = findO (idsO L) id) ∧ Below w.heap.size w wr) (fun _ i _ => L.length - (intOf i).toNat)
  case atStart => exact ⟨0, Nat.zero_le _, rfl, Lib.hid rfl, Below.refl _ _⟩
  case round =>
    obtain ⟨k, hk, rfl, HF, bb⟩ := hrel
    by_cases hlt : k < L.length
    · obtain ⟨ad, rfl, c0, c1⟩ := (h.below bb).cp hlt
      have hcl := findclo_any bx id L[k] _ (hB.below bb)
      have hids := ids_at L k hlt
      have hkl : k < (idsO L).length := by rw [ids_len]; exact hlt
      by_cases he : L[k].id = id
      · have E := Lib.hid (find_here hkl HF.out (hids.trans he))
        have hb : (L[k].id == id) = true := by simp [he]
        rw [hb] at hcl
        clear he hb hids
        generalize L[k].id = z at *
        generalize L[k].A = Ax at *
        generalize L[k].m = x at *
        generalize L[k].c = cx at *
        go_wp2_with fail
        refine hcl.mono ?_
        clear hcl
        rintro e w2 ⟨rfl, b2⟩
        go_wp2_with fail
        go_ret
        exact ⟨by rw [E.out]; rfl, bb.thenB' b2⟩
      · have E := Lib.hid (find_next hkl HF.out (fun e => he (hids.symm.trans e)))
        have hb : (L[k].id == id) = false := by simp [he]
        rw [hb] at hcl
        clear he hb hids
        generalize L[k].id = z at *
        generalize L[k].A = Ax at *
        generalize L[k].m = x at *
        generalize L[k].c = cx at *
        go_wp2_with fail
        refine hcl.mono ?_
        clear hcl
        rintro e w2 ⟨rfl, b2⟩
        go_wp2_with fail
        go_roundw
        case rel => exact ⟨k + 1, by omega, by go_num, E, bb.thenB' b2⟩
        case measure => simp [intOf] <;> omega
    · have E := Lib.hid (find_end (by rw [ids_len]; omega) HF.out)
      go_wp2_with fail
      go_ret
      exact ⟨by rw [E.out]; rfl, bb⟩

set_option maxHeartbeats 4000000 in
set_option maxRecDepth 100000 in
theorem find_any (D : Nat → Prop) (i : ImV) (id : Int) (w : World) (hr : ImR w D i) :
    Calls Tryd.prog 57 #[.agg (imA i), .int .i64 id] w fun e w' => e = .returned (.int .i64 (findO (idsO i.S) id)) ∧ Below w.heap.size w w' := by
  obtain ⟨_, _, _, hS, hl, hm, _⟩ := hr
  have b1 := below_new w (.cells (imA i) 35)
  have b2 := below_new (w.alloc (.cells (imA i) 35)) (.cells #[.int .i64 id] 3)
  have hB := Blk.new (w.alloc (.cells (imA i) 35)) 3 #[.int .i64 id]
  have hsz : (w.alloc (.cells (imA i) 35)).heap.size = w.heap.size + 1 := Array.size_push ..
  rw [hsz] at hB
  have hix := cpIndex_any (w.heap.size + 1) id D i.CA i.cc i.S _ hB ((hS.below b1).below b2) (by omega)
  have hmf : ∀ (fn : Fn) (first cap : Array Value) (w : World), (Instr.makeFunc fn first cap).run Tryd.prog w = .ok (.func fn first cap) w := fun _ _ _ _ => rfl
  have bb := b1.thenB' b2
  clear b1 b2 hB hsz hS
  unfold imA at *
  generalize findO (idsO i.S) id = r at *
  go_enter Tryd.func57, Tryd.ntmps57
  go_wp2_with fail
  refine hix.mono ?_
  clear hix
  rintro e w2 ⟨rfl, b2⟩
  go_wp2_with fail
  go_ret
  exact ⟨rfl, bb.thenB' b2⟩

set_option maxHeartbeats 4000000 in
set_option maxRecDepth 100000 in
theorem rfind_any (D : Nat → Prop) (i : ImV) (id : Int) (w : World) (hr : ImR w D i) :
    Calls Tryd.prog 33 #[.agg (imA i), .int .i64 id] w fun e w' => e = .returned (.int .i64 (findO (idsO i.S) id)) ∧ Below w.heap.size w w' := by
  obtain ⟨_, _, _, hS, hl, hm, _⟩ := hr
  have b1 := below_new w (.cells (imA i) 35)
  have hB := Blk.new w 35 (imA i)
  have hS := hS.below b1
  obtain ⟨DA, d, dc, A, L, cc, la⟩ := i
  unfold imA at *
  dsimp only at *
  have HL : Hid (L.length ≤ 9223372036854775807) := by unfold Hid; omega
  go_enter Tryd.func33, Tryd.ntmps33
  go_wp2_with fail
  generalize w.alloc (.cells #[.slice DA d.length dc, .slice A L.length cc, .int .i64 la] 35) = w1 at *
  have c5 := hB.cell 1
  simp at c5
  go_loopw [5] (fun i wr => ∃ k : Nat, k ≤ L.length ∧ i = .int .i64 (k : Int) ∧ Hid (findAt ((idsO L).drop k) id k = findO (idsO L) id) ∧ w1 = wr) (fun i _ => L.length - (intOf i).toNat)
  case atStart => exact ⟨0, Nat.zero_le _, rfl, Lib.hid rfl, rfl⟩
  case round =>
    obtain ⟨k, hk, rfl, HF, rfl⟩ := hrel
    by_cases hlt : k < L.length
    · obtain ⟨ad, rfl, c0, c1⟩ := hS.cp hlt
      have hids := ids_at L k hlt
      have hkl : k < (idsO L).length := by rw [ids_len]; exact hlt
      by_cases he : L[k].id = id
      · have E := Lib.hid (find_here hkl HF.out (hids.trans he))
        have hb : (L[k].id == id) = true := by simp [he]
        clear he hids
        generalize L[k].id = z at *
        go_wp2_with fail
        go_ret
        exact ⟨by rw [E.out]; rfl, b1⟩
      · have E := Lib.hid (find_next hkl HF.out (fun e => he (hids.symm.trans e)))
        have hb : (L[k].id == id) = false := by simp [he]
        clear he hids
        generalize L[k].id = z at *
        go_wp2_with fail
        go_roundw
        case rel => exact ⟨k + 1, by omega, by have := HL.out; go_num, E, trivial⟩
        case measure => simp [intOf] <;> omega
    · have E := Lib.hid (find_end (by rw [ids_len]; omega) HF.out)
      go_wp2_with fail
      go_ret
      exact ⟨by rw [E.out]; rfl, b1⟩
end Go.Proofs.YthkeoimjjgmppaaDoor

/- Whether an image may be: the document's May, the code's Check. -/
namespace Go.Proofs.YthkeoimjjgmppaaDoor
open Go.RowKit
set_option linter.unusedVariables false

def copiesO (last : Int) : Int → List (Int × List UInt8) → Bool
  | _, [] => true
  | a, s :: r => decide (a < s.1) && (decide (s.1 ≤ last) && (decide (s.2.length ≤ 512) && copiesO last s.1 r))
def mayI (p : PI) : Bool := decide (p.d.length ≤ 512) && (decide (p.S.length ≤ 4) && (decide (0 ≤ p.last) && (decide (p.last ≤ 100) && copiesO p.last 0 p.S)))
def eno (b : Bool) (c : Int) : Int := if b then 0 else c
theorem pureC_drop (S : List CpV) (k : Nat) (h : k < S.length) : (pureC S).drop k = (S[k].id, S[k].m) :: (pureC S).drop (k + 1) := by
  rw [List.drop_eq_getElem_cons (by rw [pureC_len]; exact h)]
  unfold pureC
  simp
theorem pureC_end (S : List CpV) (k : Nat) (h : S.length ≤ k) : (pureC S).drop k = [] := List.drop_eq_nil_of_le (by rw [pureC_len]; exact h)

set_option maxHeartbeats 8000000 in
set_option maxRecDepth 100000 in
theorem rMay18_any (D : Nat → Prop) (i : ImV) (w : World) (hr : ImR w D i) :
    Calls Tryd.prog 31 #[.agg (imA i)] w fun e w' => e = .returned (.bool (mayI i.p)) ∧ Below w.heap.size w w' := by
  obtain ⟨rm, lm, mm, hS, hl, hm, hrs⟩ := hr
  have bb := below_new w (.cells (imA i) 35)
  have hB := Blk.new w 35 (imA i)
  have hS := hS.below bb
  obtain ⟨DA, d, dc, A, L, cc, la⟩ := i
  unfold mayI ImV.p
  unfold imA at *
  dsimp only at *
  rw [pureC_len]
  generalize hM : (decide (d.length ≤ 512) && (decide (L.length ≤ 4) && (decide (0 ≤ la) && (decide (la ≤ 100) && copiesO la 0 (pureC L))))) = M
  have HM := Lib.hid hM
  clear hM
  have hLb : L.length ≤ 9223372036854775807 := by omega
  by_cases t0 : 512 < d.length
  focus
    have gg0 := (decide_eq_true (by omega) : decide (512 < (d.length : Int)) = true)
    have E : Hid (M = false) := by unfold Hid; rw [← HM.out, decide_eq_false (show ¬ d.length ≤ 512 by omega)]; simp
    clear HM
    go_enter Tryd.func31, Tryd.ntmps31
    go_wp2_with fail
    go_ret
    exact ⟨by rw [E.out]; rfl, bb⟩
  have gg1 := (decide_eq_false (by omega) : decide (512 < (d.length : Int)) = false)
  by_cases t1 : 4 < L.length
  focus
    have gg2 := (decide_eq_true (by omega) : decide (4 < (L.length : Int)) = true)
    have E : Hid (M = false) := by unfold Hid; rw [← HM.out, decide_eq_false (show ¬ L.length ≤ 4 by omega)]; simp
    clear HM
    go_enter Tryd.func31, Tryd.ntmps31
    go_wp2_with fail
    go_ret
    exact ⟨by rw [E.out]; rfl, bb⟩
  have gg3 := (decide_eq_false (by omega) : decide (4 < (L.length : Int)) = false)
  by_cases t2 : la < 0
  focus
    have gg4 := (decide_eq_true (by omega) : decide (la < 0) = true)
    have E : Hid (M = false) := by unfold Hid; rw [← HM.out, decide_eq_false (show ¬ 0 ≤ la by omega)]; simp
    clear HM
    go_enter Tryd.func31, Tryd.ntmps31
    go_wp2_with fail
    go_ret
    exact ⟨by rw [E.out]; rfl, bb⟩
  have gg5 := (decide_eq_false (by omega) : decide (la < 0) = false)
  by_cases t3 : 100 < la
  focus
    have gg6 := (decide_eq_true (by omega) : decide (100 < la) = true)
    have E : Hid (M = false) := by unfold Hid; rw [← HM.out, decide_eq_false (show ¬ la ≤ 100 by omega)]; simp
    clear HM
    go_enter Tryd.func31, Tryd.ntmps31
    go_wp2_with fail
    go_ret
    exact ⟨by rw [E.out]; rfl, bb⟩
  have gg7 := (decide_eq_false (by omega) : decide (100 < la) = false)
  have HS : Hid (copiesO la 0 (pureC L) = M) := by
    unfold Hid
    rw [← HM.out, decide_eq_true (show d.length ≤ 512 by omega), decide_eq_true (show L.length ≤ 4 by omega), decide_eq_true (show 0 ≤ la by omega), decide_eq_true (show la ≤ 100 by omega)]
    simp
  clear HM
  go_enter Tryd.func31, Tryd.ntmps31
  go_wp2_with fail
  generalize w.alloc (.cells #[.slice DA d.length dc, .slice A L.length cc, .int .i64 la] 35) = w1 at *

  go_loopw [3, 4, 5] (fun a i s5 wr => ∃ (k : Nat) (z : Int), k ≤ L.length ∧ i = .int .i64 (k : Int) ∧ a = .int .i64 z ∧ Hid (copiesO la z ((pureC L).drop k) = M) ∧ Below w1.heap.size w1 wr) (fun _ i _ _ => L.length - (intOf i).toNat)
  case atStart => exact ⟨0, 0, Nat.zero_le _, rfl, rfl, HS, Below.refl _ _⟩
  case round =>
    clear HS
    obtain ⟨k, z, hk, rfl, rfl, HS, bw⟩ := hrel
    have hB := hB.below bw
    have hS := hS.below bw
    have bb := bb.thenB' bw
    have c0 := hB.cell 0
    have c1 := hB.cell 1
    have c2 := hB.cell 2
    simp at c0 c1 c2
    by_cases hlt : k < L.length
    · obtain ⟨ad, rfl, d0, d1⟩ := hS.cp hlt
      have HS2 : Hid ((decide (z < L[k].id) && (decide (L[k].id ≤ la) && (decide (L[k].m.length ≤ 512) && copiesO la L[k].id ((pureC L).drop (k + 1))))) = M) := by
        unfold Hid; rw [← HS.out, pureC_drop L k hlt]; rfl
      clear HS
      generalize L[k].id = id at *
      generalize L[k].A = Ax at *
      generalize L[k].m = x at *
      generalize L[k].c = cx at *
      have bn := below_new wr (.cells #[.int .i64 id, .slice Ax x.length cx] 71)
      have hB2 := hB.below bn
      have hgl := hB.lt
      have hgn : ¬ w.heap.size = wr.heap.size := by omega
      have f1 : (wr.alloc (.cells #[.int .i64 id, .slice Ax x.length cx] 71)).cell? ⟨w.heap.size, 1, none⟩ = some (.slice (some ad) L.length cc) := hB2.cell 1
      have f2 : (wr.alloc (.cells #[.int .i64 id, .slice Ax x.length cx] 71)).cell? ⟨w.heap.size, 2, none⟩ = some (.int .i64 la) := hB2.cell 2
      by_cases t9 : id ≤ z
      focus
        have gg8 := (decide_eq_true (by omega) : decide (id ≤ z) = true)
        have E : Hid (M = false) := by unfold Hid; rw [← HS2.out, decide_eq_false (show ¬ z < id by omega)]; simp
        clear HS2
        go_wp2_with fail
        go_ret
        exact ⟨by rw [E.out]; rfl, bb.thenB' bn⟩
      have gg9 := (decide_eq_false (by omega) : decide (id ≤ z) = false)
      by_cases t9 : la < id
      focus
        have gg10 := (decide_eq_true (by omega) : decide (la < id) = true)
        have E : Hid (M = false) := by unfold Hid; rw [← HS2.out, decide_eq_false (show ¬ id ≤ la by omega)]; simp
        clear HS2
        go_wp2_with fail
        go_ret
        exact ⟨by rw [E.out]; rfl, bb.thenB' bn⟩
      have gg11 := (decide_eq_false (by omega) : decide (la < id) = false)
      by_cases t9 : 512 < x.length
      focus
        have gg12 := (decide_eq_true (by omega) : decide (512 < (x.length : Int)) = true)
        have E : Hid (M = false) := by unfold Hid; rw [← HS2.out, decide_eq_false (show ¬ x.length ≤ 512 by omega)]; simp
        clear HS2
        go_wp2_with fail
        go_ret
        exact ⟨by rw [E.out]; rfl, bb.thenB' bn⟩
      have gg13 := (decide_eq_false (by omega) : decide (512 < (x.length : Int)) = false)
      have E : Hid (copiesO la id ((pureC L).drop (k + 1)) = M) := by
        unfold Hid; rw [← HS2.out, decide_eq_true (show z < id by omega), decide_eq_true (show id ≤ la by omega), decide_eq_true (show x.length ≤ 512 by omega)]; simp
      clear HS2
      go_wp2_with fail
      go_roundw
      case rel => exact ⟨k + 1, id, by omega, by go_num, rfl, E, bw.thenB' bn⟩
      case measure => simp [intOf] <;> omega
    · have E : Hid (M = true) := by unfold Hid; rw [← HS.out, pureC_end L k (by omega)]; rfl
      go_wp2_with fail
      go_ret
      exact ⟨by rw [E.out]; rfl, bb⟩

set_option maxHeartbeats 8000000 in
set_option maxRecDepth 100000 in
theorem Check18_any (D : Nat → Prop) (i : ImV) (w : World) (hr : ImR w D i) :
    Calls Tryd.prog 53 #[.agg (imA i)] w fun e w' => e = .returned (.int .i64 (eno (mayI i.p) 1)) ∧ Below w.heap.size w w' := by
  obtain ⟨rm, lm, mm, hS, hl, hm, hrs⟩ := hr
  have bb := below_new w (.cells (imA i) 35)
  have hB := Blk.new w 35 (imA i)
  have hS := hS.below bb
  obtain ⟨DA, d, dc, A, L, cc, la⟩ := i
  unfold mayI ImV.p
  unfold imA at *
  dsimp only at *
  rw [pureC_len]
  generalize hM : (decide (d.length ≤ 512) && (decide (L.length ≤ 4) && (decide (0 ≤ la) && (decide (la ≤ 100) && copiesO la 0 (pureC L))))) = M
  have HM := Lib.hid hM
  clear hM
  have hLb : L.length ≤ 9223372036854775807 := by omega
  by_cases t0 : 512 < d.length
  focus
    have gg14 := (decide_eq_false (by omega) : decide ((d.length : Int) ≤ 512) = false)
    have HS : Hid ((false && copiesO la 0 ((pureC L).drop 0)) = M) := by unfold Hid; rw [← HM.out, decide_eq_false (show ¬ d.length ≤ 512 by omega)]; simp
    clear HM
    go_enter Tryd.func53, Tryd.ntmps53
    go_wp2_with fail
    generalize w.alloc (.cells #[.slice DA d.length dc, .slice A L.length cc, .int .i64 la] 35) = w1 at *

    go_loopw [3, 4, 6, 30] (fun ok a s6 i wr => ∃ (b : Bool) (k : Nat) (z : Int), k ≤ L.length ∧ ok = .bool b ∧ i = .int .i64 (k : Int) ∧ a = .int .i64 z ∧ Hid ((b && copiesO la z ((pureC L).drop k)) = M) ∧ Below w1.heap.size w1 wr) (fun _ _ _ i _ => L.length - (intOf i).toNat)
    case atStart => exact ⟨false, 0, 0, Nat.zero_le _, rfl, rfl, rfl, HS, Below.refl _ _⟩
    case round =>
      clear HS
      obtain ⟨b, k, z, hk, rfl, rfl, rfl, HS, bw⟩ := hrel
      have hB := hB.below bw
      have hS := hS.below bw
      have bb := bb.thenB' bw
      have c0 := hB.cell 0
      have c1 := hB.cell 1
      have c2 := hB.cell 2
      simp at c0 c1 c2
      by_cases hlt : k < L.length
      · obtain ⟨ad, rfl, d0, d1⟩ := hS.cp hlt
        have HS2 : Hid ((b && (decide (z < L[k].id) && (decide (L[k].id ≤ la) && (decide (L[k].m.length ≤ 512) && copiesO la L[k].id ((pureC L).drop (k + 1)))))) = M) := by
          unfold Hid; rw [← HS.out, pureC_drop L k hlt]; rfl
        clear HS
        generalize L[k].id = id at *
        generalize L[k].A = Ax at *
        generalize L[k].m = x at *
        generalize L[k].c = cx at *
        have bn := below_new wr (.cells #[.int .i64 id, .slice Ax x.length cx] 71)
        have hB2 := hB.below bn
        have hgl := hB.lt
        have hgn : ¬ w.heap.size = wr.heap.size := by omega
        have f1 : (wr.alloc (.cells #[.int .i64 id, .slice Ax x.length cx] 71)).cell? ⟨w.heap.size, 1, none⟩ = some (.slice (some ad) L.length cc) := hB2.cell 1
        have f2 : (wr.alloc (.cells #[.int .i64 id, .slice Ax x.length cx] 71)).cell? ⟨w.heap.size, 2, none⟩ = some (.int .i64 la) := hB2.cell 2
        cases b
        focus
          have E : Hid ((false && copiesO la id ((pureC L).drop (k + 1))) = M) := by unfold Hid; rw [← HS2.out]; rfl
          clear HS2
          go_wp2_with fail
          go_roundw
          case rel => exact ⟨false, k + 1, id, by omega, rfl, by go_num, rfl, E, bw.thenB' bn⟩
          case measure => simp [intOf] <;> omega
        by_cases t9 : id ≤ z
        focus
          have gg15 := (decide_eq_false (by omega) : decide (z < id) = false)
          have E : Hid ((false && copiesO la id ((pureC L).drop (k + 1))) = M) := by unfold Hid; rw [← HS2.out, decide_eq_false (show ¬ z < id by omega)]; simp
          clear HS2
          go_wp2_with fail
          go_roundw
          case rel => exact ⟨false, k + 1, id, by omega, rfl, by go_num, rfl, E, bw.thenB' bn⟩
          case measure => simp [intOf] <;> omega
        have gg16 := (decide_eq_true (by omega) : decide (z < id) = true)
        by_cases t9 : la < id
        focus
          have gg17 := (decide_eq_false (by omega) : decide (id ≤ la) = false)
          have E : Hid ((false && copiesO la id ((pureC L).drop (k + 1))) = M) := by unfold Hid; rw [← HS2.out, decide_eq_false (show ¬ id ≤ la by omega)]; simp
          clear HS2
          go_wp2_with fail
          go_roundw
          case rel => exact ⟨false, k + 1, id, by omega, rfl, by go_num, rfl, E, bw.thenB' bn⟩
          case measure => simp [intOf] <;> omega
        have gg18 := (decide_eq_true (by omega) : decide (id ≤ la) = true)
        by_cases t9 : 512 < x.length
        focus
          have gg19 := (decide_eq_false (by omega) : decide ((x.length : Int) ≤ 512) = false)
          have E : Hid ((false && copiesO la id ((pureC L).drop (k + 1))) = M) := by unfold Hid; rw [← HS2.out, decide_eq_false (show ¬ x.length ≤ 512 by omega)]; simp
          clear HS2
          go_wp2_with fail
          go_roundw
          case rel => exact ⟨false, k + 1, id, by omega, rfl, by go_num, rfl, E, bw.thenB' bn⟩
          case measure => simp [intOf] <;> omega
        have gg20 := (decide_eq_true (by omega) : decide ((x.length : Int) ≤ 512) = true)
        have E : Hid ((true && copiesO la id ((pureC L).drop (k + 1))) = M) := by
          unfold Hid; rw [← HS2.out, decide_eq_true (show z < id by omega), decide_eq_true (show id ≤ la by omega), decide_eq_true (show x.length ≤ 512 by omega)]; simp
        clear HS2
        go_wp2_with fail
        go_roundw
        case rel => exact ⟨true, k + 1, id, by omega, rfl, by go_num, rfl, E, bw.thenB' bn⟩
        case measure => simp [intOf] <;> omega
      · have E : Hid (b = M) := by unfold Hid; rw [← HS.out, pureC_end L k (by omega)]; unfold copiesO; simp
        clear HS
        cases b
        all_goals
          go_wp2_with fail
          go_ret
          exact ⟨by rw [← E.out]; rfl, bb⟩
  have gg21 := (decide_eq_true (by omega) : decide ((d.length : Int) ≤ 512) = true)
  by_cases t1 : 4 < L.length
  focus
    have gg22 := (decide_eq_false (by omega) : decide ((L.length : Int) ≤ 4) = false)
    have HS : Hid ((false && copiesO la 0 ((pureC L).drop 0)) = M) := by unfold Hid; rw [← HM.out, decide_eq_false (show ¬ L.length ≤ 4 by omega)]; simp
    clear HM
    go_enter Tryd.func53, Tryd.ntmps53
    go_wp2_with fail
    generalize w.alloc (.cells #[.slice DA d.length dc, .slice A L.length cc, .int .i64 la] 35) = w1 at *

    go_loopw [3, 4, 6, 30] (fun ok a s6 i wr => ∃ (b : Bool) (k : Nat) (z : Int), k ≤ L.length ∧ ok = .bool b ∧ i = .int .i64 (k : Int) ∧ a = .int .i64 z ∧ Hid ((b && copiesO la z ((pureC L).drop k)) = M) ∧ Below w1.heap.size w1 wr) (fun _ _ _ i _ => L.length - (intOf i).toNat)
    case atStart => exact ⟨false, 0, 0, Nat.zero_le _, rfl, rfl, rfl, HS, Below.refl _ _⟩
    case round =>
      clear HS
      obtain ⟨b, k, z, hk, rfl, rfl, rfl, HS, bw⟩ := hrel
      have hB := hB.below bw
      have hS := hS.below bw
      have bb := bb.thenB' bw
      have c0 := hB.cell 0
      have c1 := hB.cell 1
      have c2 := hB.cell 2
      simp at c0 c1 c2
      by_cases hlt : k < L.length
      · obtain ⟨ad, rfl, d0, d1⟩ := hS.cp hlt
        have HS2 : Hid ((b && (decide (z < L[k].id) && (decide (L[k].id ≤ la) && (decide (L[k].m.length ≤ 512) && copiesO la L[k].id ((pureC L).drop (k + 1)))))) = M) := by
          unfold Hid; rw [← HS.out, pureC_drop L k hlt]; rfl
        clear HS
        generalize L[k].id = id at *
        generalize L[k].A = Ax at *
        generalize L[k].m = x at *
        generalize L[k].c = cx at *
        have bn := below_new wr (.cells #[.int .i64 id, .slice Ax x.length cx] 71)
        have hB2 := hB.below bn
        have hgl := hB.lt
        have hgn : ¬ w.heap.size = wr.heap.size := by omega
        have f1 : (wr.alloc (.cells #[.int .i64 id, .slice Ax x.length cx] 71)).cell? ⟨w.heap.size, 1, none⟩ = some (.slice (some ad) L.length cc) := hB2.cell 1
        have f2 : (wr.alloc (.cells #[.int .i64 id, .slice Ax x.length cx] 71)).cell? ⟨w.heap.size, 2, none⟩ = some (.int .i64 la) := hB2.cell 2
        cases b
        focus
          have E : Hid ((false && copiesO la id ((pureC L).drop (k + 1))) = M) := by unfold Hid; rw [← HS2.out]; rfl
          clear HS2
          go_wp2_with fail
          go_roundw
          case rel => exact ⟨false, k + 1, id, by omega, rfl, by go_num, rfl, E, bw.thenB' bn⟩
          case measure => simp [intOf] <;> omega
        by_cases t9 : id ≤ z
        focus
          have gg23 := (decide_eq_false (by omega) : decide (z < id) = false)
          have E : Hid ((false && copiesO la id ((pureC L).drop (k + 1))) = M) := by unfold Hid; rw [← HS2.out, decide_eq_false (show ¬ z < id by omega)]; simp
          clear HS2
          go_wp2_with fail
          go_roundw
          case rel => exact ⟨false, k + 1, id, by omega, rfl, by go_num, rfl, E, bw.thenB' bn⟩
          case measure => simp [intOf] <;> omega
        have gg24 := (decide_eq_true (by omega) : decide (z < id) = true)
        by_cases t9 : la < id
        focus
          have gg25 := (decide_eq_false (by omega) : decide (id ≤ la) = false)
          have E : Hid ((false && copiesO la id ((pureC L).drop (k + 1))) = M) := by unfold Hid; rw [← HS2.out, decide_eq_false (show ¬ id ≤ la by omega)]; simp
          clear HS2
          go_wp2_with fail
          go_roundw
          case rel => exact ⟨false, k + 1, id, by omega, rfl, by go_num, rfl, E, bw.thenB' bn⟩
          case measure => simp [intOf] <;> omega
        have gg26 := (decide_eq_true (by omega) : decide (id ≤ la) = true)
        by_cases t9 : 512 < x.length
        focus
          have gg27 := (decide_eq_false (by omega) : decide ((x.length : Int) ≤ 512) = false)
          have E : Hid ((false && copiesO la id ((pureC L).drop (k + 1))) = M) := by unfold Hid; rw [← HS2.out, decide_eq_false (show ¬ x.length ≤ 512 by omega)]; simp
          clear HS2
          go_wp2_with fail
          go_roundw
          case rel => exact ⟨false, k + 1, id, by omega, rfl, by go_num, rfl, E, bw.thenB' bn⟩
          case measure => simp [intOf] <;> omega
        have gg28 := (decide_eq_true (by omega) : decide ((x.length : Int) ≤ 512) = true)
        have E : Hid ((true && copiesO la id ((pureC L).drop (k + 1))) = M) := by
          unfold Hid; rw [← HS2.out, decide_eq_true (show z < id by omega), decide_eq_true (show id ≤ la by omega), decide_eq_true (show x.length ≤ 512 by omega)]; simp
        clear HS2
        go_wp2_with fail
        go_roundw
        case rel => exact ⟨true, k + 1, id, by omega, rfl, by go_num, rfl, E, bw.thenB' bn⟩
        case measure => simp [intOf] <;> omega
      · have E : Hid (b = M) := by unfold Hid; rw [← HS.out, pureC_end L k (by omega)]; unfold copiesO; simp
        clear HS
        cases b
        all_goals
          go_wp2_with fail
          go_ret
          exact ⟨by rw [← E.out]; rfl, bb⟩
  have gg29 := (decide_eq_true (by omega) : decide ((L.length : Int) ≤ 4) = true)
  by_cases t2 : la < 0
  focus
    have gg30 := (decide_eq_false (by omega) : decide (0 ≤ la) = false)
    have HS : Hid ((false && copiesO la 0 ((pureC L).drop 0)) = M) := by unfold Hid; rw [← HM.out, decide_eq_false (show ¬ 0 ≤ la by omega)]; simp
    clear HM
    go_enter Tryd.func53, Tryd.ntmps53
    go_wp2_with fail
    generalize w.alloc (.cells #[.slice DA d.length dc, .slice A L.length cc, .int .i64 la] 35) = w1 at *

    go_loopw [3, 4, 6, 30] (fun ok a s6 i wr => ∃ (b : Bool) (k : Nat) (z : Int), k ≤ L.length ∧ ok = .bool b ∧ i = .int .i64 (k : Int) ∧ a = .int .i64 z ∧ Hid ((b && copiesO la z ((pureC L).drop k)) = M) ∧ Below w1.heap.size w1 wr) (fun _ _ _ i _ => L.length - (intOf i).toNat)
    case atStart => exact ⟨false, 0, 0, Nat.zero_le _, rfl, rfl, rfl, HS, Below.refl _ _⟩
    case round =>
      clear HS
      obtain ⟨b, k, z, hk, rfl, rfl, rfl, HS, bw⟩ := hrel
      have hB := hB.below bw
      have hS := hS.below bw
      have bb := bb.thenB' bw
      have c0 := hB.cell 0
      have c1 := hB.cell 1
      have c2 := hB.cell 2
      simp at c0 c1 c2
      by_cases hlt : k < L.length
      · obtain ⟨ad, rfl, d0, d1⟩ := hS.cp hlt
        have HS2 : Hid ((b && (decide (z < L[k].id) && (decide (L[k].id ≤ la) && (decide (L[k].m.length ≤ 512) && copiesO la L[k].id ((pureC L).drop (k + 1)))))) = M) := by
          unfold Hid; rw [← HS.out, pureC_drop L k hlt]; rfl
        clear HS
        generalize L[k].id = id at *
        generalize L[k].A = Ax at *
        generalize L[k].m = x at *
        generalize L[k].c = cx at *
        have bn := below_new wr (.cells #[.int .i64 id, .slice Ax x.length cx] 71)
        have hB2 := hB.below bn
        have hgl := hB.lt
        have hgn : ¬ w.heap.size = wr.heap.size := by omega
        have f1 : (wr.alloc (.cells #[.int .i64 id, .slice Ax x.length cx] 71)).cell? ⟨w.heap.size, 1, none⟩ = some (.slice (some ad) L.length cc) := hB2.cell 1
        have f2 : (wr.alloc (.cells #[.int .i64 id, .slice Ax x.length cx] 71)).cell? ⟨w.heap.size, 2, none⟩ = some (.int .i64 la) := hB2.cell 2
        cases b
        focus
          have E : Hid ((false && copiesO la id ((pureC L).drop (k + 1))) = M) := by unfold Hid; rw [← HS2.out]; rfl
          clear HS2
          go_wp2_with fail
          go_roundw
          case rel => exact ⟨false, k + 1, id, by omega, rfl, by go_num, rfl, E, bw.thenB' bn⟩
          case measure => simp [intOf] <;> omega
        by_cases t9 : id ≤ z
        focus
          have gg31 := (decide_eq_false (by omega) : decide (z < id) = false)
          have E : Hid ((false && copiesO la id ((pureC L).drop (k + 1))) = M) := by unfold Hid; rw [← HS2.out, decide_eq_false (show ¬ z < id by omega)]; simp
          clear HS2
          go_wp2_with fail
          go_roundw
          case rel => exact ⟨false, k + 1, id, by omega, rfl, by go_num, rfl, E, bw.thenB' bn⟩
          case measure => simp [intOf] <;> omega
        have gg32 := (decide_eq_true (by omega) : decide (z < id) = true)
        by_cases t9 : la < id
        focus
          have gg33 := (decide_eq_false (by omega) : decide (id ≤ la) = false)
          have E : Hid ((false && copiesO la id ((pureC L).drop (k + 1))) = M) := by unfold Hid; rw [← HS2.out, decide_eq_false (show ¬ id ≤ la by omega)]; simp
          clear HS2
          go_wp2_with fail
          go_roundw
          case rel => exact ⟨false, k + 1, id, by omega, rfl, by go_num, rfl, E, bw.thenB' bn⟩
          case measure => simp [intOf] <;> omega
        have gg34 := (decide_eq_true (by omega) : decide (id ≤ la) = true)
        by_cases t9 : 512 < x.length
        focus
          have gg35 := (decide_eq_false (by omega) : decide ((x.length : Int) ≤ 512) = false)
          have E : Hid ((false && copiesO la id ((pureC L).drop (k + 1))) = M) := by unfold Hid; rw [← HS2.out, decide_eq_false (show ¬ x.length ≤ 512 by omega)]; simp
          clear HS2
          go_wp2_with fail
          go_roundw
          case rel => exact ⟨false, k + 1, id, by omega, rfl, by go_num, rfl, E, bw.thenB' bn⟩
          case measure => simp [intOf] <;> omega
        have gg36 := (decide_eq_true (by omega) : decide ((x.length : Int) ≤ 512) = true)
        have E : Hid ((true && copiesO la id ((pureC L).drop (k + 1))) = M) := by
          unfold Hid; rw [← HS2.out, decide_eq_true (show z < id by omega), decide_eq_true (show id ≤ la by omega), decide_eq_true (show x.length ≤ 512 by omega)]; simp
        clear HS2
        go_wp2_with fail
        go_roundw
        case rel => exact ⟨true, k + 1, id, by omega, rfl, by go_num, rfl, E, bw.thenB' bn⟩
        case measure => simp [intOf] <;> omega
      · have E : Hid (b = M) := by unfold Hid; rw [← HS.out, pureC_end L k (by omega)]; unfold copiesO; simp
        clear HS
        cases b
        all_goals
          go_wp2_with fail
          go_ret
          exact ⟨by rw [← E.out]; rfl, bb⟩
  have gg37 := (decide_eq_true (by omega) : decide (0 ≤ la) = true)
  by_cases t3 : 100 < la
  focus
    have gg38 := (decide_eq_false (by omega) : decide (la ≤ 100) = false)
    have HS : Hid ((false && copiesO la 0 ((pureC L).drop 0)) = M) := by unfold Hid; rw [← HM.out, decide_eq_false (show ¬ la ≤ 100 by omega)]; simp
    clear HM
    go_enter Tryd.func53, Tryd.ntmps53
    go_wp2_with fail
    generalize w.alloc (.cells #[.slice DA d.length dc, .slice A L.length cc, .int .i64 la] 35) = w1 at *

    go_loopw [3, 4, 6, 30] (fun ok a s6 i wr => ∃ (b : Bool) (k : Nat) (z : Int), k ≤ L.length ∧ ok = .bool b ∧ i = .int .i64 (k : Int) ∧ a = .int .i64 z ∧ Hid ((b && copiesO la z ((pureC L).drop k)) = M) ∧ Below w1.heap.size w1 wr) (fun _ _ _ i _ => L.length - (intOf i).toNat)
    case atStart => exact ⟨false, 0, 0, Nat.zero_le _, rfl, rfl, rfl, HS, Below.refl _ _⟩
    case round =>
      clear HS
      obtain ⟨b, k, z, hk, rfl, rfl, rfl, HS, bw⟩ := hrel
      have hB := hB.below bw
      have hS := hS.below bw
      have bb := bb.thenB' bw
      have c0 := hB.cell 0
      have c1 := hB.cell 1
      have c2 := hB.cell 2
      simp at c0 c1 c2
      by_cases hlt : k < L.length
      · obtain ⟨ad, rfl, d0, d1⟩ := hS.cp hlt
        have HS2 : Hid ((b && (decide (z < L[k].id) && (decide (L[k].id ≤ la) && (decide (L[k].m.length ≤ 512) && copiesO la L[k].id ((pureC L).drop (k + 1)))))) = M) := by
          unfold Hid; rw [← HS.out, pureC_drop L k hlt]; rfl
        clear HS
        generalize L[k].id = id at *
        generalize L[k].A = Ax at *
        generalize L[k].m = x at *
        generalize L[k].c = cx at *
        have bn := below_new wr (.cells #[.int .i64 id, .slice Ax x.length cx] 71)
        have hB2 := hB.below bn
        have hgl := hB.lt
        have hgn : ¬ w.heap.size = wr.heap.size := by omega
        have f1 : (wr.alloc (.cells #[.int .i64 id, .slice Ax x.length cx] 71)).cell? ⟨w.heap.size, 1, none⟩ = some (.slice (some ad) L.length cc) := hB2.cell 1
        have f2 : (wr.alloc (.cells #[.int .i64 id, .slice Ax x.length cx] 71)).cell? ⟨w.heap.size, 2, none⟩ = some (.int .i64 la) := hB2.cell 2
        cases b
        focus
          have E : Hid ((false && copiesO la id ((pureC L).drop (k + 1))) = M) := by unfold Hid; rw [← HS2.out]; rfl
          clear HS2
          go_wp2_with fail
          go_roundw
          case rel => exact ⟨false, k + 1, id, by omega, rfl, by go_num, rfl, E, bw.thenB' bn⟩
          case measure => simp [intOf] <;> omega
        by_cases t9 : id ≤ z
        focus
          have gg39 := (decide_eq_false (by omega) : decide (z < id) = false)
          have E : Hid ((false && copiesO la id ((pureC L).drop (k + 1))) = M) := by unfold Hid; rw [← HS2.out, decide_eq_false (show ¬ z < id by omega)]; simp
          clear HS2
          go_wp2_with fail
          go_roundw
          case rel => exact ⟨false, k + 1, id, by omega, rfl, by go_num, rfl, E, bw.thenB' bn⟩
          case measure => simp [intOf] <;> omega
        have gg40 := (decide_eq_true (by omega) : decide (z < id) = true)
        by_cases t9 : la < id
        focus
          have gg41 := (decide_eq_false (by omega) : decide (id ≤ la) = false)
          have E : Hid ((false && copiesO la id ((pureC L).drop (k + 1))) = M) := by unfold Hid; rw [← HS2.out, decide_eq_false (show ¬ id ≤ la by omega)]; simp
          clear HS2
          go_wp2_with fail
          go_roundw
          case rel => exact ⟨false, k + 1, id, by omega, rfl, by go_num, rfl, E, bw.thenB' bn⟩
          case measure => simp [intOf] <;> omega
        have gg42 := (decide_eq_true (by omega) : decide (id ≤ la) = true)
        by_cases t9 : 512 < x.length
        focus
          have gg43 := (decide_eq_false (by omega) : decide ((x.length : Int) ≤ 512) = false)
          have E : Hid ((false && copiesO la id ((pureC L).drop (k + 1))) = M) := by unfold Hid; rw [← HS2.out, decide_eq_false (show ¬ x.length ≤ 512 by omega)]; simp
          clear HS2
          go_wp2_with fail
          go_roundw
          case rel => exact ⟨false, k + 1, id, by omega, rfl, by go_num, rfl, E, bw.thenB' bn⟩
          case measure => simp [intOf] <;> omega
        have gg44 := (decide_eq_true (by omega) : decide ((x.length : Int) ≤ 512) = true)
        have E : Hid ((true && copiesO la id ((pureC L).drop (k + 1))) = M) := by
          unfold Hid; rw [← HS2.out, decide_eq_true (show z < id by omega), decide_eq_true (show id ≤ la by omega), decide_eq_true (show x.length ≤ 512 by omega)]; simp
        clear HS2
        go_wp2_with fail
        go_roundw
        case rel => exact ⟨true, k + 1, id, by omega, rfl, by go_num, rfl, E, bw.thenB' bn⟩
        case measure => simp [intOf] <;> omega
      · have E : Hid (b = M) := by unfold Hid; rw [← HS.out, pureC_end L k (by omega)]; unfold copiesO; simp
        clear HS
        cases b
        all_goals
          go_wp2_with fail
          go_ret
          exact ⟨by rw [← E.out]; rfl, bb⟩
  have gg45 := (decide_eq_true (by omega) : decide (la ≤ 100) = true)
  have HS : Hid (copiesO la 0 (pureC L) = M) := by
    unfold Hid
    rw [← HM.out, decide_eq_true (show d.length ≤ 512 by omega), decide_eq_true (show L.length ≤ 4 by omega), decide_eq_true (show 0 ≤ la by omega), decide_eq_true (show la ≤ 100 by omega)]
    simp
  clear HM
  go_enter Tryd.func53, Tryd.ntmps53
  go_wp2_with fail
  generalize w.alloc (.cells #[.slice DA d.length dc, .slice A L.length cc, .int .i64 la] 35) = w1 at *

  go_loopw [3, 4, 6, 30] (fun ok a s6 i wr => ∃ (b : Bool) (k : Nat) (z : Int), k ≤ L.length ∧ ok = .bool b ∧ i = .int .i64 (k : Int) ∧ a = .int .i64 z ∧ Hid ((b && copiesO la z ((pureC L).drop k)) = M) ∧ Below w1.heap.size w1 wr) (fun _ _ _ i _ => L.length - (intOf i).toNat)
  case atStart => exact ⟨true, 0, 0, Nat.zero_le _, rfl, rfl, rfl, HS, Below.refl _ _⟩
  case round =>
    clear HS
    obtain ⟨b, k, z, hk, rfl, rfl, rfl, HS, bw⟩ := hrel
    have hB := hB.below bw
    have hS := hS.below bw
    have bb := bb.thenB' bw
    have c0 := hB.cell 0
    have c1 := hB.cell 1
    have c2 := hB.cell 2
    simp at c0 c1 c2
    by_cases hlt : k < L.length
    · obtain ⟨ad, rfl, d0, d1⟩ := hS.cp hlt
      have HS2 : Hid ((b && (decide (z < L[k].id) && (decide (L[k].id ≤ la) && (decide (L[k].m.length ≤ 512) && copiesO la L[k].id ((pureC L).drop (k + 1)))))) = M) := by
        unfold Hid; rw [← HS.out, pureC_drop L k hlt]; rfl
      clear HS
      generalize L[k].id = id at *
      generalize L[k].A = Ax at *
      generalize L[k].m = x at *
      generalize L[k].c = cx at *
      have bn := below_new wr (.cells #[.int .i64 id, .slice Ax x.length cx] 71)
      have hB2 := hB.below bn
      have hgl := hB.lt
      have hgn : ¬ w.heap.size = wr.heap.size := by omega
      have f1 : (wr.alloc (.cells #[.int .i64 id, .slice Ax x.length cx] 71)).cell? ⟨w.heap.size, 1, none⟩ = some (.slice (some ad) L.length cc) := hB2.cell 1
      have f2 : (wr.alloc (.cells #[.int .i64 id, .slice Ax x.length cx] 71)).cell? ⟨w.heap.size, 2, none⟩ = some (.int .i64 la) := hB2.cell 2
      cases b
      focus
        have E : Hid ((false && copiesO la id ((pureC L).drop (k + 1))) = M) := by unfold Hid; rw [← HS2.out]; rfl
        clear HS2
        go_wp2_with fail
        go_roundw
        case rel => exact ⟨false, k + 1, id, by omega, rfl, by go_num, rfl, E, bw.thenB' bn⟩
        case measure => simp [intOf] <;> omega
      by_cases t9 : id ≤ z
      focus
        have gg46 := (decide_eq_false (by omega) : decide (z < id) = false)
        have E : Hid ((false && copiesO la id ((pureC L).drop (k + 1))) = M) := by unfold Hid; rw [← HS2.out, decide_eq_false (show ¬ z < id by omega)]; simp
        clear HS2
        go_wp2_with fail
        go_roundw
        case rel => exact ⟨false, k + 1, id, by omega, rfl, by go_num, rfl, E, bw.thenB' bn⟩
        case measure => simp [intOf] <;> omega
      have gg47 := (decide_eq_true (by omega) : decide (z < id) = true)
      by_cases t9 : la < id
      focus
        have gg48 := (decide_eq_false (by omega) : decide (id ≤ la) = false)
        have E : Hid ((false && copiesO la id ((pureC L).drop (k + 1))) = M) := by unfold Hid; rw [← HS2.out, decide_eq_false (show ¬ id ≤ la by omega)]; simp
        clear HS2
        go_wp2_with fail
        go_roundw
        case rel => exact ⟨false, k + 1, id, by omega, rfl, by go_num, rfl, E, bw.thenB' bn⟩
        case measure => simp [intOf] <;> omega
      have gg49 := (decide_eq_true (by omega) : decide (id ≤ la) = true)
      by_cases t9 : 512 < x.length
      focus
        have gg50 := (decide_eq_false (by omega) : decide ((x.length : Int) ≤ 512) = false)
        have E : Hid ((false && copiesO la id ((pureC L).drop (k + 1))) = M) := by unfold Hid; rw [← HS2.out, decide_eq_false (show ¬ x.length ≤ 512 by omega)]; simp
        clear HS2
        go_wp2_with fail
        go_roundw
        case rel => exact ⟨false, k + 1, id, by omega, rfl, by go_num, rfl, E, bw.thenB' bn⟩
        case measure => simp [intOf] <;> omega
      have gg51 := (decide_eq_true (by omega) : decide ((x.length : Int) ≤ 512) = true)
      have E : Hid ((true && copiesO la id ((pureC L).drop (k + 1))) = M) := by
        unfold Hid; rw [← HS2.out, decide_eq_true (show z < id by omega), decide_eq_true (show id ≤ la by omega), decide_eq_true (show x.length ≤ 512 by omega)]; simp
      clear HS2
      go_wp2_with fail
      go_roundw
      case rel => exact ⟨true, k + 1, id, by omega, rfl, by go_num, rfl, E, bw.thenB' bn⟩
      case measure => simp [intOf] <;> omega
    · have E : Hid (b = M) := by unfold Hid; rw [← HS.out, pureC_end L k (by omega)]; unfold copiesO; simp
      clear HS
      cases b
      all_goals
        go_wp2_with fail
        go_ret
        exact ⟨by rw [← E.out]; rfl, bb⟩
end Go.Proofs.YthkeoimjjgmppaaDoor
