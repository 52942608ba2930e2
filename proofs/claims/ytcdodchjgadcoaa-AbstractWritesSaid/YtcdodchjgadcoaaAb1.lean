/- Images in memory; where a copy stands: the code and the document. -/
import Derived.Test.YtcdodchjgadcoaaSp8
import Derived.Test.YtcdodchjgadcoaaCan
import Derived.Shelf.Abstract
namespace Go.Proofs.Ytcdodchjgadcoaa
open Go.RowKit
set_option linter.unusedVariables false

/-- A copy, with the slice that holds its bytes. -/
structure CpV where
  id : Int
  A : Option Addr
  m : List UInt8
  c : Nat
/-- An image, with its slices. -/
structure ImV where
  DA : Option Addr
  d : List UInt8
  dc : Nat
  CA : Option Addr
  S : List CpV
  cc : Nat
  last : Int
def cpC (s : CpV) : List Value := [cI s.id, .slice s.A s.m.length s.c]
def imA (i : ImV) : Array Value := #[.slice i.DA i.d.length i.dc, .slice i.CA i.S.length i.cc, .int .i64 i.last]
def CpR (w : World) (D : Nat → Prop) (s : CpV) : Prop := RdB w D s.A s.m ∧ s.m.length ≤ s.c ∧ s.c ≤ 9223372036854775807
/-- An image reads. -/
structure ImR (w : World) (D : Nat → Prop) (i : ImV) : Prop where
  rd : RdB w D i.DA i.d
  dl : i.d.length ≤ i.dc
  dm : i.dc ≤ 9223372036854775807
  rS : RdL w D 2 cpC i.CA i.S
  sl : i.S.length ≤ i.cc
  sm : i.cc ≤ 9223372036854775807
  cp : ∀ s ∈ i.S, CpR w D s
theorem cpC_len (s : CpV) : (cpC s).length = 2 := rfl
theorem cpC_pos (s : CpV) : 0 < (cpC s).length := by rw [cpC_len]; decide
theorem cpC_one (s : CpV) : ∀ v ∈ cpC s, v.oneCell' = true := by
  intro v hv
  simp only [cpC, List.mem_cons, List.not_mem_nil, or_false] at hv
  rcases hv with rfl | rfl <;> rfl
section
variable {w w' : World} {D D' : Nat → Prop} {s : CpV} {i : ImV}
theorem CpR.below (h : CpR w D s) (hb : Below w.heap.size w w') : CpR w' D s := ⟨RdB.below h.1 hb, h.2⟩
theorem CpR.imp (h : CpR w D s) (hd : ∀ b, b < w.heap.size → D b → D' b) : CpR w D' s := ⟨Rd.imp h.1 hd (by decide), h.2⟩
theorem CpR.mod {X : Nat → Prop} (h : CpR w D s) (hb : Mod X w w') (hd : ∀ b, D b → ¬ X b) : CpR w' D s := ⟨Rd.mod h.1 hb hd, h.2⟩
theorem ImR.below (h : ImR w D i) (hb : Below w.heap.size w w') : ImR w' D i := ⟨RdB.below h.rd hb, h.dl, h.dm, RdL.below h.rS hb, h.sl, h.sm, fun s hs => (h.cp s hs).below hb⟩
theorem ImR.imp (h : ImR w D i) (hd : ∀ b, b < w.heap.size → D b → D' b) : ImR w D' i := ⟨Rd.imp h.rd hd (by decide), h.dl, h.dm, h.rS.imp cpC_pos hd, h.sl, h.sm, fun s hs => (h.cp s hs).imp hd⟩
theorem ImR.mod {X : Nat → Prop} (h : ImR w D i) (hb : Mod X w w') (hd : ∀ b, D b → ¬ X b) : ImR w' D i := ⟨Rd.mod h.rd hb hd, h.dl, h.dm, RdL.mod h.rS hb hd, h.sl, h.sm, fun s hs => (h.cp s hs).mod hb hd⟩
theorem RdL.cp {A : Option Addr} {L : List CpV} (h : RdL w D 2 cpC A L) {k : Nat} (hi : k < L.length) :
    ∃ ad, A = some ad ∧ w.cell? (ad.add (k * 2)) = some (.int .i64 L[k].id) ∧ w.cell? ⟨(ad.add (k * 2)).block, (ad.add (k * 2)).off + 1, none⟩ = some (.slice L[k].A L[k].m.length L[k].c) := by
  obtain ⟨ad, e, _, hc⟩ := h (by omega)
  have hL := List.getElem?_eq_getElem hi
  exact ⟨ad, e, hc k _ hL 0 _ rfl, by rw [← add_at _ _ 0]; exact hc k _ hL 1 _ rfl⟩
end
theorem imA_ok (i : ImV) : (imA i).all (·.oneCell') = true := by unfold imA; simp [Value.oneCell']
theorem imA_n (i : ImV) : (imA i).size = 3 := rfl
theorem infoIm : (Try.prog.info? 25).map (·.size) = some 3 := by kernel_rfl
theorem infoCp : (Try.prog.info? 47).map (fun i => (i.zero, i.size, i.bytes)) = some (some (.agg #[.int .i64 0, .slice none 0 0]), 2, 32) := by kernel_rfl

/-! ### plain images -/
/-- An image. -/
structure PI where
  d : List UInt8
  S : List (Int × List UInt8)
  last : Int
  deriving DecidableEq
def pureC (S : List CpV) : List (Int × List UInt8) := S.map fun s => (s.id, s.m)
def ImV.p (i : ImV) : PI := ⟨i.d, pureC i.S, i.last⟩
theorem pureC_len (S : List CpV) : (pureC S).length = S.length := by unfold pureC; simp
theorem pureC_at (S : List CpV) (k : Nat) (h : k < S.length) : (pureC S)[k]'(by rw [pureC_len]; exact h) = (S[k].id, S[k].m) := by unfold pureC; simp
def zeroI : PI := ⟨[], [], 0⟩
/-- A value that is an image. -/
def ImY (w : World) (v : Value) (p : PI) : Prop := ∃ i : ImV, v = .agg (imA i) ∧ ImR w (fun _ => True) i ∧ i.p = p
theorem ImY.below {w w' : World} {v : Value} {p : PI} (h : ImY w v p) (b : Below w.heap.size w w') : ImY w' v p := by
  obtain ⟨i, h1, h2, h3⟩ := h
  exact ⟨i, h1, h2.below b, h3⟩
theorem ImY.of {w : World} {D : Nat → Prop} {i : ImV} (h : ImR w D i) : ImY w (.agg (imA i)) i.p := ⟨i, rfl, h.imp fun _ _ _ => trivial, rfl⟩
theorem ImY.agg {w : World} {v : Value} {p : PI} (h : ImY w v p) : ∃ cs, v = .agg cs ∧ cs.size = 3 ∧ cs.all (·.oneCell') = true := by
  obtain ⟨i, h1, _⟩ := h
  exact ⟨_, h1, rfl, imA_ok i⟩
theorem zeroIm (w : World) (D : Nat → Prop) : ImR w D ⟨none, [], 0, none, [], 0, 0⟩ := ⟨RdB.nil, Nat.le_refl _, by show (0 : Nat) ≤ _; omega, fun h => by simp at h, Nat.le_refl _, by show (0 : Nat) ≤ _; omega, fun s hs => by simp at hs⟩
theorem zeroIY (w : World) : ImY w (.agg #[.slice none 0 0, .slice none 0 0, .int .i64 0]) zeroI := ImY.of (i := ⟨none, [], 0, none, [], 0, 0⟩) (zeroIm w fun _ => True)

/-! ### where a copy stands -/
def findAt : List Int → Int → Nat → Int
  | [], _, _ => -1
  | s :: r, id, k => if s = id then (k : Int) else findAt r id (k + 1)
def findO (ids : List Int) (id : Int) : Int := findAt ids id 0
theorem find_here {ids : List Int} {id : Int} {k : Nat} (hk : k < ids.length) (h : findAt (ids.drop k) id k = findO ids id) (he : ids[k] = id) : findO ids id = (k : Int) := by
  rw [List.drop_eq_getElem_cons hk, findAt, if_pos he] at h
  exact h.symm
theorem find_next {ids : List Int} {id : Int} {k : Nat} (hk : k < ids.length) (h : findAt (ids.drop k) id k = findO ids id) (he : ids[k] ≠ id) : findAt (ids.drop (k + 1)) id (k + 1) = findO ids id := by
  rw [List.drop_eq_getElem_cons hk, findAt, if_neg he] at h
  exact h
theorem find_end {ids : List Int} {id : Int} {k : Nat} (hk : ids.length ≤ k) (h : findAt (ids.drop k) id k = findO ids id) : findO ids id = -1 := by
  rw [List.drop_eq_nil_of_le hk] at h
  exact h.symm
theorem findAt_bd (id : Int) : ∀ (l : List Int) (k : Nat), findAt l id k = -1 ∨ ((k : Int) ≤ findAt l id k ∧ findAt l id k < (k : Int) + l.length)
  | [], k => .inl rfl
  | s :: l, k => by
    rw [findAt]
    split
    · right; rw [List.length_cons]; omega
    · rcases findAt_bd id l (k + 1) with h | h
      · exact .inl h
      · right; rw [List.length_cons]; omega
theorem findO_bd (l : List Int) (id : Int) : findO l id = -1 ∨ (0 ≤ findO l id ∧ findO l id < l.length) := by
  have := findAt_bd id l 0
  unfold findO
  omega
def idsO (S : List CpV) : List Int := S.map fun s => s.id
def idsP (S : List (Int × List UInt8)) : List Int := S.map fun s => s.1
theorem ids_p (S : List CpV) : idsO S = idsP (pureC S) := by unfold idsO idsP pureC; rw [List.map_map]; rfl
theorem ids_len (S : List CpV) : (idsO S).length = S.length := by unfold idsO; simp
theorem ids_at (S : List CpV) (k : Nat) (h : k < S.length) : (idsO S)[k]'(by rw [ids_len]; exact h) = S[k].id := by unfold idsO; simp

set_option maxRecDepth 100000 in
theorem findclo_any (bx : Nat) (id : Int) (s : CpV) (w : World) (hB : Blk w bx 3 #[.int .i64 id]) :
    Calls Try.prog 50 #[.agg #[.int .i64 s.id, .slice s.A s.m.length s.c], .pointer (some ⟨bx, 0, none⟩)] w fun e w' => e = .returned (.bool (s.id == id)) ∧ Below w.heap.size w w' := by
  have hb := below_new w (.cells #[.int .i64 s.id, .slice s.A s.m.length s.c] 47)
  have c0 := (hB.below hb).cell 0
  simp at c0
  go_enter Try.func50, Try.ntmps50
  go_wp2_with fail
  go_ret
  exact ⟨rfl, hb⟩

set_option maxHeartbeats 4000000 in
set_option maxRecDepth 100000 in
theorem cpIndex_any (bx : Nat) (id : Int) (D : Nat → Prop) (A : Option Addr) (c : Nat) (L : List CpV) (w : World) (hB : Blk w bx 3 #[.int .i64 id]) (h : RdL w D 2 cpC A L) (hl : L.length ≤ 9223372036854775807) :
    Calls Try.prog 49 #[.slice A L.length c, .func (.func 50) #[] #[.pointer (some ⟨bx, 0, none⟩)]] w fun e w' => e = .returned (.int .i64 (findO (idsO L) id)) ∧ Below w.heap.size w w' := by
  have hent : ∀ (args : Array Value) (w : World), (callFunc 50 args).run Try.prog w = .ok (.enter 50 args) w := Go.Proofs.enters_of Try.func50 (by kernel_rfl) rfl
  go_enter Try.func49, Try.ntmps49
  go_wp2_with fail
  go_loopw [5, 8] (fun s5 i wr => ∃ k : Nat, k ≤ L.length ∧ i = .int .i64 (k : Int) ∧ Hid (findAt ((idsO L).drop k) id k = findO (idsO L) id) ∧ Below w.heap.size w wr) (fun _ i _ => L.length - (intOf i).toNat)
  case atStart => exact ⟨0, Nat.zero_le _, rfl, Lib.hid rfl, Below.refl _ _⟩
  case round =>
    obtain ⟨k, hk, rfl, HF, bb⟩ := hrel
    by_cases hlt : k < L.length
    · obtain ⟨ad, rfl, c0, c1⟩ := (h.below bb).cp hlt
      have hcl := findclo_any bx id L[k] _ (hB.below bb)
      have hids := ids_at L k hlt
      have hkl : k < (idsO L).length := by rw [ids_len]; exact hlt
      by_cases he : L[k].id = id
      · have E := Lib.hid (find_here hkl HF.out (hids.trans he))
        have hb : (L[k].id == id) = true := by simp [he]
        rw [hb] at hcl
        clear he hb hids
        generalize L[k].id = z at *
        generalize L[k].A = Ax at *
        generalize L[k].m = x at *
        generalize L[k].c = cx at *
        go_wp2_with fail
        refine hcl.mono ?_
        clear hcl
        rintro e w2 ⟨rfl, b2⟩
        go_wp2_with fail
        go_ret
        exact ⟨by rw [E.out]; rfl, bb.thenB' b2⟩
      · have E := Lib.hid (find_next hkl HF.out (fun e => he (hids.symm.trans e)))
        have hb : (L[k].id == id) = false := by simp [he]
        rw [hb] at hcl
        clear he hb hids
        generalize L[k].id = z at *
        generalize L[k].A = Ax at *
        generalize L[k].m = x at *
        generalize L[k].c = cx at *
        go_wp2_with fail
        refine hcl.mono ?_
        clear hcl
        rintro e w2 ⟨rfl, b2⟩
        go_wp2_with fail
        go_roundw
        case rel => exact ⟨k + 1, by omega, by go_num, E, bb.thenB' b2⟩
        case measure => simp [intOf] <;> omega
    · have E := Lib.hid (find_end (by rw [ids_len]; omega) HF.out)
      go_wp2_with fail
      go_ret
      exact ⟨by rw [E.out]; rfl, bb⟩

set_option maxHeartbeats 4000000 in
set_option maxRecDepth 100000 in
theorem find_any (D : Nat → Prop) (i : ImV) (id : Int) (w : World) (hr : ImR w D i) :
    Calls Try.prog 35 #[.agg (imA i), .int .i64 id] w fun e w' => e = .returned (.int .i64 (findO (idsO i.S) id)) ∧ Below w.heap.size w w' := by
  obtain ⟨_, _, _, hS, hl, hm, _⟩ := hr
  have b1 := below_new w (.cells (imA i) 25)
  have b2 := below_new (w.alloc (.cells (imA i) 25)) (.cells #[.int .i64 id] 3)
  have hB := Blk.new (w.alloc (.cells (imA i) 25)) 3 #[.int .i64 id]
  have hsz : (w.alloc (.cells (imA i) 25)).heap.size = w.heap.size + 1 := Array.size_push ..
  rw [hsz] at hB
  have hix := cpIndex_any (w.heap.size + 1) id D i.CA i.cc i.S _ hB ((hS.below b1).below b2) (by omega)
  have hmf : ∀ (fn : Fn) (first cap : Array Value) (w : World), (Instr.makeFunc fn first cap).run Try.prog w = .ok (.func fn first cap) w := fun _ _ _ _ => rfl
  have bb := b1.thenB' b2
  clear b1 b2 hB hsz hS
  unfold imA at *
  generalize findO (idsO i.S) id = r at *
  go_enter Try.func35, Try.ntmps35
  go_wp2_with fail
  refine hix.mono ?_
  clear hix
  rintro e w2 ⟨rfl, b2⟩
  go_wp2_with fail
  go_ret
  exact ⟨rfl, bb.thenB' b2⟩

set_option maxHeartbeats 4000000 in
set_option maxRecDepth 100000 in
theorem rfind_any (D : Nat → Prop) (i : ImV) (id : Int) (w : World) (hr : ImR w D i) :
    Calls Try.prog 40 #[.agg (imA i), .int .i64 id] w fun e w' => e = .returned (.int .i64 (findO (idsO i.S) id)) ∧ Below w.heap.size w w' := by
  obtain ⟨_, _, _, hS, hl, hm, _⟩ := hr
  have b1 := below_new w (.cells (imA i) 25)
  have hB := Blk.new w 25 (imA i)
  have hS := hS.below b1
  obtain ⟨DA, d, dc, A, L, cc, la⟩ := i
  unfold imA at *
  dsimp only at *
  have HL : Hid (L.length ≤ 9223372036854775807) := by unfold Hid; omega
  go_enter Try.func40, Try.ntmps40
  go_wp2_with fail
  generalize w.alloc (.cells #[.slice DA d.length dc, .slice A L.length cc, .int .i64 la] 25) = w1 at *
  have c5 := hB.cell 1
  simp at c5
  go_loopw [5] (fun i wr => ∃ k : Nat, k ≤ L.length ∧ i = .int .i64 (k : Int) ∧ Hid (findAt ((idsO L).drop k) id k = findO (idsO L) id) ∧ w1 = wr) (fun i _ => L.length - (intOf i).toNat)
  case atStart => exact ⟨0, Nat.zero_le _, rfl, Lib.hid rfl, rfl⟩
  case round =>
    obtain ⟨k, hk, rfl, HF, rfl⟩ := hrel
    by_cases hlt : k < L.length
    · obtain ⟨ad, rfl, c0, c1⟩ := hS.cp hlt
      have hids := ids_at L k hlt
      have hkl : k < (idsO L).length := by rw [ids_len]; exact hlt
      by_cases he : L[k].id = id
      · have E := Lib.hid (find_here hkl HF.out (hids.trans he))
        have hb : (L[k].id == id) = true := by simp [he]
        clear he hids
        generalize L[k].id = z at *
        go_wp2_with fail
        go_ret
        exact ⟨by rw [E.out]; rfl, b1⟩
      · have E := Lib.hid (find_next hkl HF.out (fun e => he (hids.symm.trans e)))
        have hb : (L[k].id == id) = false := by simp [he]
        clear he hids
        generalize L[k].id = z at *
        go_wp2_with fail
        go_roundw
        case rel => exact ⟨k + 1, by omega, by have := HL.out; go_num, E, trivial⟩
        case measure => simp [intOf] <;> omega
    · have E := Lib.hid (find_end (by rw [ids_len]; omega) HF.out)
      go_wp2_with fail
      go_ret
      exact ⟨by rw [E.out]; rfl, b1⟩
end Go.Proofs.Ytcdodchjgadcoaa
