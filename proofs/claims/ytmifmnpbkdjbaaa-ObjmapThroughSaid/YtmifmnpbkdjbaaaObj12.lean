import Derived.Test.YtmifmnpbkdjbaaaObj11
namespace Go.Proofs.Ytmifmnpbkdjbaaa
open Go.RowKit
set_option linter.unusedVariables false

theorem toNat64 (n : Nat) (h : n < 9223372036854775808) : (BitVec.ofInt 64 (n : Int)).toNat = n := by
  rw [BitVec.toNat_ofInt]; omega
theorem and3 (n : Nat) (h : n < 9223372036854775808) : bits .and .i64 (n : Int) 3 = ((n % 4 : Nat) : Int) := by
  show IntKind.i64.wrap (((BitVec.ofInt 64 (n : Int) &&& BitVec.ofInt 64 ((3 : Nat) : Int)).toNat : Nat) : Int) = _
  rw [BitVec.toNat_and, toNat64 n h, toNat64 3 (by decide), Nat.and_two_pow_sub_one_eq_mod n 2, IntKind.wrap_i64]
  omega
theorem or256 (x y : Nat) (hx : x < 256) (hy : y < 256) : bits .or .i64 ((x : Int) * 256) (y : Int) = ((x * 256 + y : Nat) : Int) := by
  show IntKind.i64.wrap (((BitVec.ofInt 64 ((x * 256 : Nat) : Int) ||| BitVec.ofInt 64 ((y : Nat) : Int)).toNat : Nat) : Int) = _
  have h := Nat.shiftLeft_add_eq_or_of_lt (i := 8) (show y < 2 ^ 8 from hy) x
  rw [Nat.shiftLeft_eq] at h
  rw [BitVec.toNat_or, toNat64 _ (by omega), toNat64 _ (by omega), ← h, IntKind.wrap_i64]
  omega

def bitO (b : List UInt8) (i : Nat) : Int := (((b.getD (2 + i / 4) 0).toNat / 4 ^ (i % 4) % 4 : Nat) : Int)

set_option maxRecDepth 100000 in
theorem unpclo_any (bx : Nat) (D : Nat → Prop) (A : Option Addr) (c : Nat) (b : List UInt8) (i : Nat) (w : World) (hB : Blk w bx 35 #[.slice A b.length c]) (h : RdB w D A b) (hi : 2 + i / 4 < b.length) (hi63 : i ≤ 1000000) :
    Calls Try.prog 37 #[.int .i64 (i : Int), .pointer (some ⟨bx, 0, none⟩)] w fun e w' => e = .returned (.int .i64 (bitO b i)) ∧ w = w' := by
  have c0 := hB.cell 0
  simp at c0
  obtain ⟨ad, rfl, _, hc⟩ := h.at_ hi
  have e1 : Hid (bitO b i = ((b[2 + i / 4].toNat / 4 ^ (i % 4) % 4 : Nat) : Int)) := by unfold Hid bitO; rw [List.getD_eq_getElem?_getD, List.getElem?_eq_getElem hi]; rfl
  have hlt := b[2 + i / 4].toNat_lt
  generalize b[2 + i / 4].toNat = x at *
  obtain ⟨q, hq⟩ : ∃ q, i / 4 = q := ⟨_, rfl⟩
  have hq1 : ((i : Int).tdiv 4) = (q : Int) := by rw [← hq]; rfl
  rw [hq] at hc hi
  have hr : (i : Int).tmod 4 = ((i % 4 : Nat) : Int) := rfl
  have h4 : i % 4 < 4 := Nat.mod_lt _ (by decide)
  generalize i % 4 = r at *
  have hc2 : r = 0 ∨ r = 1 ∨ r = 2 ∨ r = 3 := by omega
  clear h4
  have hr : (i : Int).tmod 4 = (r : Int) := hr
  have hb0 : bits .and .i64 (x : Int) 3 = ((x % 4 : Nat) : Int) := and3 x (by omega)
  have hb1 : bits .and .i64 ((x : Int) / 4) 3 = ((x / 4 % 4 : Nat) : Int) := and3 (x / 4) (by omega)
  have hb2 : bits .and .i64 ((x : Int) / 16) 3 = ((x / 16 % 4 : Nat) : Int) := and3 (x / 16) (by omega)
  have hb3 : bits .and .i64 ((x : Int) / 64) 3 = ((x / 64 % 4 : Nat) : Int) := and3 (x / 64) (by omega)
  rcases hc2 with rfl | rfl | rfl | rfl
  all_goals
    go_enter Try.func37, Try.ntmps37
    go_wp2_with fail
    go_ret
    exact ⟨by rw [e1.out]; simp, rfl⟩

theorem unpnz_any (z : Int) (w : World) : Calls Try.prog 38 #[.int .i64 z] w fun e w' => e = .returned (.bool (z != 0)) ∧ w = w' := by
  go_enter Try.func38, Try.ntmps38
  go_wp2_with fail
  go_ret
  exact ⟨rfl, rfl⟩

def lenO (b : List UInt8) : Nat := (b.getD 0 0).toNat * 256 + (b.getD 1 0).toNat
def bitsO (b : List UInt8) : List Int := (List.range ((lenO b + 3) / 4 * 4)).map (bitO b)
/-- What bytes are unpacked to. -/
def unpO (b : List UInt8) : Option (List Int) :=
  if 2 ≤ b.length ∧ lenO b ≤ 512 ∧ b.length = 2 + (lenO b + 3) / 4 ∧ ((bitsO b).drop (lenO b)).any (· != 0) = false ∧ mayO ((bitsO b).take (lenO b)) = true then some ((bitsO b).take (lenO b)) else none

set_option maxRecDepth 100000 in
theorem Unpack_any (D : Nat → Prop) (A : Option Addr) (c : Nat) (b : List UInt8) (w : World) (h : RdB w D A b) (hc : b.length ≤ c) (hm : c ≤ 9223372036854775807) :
    Calls Try.prog 24 #[.slice A b.length c] w fun e w' => ∃ A' n, e = .returned (.tuple #[.slice A' n n, .bool (unpO b).isSome]) ∧ n = ((unpO b).getD []).length ∧ RowI w' w.heap.size A' ((unpO b).getD []) ∧ Below w.heap.size w w' := by
  have hB := Blk.new w 35 #[.slice A b.length c]
  have bn := below_new w (.cells #[.slice A b.length c] 35)
  have hmf : ∀ (fn : Fn) (first cap : Array Value) (w : World), (Instr.makeFunc fn first cap).run Try.prog w = .ok (.func fn first cap) w := fun _ _ _ _ => rfl
  have h' := h.below bn
  by_cases h2 : b.length < 2
  · have e : Hid (unpO b = none) := by unfold Hid unpO; rw [if_neg (by omega)]
    go_enter Try.func24, Try.ntmps24
    go_wp2_with fail
    go_ret2
    exact ⟨none, 0, by rw [e.out] <;> rfl, by rw [e.out] <;> rfl, by rw [e.out]; exact RowI.nil, bn⟩
  · obtain ⟨ad, rfl, _, p0⟩ := h'.at_ (k := 0) (by omega)
    obtain ⟨ad', e0, _, p1⟩ := h'.at_ (k := 1) (by omega)
    injection e0 with e0
    subst e0
    have hn : Hid (lenO b = b[0].toNat * 256 + b[1].toNat) := by
      unfold Hid lenO
      rw [List.getD_eq_getElem?_getD, List.getElem?_eq_getElem (by omega : 0 < b.length), List.getD_eq_getElem?_getD, List.getElem?_eq_getElem (by omega : 1 < b.length)]; rfl
    have x1 := b[0].toNat_lt
    have y1 := b[1].toNat_lt
    generalize b[0].toNat = x at *
    generalize b[1].toNat = y at *
    have hor := or256 x y x1 y1
    rw [← hn.out] at hor
    clear hn
    obtain ⟨n, hn⟩ : ∃ n, n = lenO b := ⟨_, rfl⟩
    rw [← hn] at hor
    obtain ⟨q, hq⟩ : ∃ q : Nat, q = (n + 3) / 4 := ⟨_, rfl⟩
    have hqi : ((n : Int) + 3) / 4 = (q : Int) := by omega
    obtain ⟨N, hN⟩ : ∃ N : Nat, N = q * 4 := ⟨_, rfl⟩
    have hNi : (q : Int) * 4 = (N : Int) := by omega
    have HU : Hid (unpO b = if n ≤ 512 ∧ b.length = 2 + q ∧ ((bitsO b).drop n).any (· != 0) = false ∧ mayO ((bitsO b).take n) = true then some ((bitsO b).take n) else none) := by
      unfold Hid unpO
      rw [← hn, ← hq]
      by_cases h : n ≤ 512 ∧ b.length = 2 + q ∧ ((bitsO b).drop n).any (· != 0) = false ∧ mayO ((bitsO b).take n) = true
      · rw [if_pos ⟨by omega, h⟩, if_pos h]
      · rw [if_neg (fun h' => h h'.2), if_neg h]
    have HB : Hid (bitsO b = (List.range N).map (bitO b)) := by unfold Hid bitsO; rw [← hn, ← hq, ← hN]
    have hnN : n ≤ N := by omega
    have hNn : N ≤ n + 3 := by omega
    have hql : n ≤ 512 → b.length = 2 + q → ∀ i, i < N → 2 + i / 4 < b.length := fun h1 h2 i hi => by omega
    have hx2 : x < 256 := x1
    have hy2 : y < 256 := y1
    have hwx : IntKind.i64.wrap (x : Int) = (x : Int) := by rw [IntKind.wrap_i64]; omega
    have hwy : IntKind.i64.wrap (y : Int) = (y : Int) := by rw [IntKind.wrap_i64]; omega
    have hwx2 : IntKind.i64.wrap ((x : Int) * 256) = (x : Int) * 256 := by rw [IntKind.wrap_i64]; omega
    have hl0 : 0 < b.length := by omega
    have hl1 : 1 < b.length := by omega
    have hl00 : ¬ b.length = 0 := by omega
    have hl01 : (0 : Int) < (b.length : Int) := by omega
    have hl11 : (1 : Int) < (b.length : Int) := by omega
    have hn65 : n ≤ 65535 + 255 := by
      have : (n : Int) = (x : Int) * 256 + y := by
        have := or256 x y x1 y1
        rw [this] at hor
        omega
      omega
    have HQL := Lib.hid hql
    clear hn hq hN hql
    have pre : ∀ W, Blk W w.heap.size 35 #[.slice (some ad) b.length c] → True := fun _ _ => trivial
    go_enter Try.func24, Try.ntmps24
    go_wp2_with fail
    generalize w.alloc (.cells #[.slice (some ad) b.length c] 35) = W at *
    have c0 := hB.cell 0
    simp at c0
    have p00 := p0
    rw [add_zero_] at p00
    have p11 : W.cell? ⟨ad.block, ad.off + 1, none⟩ = some (.int .u8 (y : Int)) := p1
    by_cases hA : 512 < n
    · have e : Hid (unpO b = none) := by unfold Hid; rw [HU.out, if_neg (by omega)]
      go_quiet (fail)
      go_wp2_with fail
      go_ret2
      exact ⟨none, 0, by rw [e.out] <;> rfl, by rw [e.out] <;> rfl, by rw [e.out]; exact RowI.nil, below_drewN bn nq⟩
    · by_cases hBn : b.length = 2 + q
      · have hneq : ((b.length : Int) != 2 + (q : Int)) = false := by simp; omega
        have HQ := Lib.hid (HQL.out (by omega) hBn)
        have HLn := Lib.hid hBn
        clear hBn
        go_quiet (fail)
        have bd := below_drewN (Below.refl W.heap.size W) nq
        have hB := hB.below bd
        have h' := h'.below bd
        have bn := bn.thenB' bd
        generalize W.drewN nq = W1 at *
        clear c0 p0 p1 p00 p11 bd
        have c0 := hB.cell 0
        simp at c0
        go_wp2_with fail
        refine (each_any N 37 #[.pointer (some ⟨w.heap.size, 0, none⟩)] (bitO b) _ (by unfold big; omega) (Go.Proofs.enters_of Try.func37 (by kernel_rfl) rfl) (fun i hi W hW => unpclo_any w.heap.size D (some ad) c b i W (hB.below hW) (h'.below hW) (HQ.out i hi) (by omega))).mono ?_
        rintro e w1 ⟨g, rfl, r, b1⟩
        rw [← HB.out] at r
        have hlB : (bitsO b).length = N := by rw [HB.out]; simp
        have bb := bn.thenB' b1
        have r := r.low bn.size
        generalize bitsO b = l at *
        have hlt : (l.take n).length = n := by rw [List.length_take]; omega
        have hld : (l.drop n).length = N - n := by rw [List.length_drop]; omega
        have rd : RdI w1 (fun b => w.heap.size ≤ b) (cutA (some ⟨g, 0, none⟩) n N 1) (l.drop n) := RdI.drop r.rd (by omega) (by omega)
        have rt := (r.take n)
        have HLB := Lib.hid hlB
        clear hlB
        go_wp2_with fail
        have hcon := Contains_any 38 #[] (· != 0) _ (cutA (some ⟨g, 0, none⟩) n N 1) (N - n) (l.drop n) w1 rd (by omega) (Go.Proofs.enters_of Try.func38 (by kernel_rfl) rfl) (fun z => unpnz_any z w1)
        have hchk := Check_any _ (some ⟨g, 0, none⟩) N (l.take n) w1 rt.rd (by omega)
        rw [hld] at hcon
        rw [hlt] at hchk
        have HLT := Lib.hid hlt
        clear hld hlt
        cases hbc : (l.drop n).any (· != 0)
        · rw [hbc] at hcon
          cases hbk : mayO (l.take n)
          · have e : Hid (unpO b = none) := by unfold Hid; rw [HU.out, hbc, hbk, if_neg (by simp)]
            rw [hbk] at hchk
            clear hbc hbk
            refine hcon.mono ?_
            rintro e' w2 ⟨rfl, rfl⟩
            go_wp2_with fail
            refine hchk.mono ?_
            rintro e' w3 ⟨rfl, rfl⟩
            go_wp2_with fail
            go_ret2
            exact ⟨none, 0, by rw [e.out] <;> rfl, by rw [e.out] <;> rfl, by rw [e.out]; exact RowI.nil, bb⟩
          · have e : Hid (unpO b = some (l.take n)) := by unfold Hid; rw [HU.out, hbc, hbk, if_pos ⟨by omega, HLn.out, rfl, rfl⟩]
            rw [hbk] at hchk
            clear hbc hbk
            refine hcon.mono ?_
            rintro e' w2 ⟨rfl, rfl⟩
            go_wp2_with fail
            refine hchk.mono ?_
            rintro e' w3 ⟨rfl, rfl⟩
            go_wp2_with fail
            go_ret2
            exact ⟨some ⟨g, 0, none⟩, n, by rw [e.out] <;> rfl, by rw [e.out]; exact HLT.out.symm, by rw [e.out]; exact rt, bb⟩
        · have e : Hid (unpO b = none) := by unfold Hid; rw [HU.out, hbc, if_neg (by simp)]
          rw [hbc] at hcon
          clear hbc
          refine hcon.mono ?_
          rintro e' w2 ⟨rfl, rfl⟩
          go_wp2_with fail
          go_ret2
          exact ⟨none, 0, by rw [e.out] <;> rfl, by rw [e.out] <;> rfl, by rw [e.out]; exact RowI.nil, bb⟩
      · have hneq : ((b.length : Int) != 2 + (q : Int)) = true := by simp; omega
        have e : Hid (unpO b = none) := by unfold Hid; rw [HU.out, if_neg (fun h => hBn h.2.1)]
        clear hBn
        go_quiet (fail)
        go_wp2_with fail
        go_ret2
        exact ⟨none, 0, by rw [e.out] <;> rfl, by rw [e.out] <;> rfl, by rw [e.out]; exact RowI.nil, below_drewN bn nq⟩
end Go.Proofs.Ytmifmnpbkdjbaaa
