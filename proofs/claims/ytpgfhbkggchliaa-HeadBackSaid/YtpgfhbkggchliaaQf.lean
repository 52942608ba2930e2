/- Parts of the proof, joined: Obj11 Obj12 ObjP ObjQ BlksB ObjR ObjS ObjT. -/
import Derived.Test.YtpgfhbkggchliaaQe
import Derived.Test.YtpgfhbkggchliaaQa
namespace Go.Proofs.Ytpgfhbkggchliaa
open Go.RowKit
set_option linter.unusedVariables false

set_option maxHeartbeats 1000000 in
set_option maxRecDepth 100000 in
theorem rChanged_any (D D' D2 : Nat → Prop) (A B : Option Addr) (c d : Nat) (m : List Int) (L : List RV) (w : World) (h : RdI w D A m) (hL : RdL w D' 1 rowC B L) (hs : ∀ s ∈ L, RdI w D2 s.A s.l) (hl : L.length ≤ 9223372036854775807) :
    Calls Try.prog 56 #[.slice A m.length c, .slice B L.length d] w fun e w' => ∃ v, e = .returned v ∧ OwnI w' w.heap.size v (changedO m (L.map (·.l))) ∧ Below w.heap.size w w' := by
  have h' : RdI w (fun b => D b ∧ b < w.heap.size) A m := Rd.imp h (fun b h1 h2 => ⟨h2, h1⟩) (by decide)
  have hL' : RdL w (fun b => D' b ∧ b < w.heap.size) 1 rowC B L := hL.imp (fun _ => Nat.zero_lt_one) (fun b h1 h2 => ⟨h2, h1⟩)
  have hs' : ∀ s ∈ L, RdI w (fun b => D2 b ∧ b < w.heap.size) s.A s.l := fun s hm => Rd.imp (hs s hm) (fun b h1 h2 => ⟨h2, h1⟩) (by decide)
  obtain ⟨p, hp⟩ : ∃ p, p = diffO m (L.map (·.l)) := ⟨_, rfl⟩
  have HC : Hid (changedO m (L.map (·.l)) = chg p 512) := by rw [hp]; rfl
  have HP : Hid (∀ k, p k = L.any fun s => dd (gN s.l k) (gN m k)) := fun k => by rw [hp, diffO_eq]
  clear hp
  go_enter Try.func56, Try.ntmps56
  go_wp2_with fail
  go_loopw [5, 6, 7, 8, 9] (fun b i b7 b8 b9 wr => ∃ k : Nat, k ≤ 512 ∧ i = .int .i64 (k : Int) ∧ OwnI wr w.heap.size b (chg p k) ∧ Below w.heap.size w wr) (fun _ i _ _ _ _ => 512 - (intOf i).toNat)
  case atStart => exact ⟨0, Nat.zero_le _, rfl, OwnI.nil, Below.refl _ _⟩
  case round =>
    obtain ⟨k, hk, rfl, hown, bb⟩ := hrel
    by_cases hlt : k < 512
    · have hcall0 := rGet_any _ A c m k wr (Rd.belowB h' bb (fun _ h => h.2))
      rw [gO_nat] at hcall0
      have HY : Hid (∀ y, gN m k = y → (L.any fun s => dd (gN s.l k) y) = p k) := fun b hb => by rw [HP.out, hb]
      generalize gN m k = y at *
      have hlt5 : decide ((k : Int) < 512) = true := by simp; omega
      have HN := Lib.hid (chg_no p k)
      have HS := Lib.hid (chg_yes p k)
      have hql := chg_len p k
      obtain ⟨xs, hxs⟩ : ∃ xs, xs = chg p k := ⟨_, rfl⟩
      rw [← hxs] at hown HN HS hql
      clear hxs
      have LR := hL'.belowB bb (fun _ h => h.2)
      have LS : ∀ s ∈ L, RdI wr (fun b => D2 b ∧ b < w.heap.size) s.A s.l := fun s hm => Rd.belowB (hs' s hm) bb (fun _ h => h.2)
      by_cases hy : y = 0
      ·
        have hyb : (y == 0) = true := by simp [hy]
        have hdz : Hid (∀ z, z ≠ 1 → dd z y = !(z == 0)) := fun z hz => by
          unfold dd
          by_cases h : z = 0 <;> simp [hy, hz, h]
        clear hy
        go_wp2_with fail
        go_loopw [7, 8, 9] (fun b7 i b9 wr' => ∃ j : Nat, j ≤ L.length ∧ i = .int .i64 (j : Int) ∧ b7 = .bool ((L.take j).any fun s => dd (gN s.l k) y) ∧ wr = wr') (fun _ i _ _ => L.length - (intOf i).toNat)
        case atStart => exact ⟨0, Nat.zero_le _, rfl, rfl, rfl⟩
        case round =>  
          obtain ⟨j, hj, rfl, rfl, rfl⟩ := hrel
          by_cases hj2 : j < L.length
          · obtain ⟨ad, e0, hcell⟩ := LR.row hj2
            have hcall := rGet_any _ _ L[j].c _ k wr (LS _ (List.getElem_mem hj2))
            rw [gO_nat] at hcall
            have HT : Hid (((L.take (j + 1)).any fun s => dd (gN s.l k) y) = (((L.take j).any fun s => dd (gN s.l k) y) || dd (gN L[j].l k) y)) := any_take _ _ _ hj2
            subst e0
            generalize gN L[j].l k = z at *
            generalize L[j] = s at *
            obtain ⟨sA, sl, sc⟩ := s
            simp only at hcell hcall
            cases hcb : (L.take j).any fun s => dd (gN s.l k) y
            · by_cases z1 : z = 1
              · have HR : Hid (((L.take (j + 1)).any fun s => dd (gN s.l k) y) = true) := by unfold Hid; rw [HT.out, hcb]; unfold dd; simp [z1]
                subst z1
                clear HT hcb
                go_wp2_with fail
                with_reducible refine hcall.mono ?_
                rintro e w3 ⟨rfl, rfl⟩
                go_wp2_with fail
                go_roundw
                case rel => exact ⟨j + 1, by omega, by go_num, by rw [HR.out], trivial⟩
                case measure => simp [intOf] <;> omega
              · have hd := hdz.out z z1
                have z1b : (z == 1) = false := by simp [z1]
                cases z0 : (z == 0)
                · rw [z0] at hd
                  have HR : Hid (((L.take (j + 1)).any fun s => dd (gN s.l k) y) = true) := by unfold Hid; rw [HT.out, hcb, hd]; rfl
                  clear HT hcb hd z1
                  go_wp2_with fail
                  with_reducible refine hcall.mono ?_
                  rintro e w3 ⟨rfl, rfl⟩
                  go_wp2_with fail
                  with_reducible refine hcall0.mono ?_
                  rintro e w4 ⟨rfl, rfl⟩
                  go_wp2_with fail
                  go_roundw
                  case rel => exact ⟨j + 1, by omega, by go_num, by rw [HR.out] <;> rfl, trivial⟩
                  case measure => simp [intOf] <;> omega
                · rw [z0] at hd
                  have HR : Hid (((L.take (j + 1)).any fun s => dd (gN s.l k) y) = false) := by unfold Hid; rw [HT.out, hcb, hd]; rfl
                  clear HT hcb hd z1
                  go_wp2_with fail
                  with_reducible refine hcall.mono ?_
                  rintro e w3 ⟨rfl, rfl⟩
                  go_wp2_with fail
                  with_reducible refine hcall0.mono ?_
                  rintro e w4 ⟨rfl, rfl⟩
                  go_wp2_with fail
                  go_roundw
                  case rel => exact ⟨j + 1, by omega, by go_num, by rw [HR.out] <;> rfl, trivial⟩
                  case measure => simp [intOf] <;> omega
            · have HR : Hid (((L.take (j + 1)).any fun s => dd (gN s.l k) y) = true) := by unfold Hid; rw [HT.out, hcb]; rfl
              clear HT hcb
              go_wp2_with fail
              with_reducible refine hcall.mono ?_
              rintro e w3 ⟨rfl, rfl⟩
              go_wp2_with fail
              go_roundw
              case rel => exact ⟨j + 1, by omega, by go_num, by rw [HR.out], trivial⟩
              case measure => simp [intOf] <;> omega
          · obtain rfl : j = L.length := by omega
            rw [List.take_of_length_le (Nat.le_refl _), HY.out _ rfl]
            cases hpk : p k
            · have h1 := HN.out hpk
              have HE := Lib.hid h1
              clear hpk h1
              go_wp2_with fail
              go_roundw
              case rel => exact ⟨k + 1, by omega, by go_num, by rw [HE.out]; exact hown, bb⟩
              case measure => simp [intOf] <;> omega
            · have h1 := HS.out hpk
              have HE := Lib.hid h1
              clear hpk h1
              go_wp2_with (at_builtin; refine wpList_appI rfl (.tmp 41) (.tmp 43) rfl w.heap.size _ xs rfl (OwnI.below hown (below_new _ _)) _ (some ⟨wr.heap.size, 0, none⟩) 1 1 [(k : Int)] rfl rfl (rd_newI wr k) (by unfold big; simp only [List.length_cons, List.length_nil]; omega) (Nat.le_trans bb.size (below_new wr _).size) ?_; intro v' w' h1 h2)
              have b2 := (bb.thenB' (below_new wr _)).trans (h2.below (OwnI.below hown (below_new wr _)) (Nat.le_refl _) (Nat.le_trans bb.size (below_new wr _).size))
              go_roundw
              case rel => exact ⟨k + 1, by omega, by go_num, by rw [HE.out]; exact h1, b2⟩
              case measure => simp [intOf] <;> omega
      ·
        have hyb : (y == 0) = false := by simp [hy]
        have hdz : Hid (∀ z, z ≠ 1 → dd z y = (z == 0)) := fun z hz => by
          unfold dd
          by_cases h : z = 0 <;> simp [hy, hz, h]
        clear hy
        go_wp2_with fail
        go_loopw [7, 8, 9] (fun b7 i b9 wr' => ∃ j : Nat, j ≤ L.length ∧ i = .int .i64 (j : Int) ∧ b7 = .bool ((L.take j).any fun s => dd (gN s.l k) y) ∧ wr = wr') (fun _ i _ _ => L.length - (intOf i).toNat)
        case atStart => exact ⟨0, Nat.zero_le _, rfl, rfl, rfl⟩
        case round =>  
          obtain ⟨j, hj, rfl, rfl, rfl⟩ := hrel
          by_cases hj2 : j < L.length
          · obtain ⟨ad, e0, hcell⟩ := LR.row hj2
            have hcall := rGet_any _ _ L[j].c _ k wr (LS _ (List.getElem_mem hj2))
            rw [gO_nat] at hcall
            have HT : Hid (((L.take (j + 1)).any fun s => dd (gN s.l k) y) = (((L.take j).any fun s => dd (gN s.l k) y) || dd (gN L[j].l k) y)) := any_take _ _ _ hj2
            subst e0
            generalize gN L[j].l k = z at *
            generalize L[j] = s at *
            obtain ⟨sA, sl, sc⟩ := s
            simp only at hcell hcall
            cases hcb : (L.take j).any fun s => dd (gN s.l k) y
            · by_cases z1 : z = 1
              · have HR : Hid (((L.take (j + 1)).any fun s => dd (gN s.l k) y) = true) := by unfold Hid; rw [HT.out, hcb]; unfold dd; simp [z1]
                subst z1
                clear HT hcb
                go_wp2_with fail
                with_reducible refine hcall.mono ?_
                rintro e w3 ⟨rfl, rfl⟩
                go_wp2_with fail
                go_roundw
                case rel => exact ⟨j + 1, by omega, by go_num, by rw [HR.out], trivial⟩
                case measure => simp [intOf] <;> omega
              · have hd := hdz.out z z1
                have z1b : (z == 1) = false := by simp [z1]
                cases z0 : (z == 0)
                · rw [z0] at hd
                  have HR : Hid (((L.take (j + 1)).any fun s => dd (gN s.l k) y) = false) := by unfold Hid; rw [HT.out, hcb, hd]; rfl
                  clear HT hcb hd z1
                  go_wp2_with fail
                  with_reducible refine hcall.mono ?_
                  rintro e w3 ⟨rfl, rfl⟩
                  go_wp2_with fail
                  with_reducible refine hcall0.mono ?_
                  rintro e w4 ⟨rfl, rfl⟩
                  go_wp2_with fail
                  go_roundw
                  case rel => exact ⟨j + 1, by omega, by go_num, by rw [HR.out] <;> rfl, trivial⟩
                  case measure => simp [intOf] <;> omega
                · rw [z0] at hd
                  have HR : Hid (((L.take (j + 1)).any fun s => dd (gN s.l k) y) = true) := by unfold Hid; rw [HT.out, hcb, hd]; rfl
                  clear HT hcb hd z1
                  go_wp2_with fail
                  with_reducible refine hcall.mono ?_
                  rintro e w3 ⟨rfl, rfl⟩
                  go_wp2_with fail
                  with_reducible refine hcall0.mono ?_
                  rintro e w4 ⟨rfl, rfl⟩
                  go_wp2_with fail
                  go_roundw
                  case rel => exact ⟨j + 1, by omega, by go_num, by rw [HR.out] <;> rfl, trivial⟩
                  case measure => simp [intOf] <;> omega
            · have HR : Hid (((L.take (j + 1)).any fun s => dd (gN s.l k) y) = true) := by unfold Hid; rw [HT.out, hcb]; rfl
              clear HT hcb
              go_wp2_with fail
              with_reducible refine hcall.mono ?_
              rintro e w3 ⟨rfl, rfl⟩
              go_wp2_with fail
              go_roundw
              case rel => exact ⟨j + 1, by omega, by go_num, by rw [HR.out], trivial⟩
              case measure => simp [intOf] <;> omega
          · obtain rfl : j = L.length := by omega
            rw [List.take_of_length_le (Nat.le_refl _), HY.out _ rfl]
            cases hpk : p k
            · have h1 := HN.out hpk
              have HE := Lib.hid h1
              clear hpk h1
              go_wp2_with fail
              go_roundw
              case rel => exact ⟨k + 1, by omega, by go_num, by rw [HE.out]; exact hown, bb⟩
              case measure => simp [intOf] <;> omega
            · have h1 := HS.out hpk
              have HE := Lib.hid h1
              clear hpk h1
              go_wp2_with (at_builtin; refine wpList_appI rfl (.tmp 41) (.tmp 43) rfl w.heap.size _ xs rfl (OwnI.below hown (below_new _ _)) _ (some ⟨wr.heap.size, 0, none⟩) 1 1 [(k : Int)] rfl rfl (rd_newI wr k) (by unfold big; simp only [List.length_cons, List.length_nil]; omega) (Nat.le_trans bb.size (below_new wr _).size) ?_; intro v' w' h1 h2)
              have b2 := (bb.thenB' (below_new wr _)).trans (h2.below (OwnI.below hown (below_new wr _)) (Nat.le_refl _) (Nat.le_trans bb.size (below_new wr _).size))
              go_roundw
              case rel => exact ⟨k + 1, by omega, by go_num, by rw [HE.out]; exact h1, b2⟩
              case measure => simp [intOf] <;> omega
    · obtain rfl : k = 512 := by omega
      rw [← HC.out] at hown
      go_wp2_with fail
      go_ret
      exact ⟨_, rfl, hown, bb⟩
end Go.Proofs.Ytpgfhbkggchliaa

namespace Go.Proofs.Ytpgfhbkggchliaa
open Go.RowKit
set_option linter.unusedVariables false

theorem toNat64 (n : Nat) (h : n < 9223372036854775808) : (BitVec.ofInt 64 (n : Int)).toNat = n := by
  rw [BitVec.toNat_ofInt]; omega
theorem and3 (n : Nat) (h : n < 9223372036854775808) : bits .and .i64 (n : Int) 3 = ((n % 4 : Nat) : Int) := by
  show IntKind.i64.wrap (((BitVec.ofInt 64 (n : Int) &&& BitVec.ofInt 64 ((3 : Nat) : Int)).toNat : Nat) : Int) = _
  rw [BitVec.toNat_and, toNat64 n h, toNat64 3 (by decide), Nat.and_two_pow_sub_one_eq_mod n 2, IntKind.wrap_i64]
  omega
theorem or256 (x y : Nat) (hx : x < 256) (hy : y < 256) : bits .or .i64 ((x : Int) * 256) (y : Int) = ((x * 256 + y : Nat) : Int) := by
  show IntKind.i64.wrap (((BitVec.ofInt 64 ((x * 256 : Nat) : Int) ||| BitVec.ofInt 64 ((y : Nat) : Int)).toNat : Nat) : Int) = _
  have h := Nat.shiftLeft_add_eq_or_of_lt (i := 8) (show y < 2 ^ 8 from hy) x
  rw [Nat.shiftLeft_eq] at h
  rw [BitVec.toNat_or, toNat64 _ (by omega), toNat64 _ (by omega), ← h, IntKind.wrap_i64]
  omega

def bitO (b : List UInt8) (i : Nat) : Int := (((b.getD (2 + i / 4) 0).toNat / 4 ^ (i % 4) % 4 : Nat) : Int)

set_option maxRecDepth 100000 in
theorem unpclo_any (bx : Nat) (D : Nat → Prop) (A : Option Addr) (c : Nat) (b : List UInt8) (i : Nat) (w : World) (hB : Blk w bx 39 #[.slice A b.length c]) (h : RdB w D A b) (hi : 2 + i / 4 < b.length) (hi63 : i ≤ 1000000) :
    Calls Try.prog 90 #[.int .i64 (i : Int), .pointer (some ⟨bx, 0, none⟩)] w fun e w' => e = .returned (.int .i64 (bitO b i)) ∧ w = w' := by
  have c0 := hB.cell 0
  simp at c0
  obtain ⟨ad, rfl, _, hc⟩ := h.at_ hi
  have e1 : Hid (bitO b i = ((b[2 + i / 4].toNat / 4 ^ (i % 4) % 4 : Nat) : Int)) := by unfold Hid bitO; rw [List.getD_eq_getElem?_getD, List.getElem?_eq_getElem hi]; rfl
  have hlt := b[2 + i / 4].toNat_lt
  generalize b[2 + i / 4].toNat = x at *
  obtain ⟨q, hq⟩ : ∃ q, i / 4 = q := ⟨_, rfl⟩
  have hq1 : ((i : Int).tdiv 4) = (q : Int) := by rw [← hq]; rfl
  rw [hq] at hc hi
  have hr : (i : Int).tmod 4 = ((i % 4 : Nat) : Int) := rfl
  have h4 : i % 4 < 4 := Nat.mod_lt _ (by decide)
  generalize i % 4 = r at *
  have hc2 : r = 0 ∨ r = 1 ∨ r = 2 ∨ r = 3 := by omega
  clear h4
  have hr : (i : Int).tmod 4 = (r : Int) := hr
  have hb0 : bits .and .i64 (x : Int) 3 = ((x % 4 : Nat) : Int) := and3 x (by omega)
  have hb1 : bits .and .i64 ((x : Int) / 4) 3 = ((x / 4 % 4 : Nat) : Int) := and3 (x / 4) (by omega)
  have hb2 : bits .and .i64 ((x : Int) / 16) 3 = ((x / 16 % 4 : Nat) : Int) := and3 (x / 16) (by omega)
  have hb3 : bits .and .i64 ((x : Int) / 64) 3 = ((x / 64 % 4 : Nat) : Int) := and3 (x / 64) (by omega)
  rcases hc2 with rfl | rfl | rfl | rfl
  all_goals
    go_enter Try.func90, Try.ntmps90
    go_wp2_with fail
    go_ret
    exact ⟨by rw [e1.out]; simp, rfl⟩

theorem unpnz_any (z : Int) (w : World) : Calls Try.prog 91 #[.int .i64 z] w fun e w' => e = .returned (.bool (z != 0)) ∧ w = w' := by
  go_enter Try.func91, Try.ntmps91
  go_wp2_with fail
  go_ret
  exact ⟨rfl, rfl⟩

def lenO (b : List UInt8) : Nat := (b.getD 0 0).toNat * 256 + (b.getD 1 0).toNat
def bitsO (b : List UInt8) : List Int := (List.range ((lenO b + 3) / 4 * 4)).map (bitO b)
/-- What bytes are unpacked to. -/
def unpO (b : List UInt8) : Option (List Int) :=
  if 2 ≤ b.length ∧ lenO b ≤ 512 ∧ b.length = 2 + (lenO b + 3) / 4 ∧ ((bitsO b).drop (lenO b)).any (· != 0) = false ∧ mayO ((bitsO b).take (lenO b)) = true then some ((bitsO b).take (lenO b)) else none

set_option maxRecDepth 100000 in
theorem Unpack_any (D : Nat → Prop) (A : Option Addr) (c : Nat) (b : List UInt8) (w : World) (h : RdB w D A b) (hc : b.length ≤ c) (hm : c ≤ 9223372036854775807) :
    Calls Try.prog 71 #[.slice A b.length c] w fun e w' => ∃ A' n, e = .returned (.tuple #[.slice A' n n, .bool (unpO b).isSome]) ∧ n = ((unpO b).getD []).length ∧ RowI w' w.heap.size A' ((unpO b).getD []) ∧ Below w.heap.size w w' := by
  have hB := Blk.new w 39 #[.slice A b.length c]
  have bn := below_new w (.cells #[.slice A b.length c] 39)
  have hmf : ∀ (fn : Fn) (first cap : Array Value) (w : World), (Instr.makeFunc fn first cap).run Try.prog w = .ok (.func fn first cap) w := fun _ _ _ _ => rfl
  have h' := h.below bn
  by_cases h2 : b.length < 2
  · have e : Hid (unpO b = none) := by unfold Hid unpO; rw [if_neg (by omega)]
    go_enter Try.func71, Try.ntmps71
    go_wp2_with fail
    go_ret2
    exact ⟨none, 0, by rw [e.out] <;> rfl, by rw [e.out] <;> rfl, by rw [e.out]; exact RowI.nil, bn⟩
  · obtain ⟨ad, rfl, _, p0⟩ := h'.at_ (k := 0) (by omega)
    obtain ⟨ad', e0, _, p1⟩ := h'.at_ (k := 1) (by omega)
    injection e0 with e0
    subst e0
    have hn : Hid (lenO b = b[0].toNat * 256 + b[1].toNat) := by
      unfold Hid lenO
      rw [List.getD_eq_getElem?_getD, List.getElem?_eq_getElem (by omega : 0 < b.length), List.getD_eq_getElem?_getD, List.getElem?_eq_getElem (by omega : 1 < b.length)]; rfl
    have x1 := b[0].toNat_lt
    have y1 := b[1].toNat_lt
    generalize b[0].toNat = x at *
    generalize b[1].toNat = y at *
    have hor := or256 x y x1 y1
    rw [← hn.out] at hor
    clear hn
    obtain ⟨n, hn⟩ : ∃ n, n = lenO b := ⟨_, rfl⟩
    rw [← hn] at hor
    obtain ⟨q, hq⟩ : ∃ q : Nat, q = (n + 3) / 4 := ⟨_, rfl⟩
    have hqi : ((n : Int) + 3) / 4 = (q : Int) := by omega
    obtain ⟨N, hN⟩ : ∃ N : Nat, N = q * 4 := ⟨_, rfl⟩
    have hNi : (q : Int) * 4 = (N : Int) := by omega
    have HU : Hid (unpO b = if n ≤ 512 ∧ b.length = 2 + q ∧ ((bitsO b).drop n).any (· != 0) = false ∧ mayO ((bitsO b).take n) = true then some ((bitsO b).take n) else none) := by
      unfold Hid unpO
      rw [← hn, ← hq]
      by_cases h : n ≤ 512 ∧ b.length = 2 + q ∧ ((bitsO b).drop n).any (· != 0) = false ∧ mayO ((bitsO b).take n) = true
      · rw [if_pos ⟨by omega, h⟩, if_pos h]
      · rw [if_neg (fun h' => h h'.2), if_neg h]
    have HB : Hid (bitsO b = (List.range N).map (bitO b)) := by unfold Hid bitsO; rw [← hn, ← hq, ← hN]
    have hnN : n ≤ N := by omega
    have hNn : N ≤ n + 3 := by omega
    have hql : n ≤ 512 → b.length = 2 + q → ∀ i, i < N → 2 + i / 4 < b.length := fun h1 h2 i hi => by omega
    have hx2 : x < 256 := x1
    have hy2 : y < 256 := y1
    have hwx : IntKind.i64.wrap (x : Int) = (x : Int) := by rw [IntKind.wrap_i64]; omega
    have hwy : IntKind.i64.wrap (y : Int) = (y : Int) := by rw [IntKind.wrap_i64]; omega
    have hwx2 : IntKind.i64.wrap ((x : Int) * 256) = (x : Int) * 256 := by rw [IntKind.wrap_i64]; omega
    have hl0 : 0 < b.length := by omega
    have hl1 : 1 < b.length := by omega
    have hl00 : ¬ b.length = 0 := by omega
    have hl01 : (0 : Int) < (b.length : Int) := by omega
    have hl11 : (1 : Int) < (b.length : Int) := by omega
    have hn65 : n ≤ 65535 + 255 := by
      have : (n : Int) = (x : Int) * 256 + y := by
        have := or256 x y x1 y1
        rw [this] at hor
        omega
      omega
    have HQL := Lib.hid hql
    clear hn hq hN hql
    have pre : ∀ W, Blk W w.heap.size 39 #[.slice (some ad) b.length c] → True := fun _ _ => trivial
    go_enter Try.func71, Try.ntmps71
    go_wp2_with fail
    generalize w.alloc (.cells #[.slice (some ad) b.length c] 39) = W at *
    have c0 := hB.cell 0
    simp at c0
    have p00 := p0
    rw [add_zero_] at p00
    have p11 : W.cell? ⟨ad.block, ad.off + 1, none⟩ = some (.int .u8 (y : Int)) := p1
    by_cases hA : 512 < n
    · have e : Hid (unpO b = none) := by unfold Hid; rw [HU.out, if_neg (by omega)]
      go_quiet (fail)
      go_wp2_with fail
      go_ret2
      exact ⟨none, 0, by rw [e.out] <;> rfl, by rw [e.out] <;> rfl, by rw [e.out]; exact RowI.nil, below_drewN bn nq⟩
    · by_cases hBn : b.length = 2 + q
      · have hneq : ((b.length : Int) != 2 + (q : Int)) = false := by simp; omega
        have HQ := Lib.hid (HQL.out (by omega) hBn)
        have HLn := Lib.hid hBn
        clear hBn
        go_quiet (fail)
        have bd := below_drewN (Below.refl W.heap.size W) nq
        have hB := hB.below bd
        have h' := h'.below bd
        have bn := bn.thenB' bd
        generalize W.drewN nq = W1 at *
        clear c0 p0 p1 p00 p11 bd
        have c0 := hB.cell 0
        simp at c0
        go_wp2_with fail
        refine (each_any N 90 #[.pointer (some ⟨w.heap.size, 0, none⟩)] (bitO b) _ (by unfold big; omega) (Go.Proofs.enters_of Try.func90 (by kernel_rfl) rfl) (fun i hi W hW => unpclo_any w.heap.size D (some ad) c b i W (hB.below hW) (h'.below hW) (HQ.out i hi) (by omega))).mono ?_
        rintro e w1 ⟨g, rfl, r, b1⟩
        rw [← HB.out] at r
        have hlB : (bitsO b).length = N := by rw [HB.out]; simp
        have bb := bn.thenB' b1
        have r := r.low bn.size
        generalize bitsO b = l at *
        have hlt : (l.take n).length = n := by rw [List.length_take]; omega
        have hld : (l.drop n).length = N - n := by rw [List.length_drop]; omega
        have rd : RdI w1 (fun b => w.heap.size ≤ b) (cutA (some ⟨g, 0, none⟩) n N 1) (l.drop n) := RdI.drop r.rd (by omega) (by omega)
        have rt := (r.take n)
        have HLB := Lib.hid hlB
        clear hlB
        go_wp2_with fail
        have hcon := Contains_any 91 #[] (· != 0) _ (cutA (some ⟨g, 0, none⟩) n N 1) (N - n) (l.drop n) w1 rd (by omega) (Go.Proofs.enters_of Try.func91 (by kernel_rfl) rfl) (fun z => unpnz_any z w1)
        have hchk := Check_any _ (some ⟨g, 0, none⟩) N (l.take n) w1 rt.rd (by omega)
        rw [hld] at hcon
        rw [hlt] at hchk
        have HLT := Lib.hid hlt
        clear hld hlt
        cases hbc : (l.drop n).any (· != 0)
        · rw [hbc] at hcon
          cases hbk : mayO (l.take n)
          · have e : Hid (unpO b = none) := by unfold Hid; rw [HU.out, hbc, hbk, if_neg (by simp)]
            rw [hbk] at hchk
            clear hbc hbk
            refine hcon.mono ?_
            rintro e' w2 ⟨rfl, rfl⟩
            go_wp2_with fail
            refine hchk.mono ?_
            rintro e' w3 ⟨rfl, rfl⟩
            go_wp2_with fail
            go_ret2
            exact ⟨none, 0, by rw [e.out] <;> rfl, by rw [e.out] <;> rfl, by rw [e.out]; exact RowI.nil, bb⟩
          · have e : Hid (unpO b = some (l.take n)) := by unfold Hid; rw [HU.out, hbc, hbk, if_pos ⟨by omega, HLn.out, rfl, rfl⟩]
            rw [hbk] at hchk
            clear hbc hbk
            refine hcon.mono ?_
            rintro e' w2 ⟨rfl, rfl⟩
            go_wp2_with fail
            refine hchk.mono ?_
            rintro e' w3 ⟨rfl, rfl⟩
            go_wp2_with fail
            go_ret2
            exact ⟨some ⟨g, 0, none⟩, n, by rw [e.out] <;> rfl, by rw [e.out]; exact HLT.out.symm, by rw [e.out]; exact rt, bb⟩
        · have e : Hid (unpO b = none) := by unfold Hid; rw [HU.out, hbc, if_neg (by simp)]
          rw [hbc] at hcon
          clear hbc
          refine hcon.mono ?_
          rintro e' w2 ⟨rfl, rfl⟩
          go_wp2_with fail
          go_ret2
          exact ⟨none, 0, by rw [e.out] <;> rfl, by rw [e.out] <;> rfl, by rw [e.out]; exact RowI.nil, bb⟩
      · have hneq : ((b.length : Int) != 2 + (q : Int)) = true := by simp; omega
        have e : Hid (unpO b = none) := by unfold Hid; rw [HU.out, if_neg (fun h => hBn h.2.1)]
        clear hBn
        go_quiet (fail)
        go_wp2_with fail
        go_ret2
        exact ⟨none, 0, by rw [e.out] <;> rfl, by rw [e.out] <;> rfl, by rw [e.out]; exact RowI.nil, below_drewN bn nq⟩
end Go.Proofs.Ytpgfhbkggchliaa

/- Pack. -/
namespace Go.Proofs.Ytpgfhbkggchliaa
open Go.RowKit
set_option linter.unusedVariables false

def quadO (m : List Int) (q : Nat) : Nat := (gN m (4 * q)).toNat + 4 * (gN m (4 * q + 1)).toNat + 16 * (gN m (4 * q + 2)).toNat + 64 * (gN m (4 * q + 3)).toNat
def packO (m : List Int) : List UInt8 := [UInt8.ofNat ((rowO m).length / 256), UInt8.ofNat ((rowO m).length % 256)] ++ (List.range (((rowO m).length + 3) / 4)).map fun q => UInt8.ofNat (quadO m q)
theorem quadO_lt (m : List Int) (q : Nat) : quadO m q < 256 := by
  have h0 := gN_bd m (4 * q)
  have h1 := gN_bd m (4 * q + 1)
  have h2 := gN_bd m (4 * q + 2)
  have h3 := gN_bd m (4 * q + 3)
  unfold quadO
  omega
theorem packO_len (m : List Int) : (packO m).length = 2 + ((rowO m).length + 3) / 4 := by unfold packO; simp; omega
end Go.Proofs.Ytpgfhbkggchliaa

/- The document's Pack. -/
namespace Go.Proofs.Ytpgfhbkggchliaa
open Go.RowKit
set_option linter.unusedVariables false

def packT (m : List Int) (q : Nat) : List UInt8 := [UInt8.ofNat ((rowO m).length / 256), UInt8.ofNat ((rowO m).length % 256)] ++ (List.range q).map fun q => UInt8.ofNat (quadO m q)
theorem packT_succ (m : List Int) (q : Nat) : packT m (q + 1) = packT m q ++ [UInt8.ofNat (quadO m q)] := by
  unfold packT; rw [List.range_succ, List.map_append, List.append_assoc]; rfl
theorem packT_len (m : List Int) (q : Nat) : (packT m q).length = 2 + q := by unfold packT; simp; omega
theorem gO_row (m : List Int) (k : Nat) : gO (rowO m) (k : Int) = gN m k := by rw [gO_nat, gN_rowO]

set_option maxHeartbeats 1000000 in
set_option maxRecDepth 100000 in
theorem rPack_any (D : Nat → Prop) (A : Option Addr) (c : Nat) (m : List Int) (w : World) (h : RdI w D A m) (hc : m.length ≤ c) (hm : c ≤ 9223372036854775807) :
    Calls Try.prog 54 #[.slice A m.length c] w fun e w' => ∃ v, e = .returned v ∧ OwnB w' w.heap.size v (packO m) ∧ Below w.heap.size w w' := by
  have hr5 : (rowO m).length ≤ 512 := rowF_len _
  go_enter Try.func54, Try.ntmps54
  go_wp2_with fail
  refine (rRowF_any D A c m w h hc hm).mono ?_
  rintro e w1 ⟨A1, c1, rfl, r1, _, _, b1⟩
  obtain ⟨n, hn⟩ : ∃ n, n = (rowO m).length := ⟨_, rfl⟩
  have HT : Hid (packO m = packT m ((n + 3) / 4)) := by unfold Hid; rw [hn]; rfl
  have HN := Lib.hid hn
  have HG : Hid (∀ (W : World) (i : Nat), RdI W (fun b => b < w1.heap.size) A1 (rowO m) → Calls Try.prog 33 #[.slice A1 n c1, .int .i64 (i : Int)] W fun e w' => e = .returned (.int .i64 (gN m i)) ∧ W = w') := fun W i hr => by
    have := rGet_any _ A1 c1 (rowO m) i W hr
    rw [gO_row, ← hn] at this
    exact this
  rw [← hn] at hr5 ⊢
  clear hn
  go_wp2_with fail
  have n1 := below_new w1 (.cells #[.int .u8 ((n : Int) / 256), .int .u8 ((n : Int) % 256)] 5)
  have o1 : OwnB (w1.alloc (.cells #[.int .u8 ((n : Int) / 256), .int .u8 ((n : Int) % 256)] 5)) w1.heap.size (.slice (some ⟨w1.heap.size, 0, none⟩) 2 2) (packT m 0) := by
    refine litB w1 (packT m 0) 2 _ (packT_len m 0).symm ?_ (by rw [packT_len]; unfold big; omega)
    unfold packT
    rw [← HN.out]
    simp only [List.range_zero, List.map_nil, List.append_nil, List.map_cons, cB, UInt8.toNat_ofNat']
    rw [Nat.mod_eq_of_lt (by omega : n / 256 < 2 ^ 8), Nat.mod_eq_of_lt (by omega : n % 256 < 2 ^ 8)]
    rfl
  have r1 : RdI (w1.alloc (.cells #[.int .u8 ((n : Int) / 256), .int .u8 ((n : Int) % 256)] 5)) (fun b => b < w1.heap.size) A1 (rowO m) := RdI.below (Rd.imp r1.rd (fun b hb _ => hb) (by decide)) n1
  have bb : Below w1.heap.size w1 (w1.alloc (.cells #[.int .u8 ((n : Int) / 256), .int .u8 ((n : Int) % 256)] 5)) := n1
  have hsz := b1.size
  have n0 := n1.size
  generalize w1.alloc (.cells #[.int .u8 ((n : Int) / 256), .int .u8 ((n : Int) % 256)] 5) = w2 at *
  clear n1
  go_loopw [4, 5, 6] (fun b i b6 wr => ∃ q p : Nat, p = 4 * q ∧ p < n + 4 ∧ i = .int .i64 (p : Int) ∧ OwnB wr w1.heap.size b (packT m q) ∧ RdI wr (fun b => b < w1.heap.size) A1 (rowO m) ∧ Below w1.heap.size w1 wr) (fun _ i _ _ => n + 4 - (intOf i).toNat)
  case atStart => exact ⟨0, 0, rfl, by omega, rfl, o1, r1, bb⟩
  case round =>
    clear o1 r1 bb
    obtain ⟨q, p, hp, hpn, rfl, hown, r, bb⟩ := hrel
    have HQ : Hid (quadO m q = (gN m p).toNat + 4 * (gN m (p + 1)).toNat + 16 * (gN m (p + 2)).toNat + 64 * (gN m (p + 3)).toNat) := by unfold Hid quadO; rw [hp]
    have HE := Lib.hid (packT_succ m q)
    have hll := packT_len m q
    have HP := Lib.hid hp
    by_cases hlt : p < n
    · have hq5 : q ≤ 200 := by omega
      clear hp
      generalize packT m q = xs at *
      have HL := Lib.hid hll
      clear hll
      have g0 : Calls Try.prog 33 #[.slice A1 n c1, .int .i64 (p : Int)] wr fun e w' => e = .returned (.int .i64 (gN m p)) ∧ wr = w' := HG.out wr p r
      have g1 : Calls Try.prog 33 #[.slice A1 n c1, .int .i64 ((p : Int) + 1)] wr fun e w' => e = .returned (.int .i64 (gN m (p + 1))) ∧ wr = w' := HG.out wr (p + 1) r
      have g2 : Calls Try.prog 33 #[.slice A1 n c1, .int .i64 ((p : Int) + 2)] wr fun e w' => e = .returned (.int .i64 (gN m (p + 2))) ∧ wr = w' := HG.out wr (p + 2) r
      have g3 : Calls Try.prog 33 #[.slice A1 n c1, .int .i64 ((p : Int) + 3)] wr fun e w' => e = .returned (.int .i64 (gN m (p + 3))) ∧ wr = w' := HG.out wr (p + 3) r
      obtain ⟨y0, e0, f0⟩ : ∃ y : Nat, gN m p = (y : Int) ∧ y ≤ 2 := ⟨(gN m p).toNat, by have := gN_bd m p; omega, by have := gN_bd m p; omega⟩
      obtain ⟨y1, e1, f1⟩ : ∃ y : Nat, gN m (p + 1) = (y : Int) ∧ y ≤ 2 := ⟨(gN m (p + 1)).toNat, by have := gN_bd m (p + 1); omega, by have := gN_bd m (p + 1); omega⟩
      obtain ⟨y2, e2, f2⟩ : ∃ y : Nat, gN m (p + 2) = (y : Int) ∧ y ≤ 2 := ⟨(gN m (p + 2)).toNat, by have := gN_bd m (p + 2); omega, by have := gN_bd m (p + 2); omega⟩
      obtain ⟨y3, e3, f3⟩ : ∃ y : Nat, gN m (p + 3) = (y : Int) ∧ y ≤ 2 := ⟨(gN m (p + 3)).toNat, by have := gN_bd m (p + 3); omega, by have := gN_bd m (p + 3); omega⟩
      rw [e0] at g0 HQ
      rw [e1] at g1 HQ
      rw [e2] at g2 HQ
      rw [e3] at g3 HQ
      simp only [Int.toNat_natCast] at HQ
      have HZ : Hid (((quadO m q : Nat) : Int) = (y0 : Int) + 4 * y1 + 16 * y2 + 64 * y3) := by unfold Hid; have := HQ.out; omega
      have HV : Hid ((y0 : Int) + 4 * y1 + 16 * y2 + 64 * y3 = ((UInt8.ofNat (quadO m q)).toNat : Int)) := by
        unfold Hid
        rw [UInt8.toNat_ofNat', Nat.mod_eq_of_lt (quadO_lt m q)]
        exact HZ.out.symm
      clear e0 e1 e2 e3
      go_wp2_with fail
      refine g0.mono ?_
      rintro e w3 ⟨rfl, rfl⟩
      go_wp2_with fail
      refine g1.mono ?_
      rintro e w3 ⟨rfl, rfl⟩
      go_wp2_with fail
      refine g2.mono ?_
      rintro e w3 ⟨rfl, rfl⟩
      go_wp2_with fail
      refine g3.mono ?_
      rintro e w3 ⟨rfl, rfl⟩
      go_wp2_with (at_builtin; refine wpList_appB rfl (.tmp 45) (.tmp 48) rfl w1.heap.size _ xs rfl (OwnB.below hown (below_new _ _)) _ (some ⟨wr.heap.size, 0, none⟩) 1 1 [UInt8.ofNat (quadO m q)] rfl rfl (rd_newB wr _ _ HV.out) (by have := HL.out; unfold big; simp only [List.length_cons, List.length_nil]; omega) (Nat.le_trans bb.size (below_new wr _).size) ?_; intro v' w' h1 h2)
      have b2 := (bb.thenB' (below_new wr _)).trans (h2.below (OwnB.below hown (below_new wr _)) (Nat.le_refl _) (Nat.le_trans bb.size (below_new wr _).size))
      have r2 : RdI w' (fun b => b < w1.heap.size) A1 (rowO m) := Rd.belowB (RdI.below r (below_new wr _)) (h2.below (OwnB.below hown (below_new wr _)) (Nat.le_refl _) (Nat.le_trans bb.size (below_new wr _).size)) (fun _ h => h)
      go_roundw
      case rel => exact ⟨q + 1, p + 4, by have := HP.out; omega, by omega, by go_num, by rw [HE.out]; exact h1, r2, b2⟩
      case measure => simp [intOf] <;> omega
    · go_wp2_with fail
      go_ret
      have hq : q = (n + 3) / 4 := by omega
      rw [HT.out, ← hq]
      exact ⟨_, rfl, hown.low hsz, b1.thenB' bb⟩
end Go.Proofs.Ytpgfhbkggchliaa

/- A row of bytes in a block of one's own. -/
namespace Go.Proofs.Ytpgfhbkggchliaa
open Go.RowKit
set_option linter.unusedVariables false

/-- The bytes zs at A, at the head of a block that is base or later; more may stand behind them. -/
def RowB (w : World) (base : Nat) (A : Option Addr) (zs : List UInt8) : Prop :=
  zs = [] ∨ ∃ g t cs, A = some ⟨g, 0, none⟩ ∧ base ≤ g ∧ Blk w g t cs ∧ ∀ (j : Nat) z, zs[j]? = some z → cs[j]? = some (cB z)
section
variable {w w' : World} {base : Nat} {A : Option Addr} {zs : List UInt8}
theorem RowB.nil : RowB w base A [] := .inl rfl
theorem RowB.rd (h : RowB w base A zs) : RdB w (fun b => base ≤ b) A zs := by
  refine ⟨by simp, fun hn => ?_⟩
  rcases h with rfl | ⟨g, t, cs, rfl, hb, hB, hc⟩
  · simp at hn
  · refine ⟨_, rfl, hb, fun j u hu => ?_⟩
    rw [List.getElem?_map] at hu
    obtain ⟨z, hz, rfl⟩ := Option.map_eq_some_iff.1 hu
    rw [add_head, hB.cell]
    exact hc j z hz
theorem RowB.below (h : RowB w base A zs) (hb : Below w.heap.size w w') : RowB w' base A zs := by
  rcases h with h | ⟨g, t, cs, e, hb', hB, hc⟩
  · exact .inl h
  · exact .inr ⟨g, t, cs, e, hb', hB.below hb, hc⟩
theorem RowB.belowB (h : RowB w base A zs) (hb : Below w.heap.size w w') {b2 : Nat} (h2 : b2 ≤ base) : RowB w' b2 A zs := by
  rcases h with h | ⟨g, t, cs, e, hb', hB, hc⟩
  · exact .inl h
  · exact .inr ⟨g, t, cs, e, by omega, hB.below hb, hc⟩
theorem RowB.low (h : RowB w base A zs) {b2 : Nat} (h2 : b2 ≤ base) : RowB w b2 A zs := h.belowB (Below.refl _ _) h2
theorem RowB.take (h : RowB w base A zs) (k : Nat) : RowB w base A (zs.take k) := by
  rcases h with h | ⟨g, t, cs, e, hb', hB, hc⟩
  · exact .inl (by rw [h]; simp)
  · refine .inr ⟨g, t, cs, e, hb', hB, fun j z hz => hc j z ?_⟩
    rw [List.getElem?_take] at hz
    split at hz
    · exact hz
    · cases hz
theorem RowB.of_own {n c : Nat} (h : OwnB w base (.slice A n c) zs) : RowB w base A zs := by
  rcases h.2 with ⟨_, hn⟩ | ⟨g, cap, cur, hv, hbg, hg, hnc, hcm, hcs, htake⟩
  · exact .inl (List.eq_nil_of_length_eq_zero hn)
  · injection hv with hA _ _
    refine .inr ⟨g, _, cur, hA, hbg, hg, fun j z hz => ?_⟩
    have hlt := (List.getElem?_eq_some_iff.1 hz).1
    have : (zs.map cB)[j]? = some (cB z) := by rw [List.getElem?_map, hz]; rfl
    rw [← htake, List.getElem?_take, if_pos (by omega)] at this
    rw [← this]
    simp
/-- What a store into the row wants and leaves. -/
theorem RowB.store (h : RowB w base A zs) {k : Nat} (hk : k < zs.length) : ∃ g, A = some ⟨g, 0, none⟩ ∧ base ≤ g ∧ g < w.heap.size ∧ w.cell? ⟨g, k, none⟩ = some (.int .u8 (zs[k].toNat : Int)) ∧ w.frozen? ⟨g, k, none⟩ = false ∧
    ∀ z, RowB (w.setCell ⟨g, k, none⟩ (.int .u8 (z.toNat : Int))) base A (zs.set k z) := by
  rcases h with h | ⟨g, t, cs, e, hb', hB, hc⟩
  · subst h; simp at hk
  · have h1 := hc k _ (List.getElem?_eq_getElem hk)
    have hlt : k < cs.size := (Array.getElem?_eq_some_iff.1 h1).1
    refine ⟨g, e, hb', hB.lt, by rw [hB.cell]; exact h1, hB.frozen k, fun z => .inr ⟨g, t, _, e, hb', hB.set_ k _, fun j y hy => ?_⟩⟩
    rw [Array.getElem?_setIfInBounds]
    rw [List.getElem?_set] at hy
    split at hy
    · rename_i hkj
      subst hkj
      injection hy with hy
      subst hy
      rw [if_pos rfl, if_pos hlt]
      rfl
    · rename_i hkj
      rw [if_neg hkj]
      exact hc j y hy
end
end Go.Proofs.Ytpgfhbkggchliaa

/- The code's Pack. -/
namespace Go.Proofs.Ytpgfhbkggchliaa
open Go.RowKit
set_option linter.unusedVariables false

/-- What the byte q has behind i places. -/
def pb (m : List Int) (i q : Nat) : Nat := (if 4 * q < i then (gN m (4 * q)).toNat else 0) + 4 * (if 4 * q + 1 < i then (gN m (4 * q + 1)).toNat else 0) + 16 * (if 4 * q + 2 < i then (gN m (4 * q + 2)).toNat else 0) + 64 * (if 4 * q + 3 < i then (gN m (4 * q + 3)).toNat else 0)
theorem toNat_bd (m : List Int) (k : Nat) : (gN m k).toNat ≤ 2 := by have := gN_bd m k; omega
theorem pb_step (m : List Int) (q t : Nat) (ht : t < 4) : pb m (4 * q + t + 1) q = pb m (4 * q + t) q + (gN m (4 * q + t)).toNat * 4 ^ t ∧ pb m (4 * q + t) q < 4 ^ t ∧ pb m (4 * q + t + 1) q < 256 := by
  have h0 := toNat_bd m (4 * q)
  have h1 := toNat_bd m (4 * q + 1)
  have h2 := toNat_bd m (4 * q + 2)
  have h3 := toNat_bd m (4 * q + 3)
  have : t = 0 ∨ t = 1 ∨ t = 2 ∨ t = 3 := by omega
  unfold pb
  have c (a s : Nat) : (4 * q + a < 4 * q + s) = (a < s) := by simp
  have c0 (s : Nat) : (4 * q < 4 * q + s) = (0 < s) := by simp
  rw [show 4 * q + t + 1 = 4 * q + (t + 1) by omega]
  simp only [c, c0]
  rcases this with rfl | rfl | rfl | rfl
  all_goals
    simp
    omega
theorem pb_other (m : List Int) (i q : Nat) (h : q ≠ i / 4) : pb m (i + 1) q = pb m i q := by
  unfold pb
  have a0 : (4 * q < i + 1) ↔ (4 * q < i) := by omega
  have a1 : (4 * q + 1 < i + 1) ↔ (4 * q + 1 < i) := by omega
  have a2 : (4 * q + 2 < i + 1) ↔ (4 * q + 2 < i) := by omega
  have a3 : (4 * q + 3 < i + 1) ↔ (4 * q + 3 < i) := by omega
  simp only [a0, a1, a2, a3]
theorem gN_tail (m : List Int) (k : Nat) (h : (rowO m).length ≤ k) : gN m k = 0 := by
  rcases Nat.lt_or_ge k 512 with h5 | h5
  · exact lastN_above (gN m) 512 k (by rw [rowO_len] at h; exact h) h5
  · exact gN_far m k (.inr h5)
theorem pb_full (m : List Int) (q : Nat) : pb m (rowO m).length q = quadO m q := by
  have h : ∀ k, (if k < (rowO m).length then (gN m k).toNat else 0) = (gN m k).toNat := fun k => by
    split
    · rfl
    · rw [gN_tail m k (by omega)]; rfl
  unfold pb quadO
  rw [h, h, h, h]
def packS (m : List Int) (i : Nat) : List UInt8 := [UInt8.ofNat ((rowO m).length / 256), UInt8.ofNat ((rowO m).length % 256)] ++ (List.range (((rowO m).length + 3) / 4)).map fun q => UInt8.ofNat (pb m i q)
theorem packS_len (m : List Int) (i : Nat) : (packS m i).length = 2 + ((rowO m).length + 3) / 4 := by unfold packS; simp; omega
theorem packS_full (m : List Int) : packS m (rowO m).length = packO m := by unfold packS packO; simp only [pb_full]
theorem packS_get (m : List Int) (i q : Nat) (h : 2 + q < (packS m i).length) : (packS m i)[2 + q] = UInt8.ofNat (pb m i q) := by
  have e : 2 + q = q + 1 + 1 := by omega
  simp only [e, packS, List.cons_append, List.nil_append, List.getElem_cons_succ, List.getElem_map, List.getElem_range]
theorem packS_step (m : List Int) (i : Nat) : (packS m i).set (2 + i / 4) (UInt8.ofNat (pb m (i + 1) (i / 4))) = packS m (i + 1) := by
  apply List.ext_getElem
  · simp [packS]
  · intro k h1 h2
    rw [List.getElem_set]
    rcases Nat.lt_or_ge k 2 with hk | hk
    · rw [if_neg (by omega)]
      have : k = 0 ∨ k = 1 := by omega
      rcases this with rfl | rfl <;> simp [packS]
    · obtain ⟨q, rfl⟩ : ∃ q, k = 2 + q := ⟨k - 2, by omega⟩
      rw [packS_get m (i + 1) q h2]
      split
      · rename_i h
        have : q = i / 4 := by omega
        rw [this]
      · rename_i h
        rw [packS_get, pb_other m i q (by omega)]
theorem packS_zero (m : List Int) : ((List.replicate (2 + ((rowO m).length + 3) / 4) (0 : UInt8)).set 0 (UInt8.ofNat ((rowO m).length / 256))).set 1 (UInt8.ofNat ((rowO m).length % 256)) = packS m 0 := by
  have e : ∀ q, pb m 0 q = 0 := fun q => by unfold pb; simp
  unfold packS
  rw [Nat.add_comm 2, List.replicate_succ, List.replicate_succ]
  simp only [List.set_cons_zero, List.set_cons_succ, List.cons_append, List.nil_append, e]
  congr 2
  apply List.ext_getElem
  · simp
  · intro k h1 h2; simp
theorem toNat8 (n : Nat) (h : n < 256) : (BitVec.ofInt 8 (n : Int)).toNat = n := by rw [BitVec.toNat_ofInt]; omega
end Go.Proofs.Ytpgfhbkggchliaa

namespace Go.Proofs.Ytpgfhbkggchliaa
open Go.RowKit
set_option linter.unusedVariables false

theorem or8 (a y t : Nat) (ha : a < 4 ^ t) (ht : t < 4) (hy : y ≤ 2) : bits .or .u8 (a : Int) ((y * 4 ^ t : Nat) : Int) = ((a + y * 4 ^ t : Nat) : Int) := by
  have hp : 4 ^ t ≤ 64 := by
    have : t = 0 ∨ t = 1 ∨ t = 2 ∨ t = 3 := by omega
    rcases this with rfl | rfl | rfl | rfl <;> decide
  have hyp : y * 4 ^ t ≤ 2 * 64 := Nat.mul_le_mul hy hp
  show IntKind.u8.wrap (((BitVec.ofInt 8 (a : Int) ||| BitVec.ofInt 8 ((y * 4 ^ t : Nat) : Int)).toNat : Nat) : Int) = _
  have h := Nat.shiftLeft_add_eq_or_of_lt (i := 2 * t) (show a < 2 ^ (2 * t) by rw [Nat.pow_mul]; exact ha) y
  rw [Nat.shiftLeft_eq, Nat.pow_mul] at h
  rw [BitVec.toNat_or, toNat8 _ (by omega), toNat8 _ (by omega), Nat.or_comm]
  have h : y * 4 ^ t + a = y * 4 ^ t ||| a := h
  rw [← h]
  have hw : ∀ n : Nat, n < 256 → IntKind.u8.wrap (n : Int) = (n : Int) := fun n hn => by
    simp [IntKind.wrap, IntKind.bits, IntKind.signed]
    omega
  rw [hw _ (by omega)]
  omega

set_option maxHeartbeats 1000000 in
set_option maxRecDepth 100000 in
theorem Pack_any (D : Nat → Prop) (A : Option Addr) (c : Nat) (m : List Int) (w : World) (h : RdI w D A m) :
    Calls Try.prog 51 #[.slice A m.length c] w fun e w' => ∃ A' n, e = .returned (.slice A' n n) ∧ n = (packO m).length ∧ RowB w' w.heap.size A' (packO m) ∧ Below w.heap.size w w' := by
  have hr5 : (rowO m).length ≤ 512 := rowF_len _
  go_enter Try.func51, Try.ntmps51
  go_wp2_with fail
  refine (row_any D A c m w h).mono ?_
  rintro e w1 ⟨A1, rfl, r1, b1⟩
  obtain ⟨n, hn⟩ : ∃ n, n = (rowO m).length := ⟨_, rfl⟩
  obtain ⟨q, hq⟩ : ∃ q, q = (n + 3) / 4 := ⟨_, rfl⟩
  have hqi : ((n : Int) + 3) / 4 = (q : Int) := by omega
  have HF : Hid (packO m = packS m n) := by unfold Hid; rw [hn]; exact (packS_full m).symm
  have HZ : Hid (((List.replicate (2 + q) (0 : UInt8)).set 0 (UInt8.ofNat (n / 256))).set 1 (UInt8.ofNat (n % 256)) = packS m 0) := by unfold Hid; rw [hq, hn]; exact packS_zero m
  have HL : Hid (∀ i, (packS m i).length = 2 + q) := fun i => by rw [packS_len, hq, hn]
  have HR : Hid (∀ k, (hk : k < (rowO m).length) → (rowO m)[k] = gN m k) := fun k hk => by simp [rowO, rowF]
  have HN := Lib.hid hn
  have HQ := Lib.hid hq
  rw [← hn] at hr5 ⊢
  have z0 : ((UInt8.ofNat (n / 256)).toNat : Int) = (n : Int) / 256 := by rw [UInt8.toNat_ofNat']; omega
  obtain ⟨nl, hnl⟩ : ∃ nl, nl = n % 256 := ⟨_, rfl⟩
  have hwn : IntKind.u8.wrap (n : Int) = (nl : Int) := by
    simp [IntKind.wrap, IntKind.bits, IntKind.signed]
    omega
  have z1 : ((UInt8.ofNat (n % 256)).toNat : Int) = (nl : Int) := by rw [UInt8.toNat_ofNat', hnl]; omega
  have Z0 := Lib.hid z0
  have Z1 := Lib.hid z1
  clear hn hq z0 z1 hnl
  go_wp2_with (at_make; refine wpList_makeB rfl (.tmp 13) (.tmp 13) rfl w1.heap.size (2 + q) rfl rfl (by have := HQ.out; unfold big; omega) (Nat.le_refl _) ?_; intro w2 o2 b2; have r2 := RowB.of_own o2; obtain ⟨g, hg, _, hgl, hcell0, hfr0, hst0⟩ := r2.store (k := 0) (by (rw [List.length_replicate]; omega)); injection hg with hg; injection hg with hg; subst hg; have r3 := hst0 (UInt8.ofNat (n / 256)); rw [Z0.out] at r3; obtain ⟨g, hg, _, hgl', hcell1, hfr1, hst1⟩ := r3.store (k := 1) (by (rw [List.length_set, List.length_replicate]; have := HQ.out; omega)); injection hg with hg; injection hg with hg; subst hg; have r4 := hst1 (UInt8.ofNat (n % 256)); rw [Z1.out, HZ.out] at r4; clear hst0 hst1 r2 r3)
  have b4 := below_store (k := 1) (below_store (k := 0) b2 (Nat.le_refl _) (.int .u8 ((n : Int) / 256))) (Nat.le_refl _) (.int .u8 (nl : Int))
  have hsz := b1.size
  have r1 : RdI w1 (fun b => b < w1.heap.size) A1 (rowO m) := Rd.imp r1.rd (fun b hb _ => hb) (by decide)
  have r1' : RdI _ (fun b => b < w1.heap.size) A1 (rowO m) := Rd.belowB r1 b4 (fun _ h => h)
  clear hcell0 hcell1 hfr0 hfr1 o2 hgl hgl' b2
  go_loopw [5, 6, 28] (fun i5 i6 i wr => ∃ j : Nat, j ≤ n ∧ i = .int .i64 (j : Int) ∧ RowB wr w1.heap.size (some ⟨w1.heap.size, 0, none⟩) (packS m j) ∧ RdI wr (fun b => b < w1.heap.size) A1 (rowO m) ∧ Below w1.heap.size w1 wr) (fun _ _ i _ => n - (intOf i).toNat)
  case atStart => exact ⟨0, Nat.zero_le _, rfl, r4, r1', b4⟩
  case round =>
    clear r4 r1' b4
    obtain ⟨j, hj, rfl, r, rr, bb⟩ := hrel
    by_cases hlt : j < n
    · have hjr : j < (rowO m).length := by have := HN.out; omega
      obtain ⟨ad, rfl, _, hc⟩ := rr.at_ hjr
      rw [HR.out j hjr] at hc
      obtain ⟨y, hy, hy2⟩ : ∃ y : Nat, gN m j = (y : Int) ∧ y ≤ 2 := ⟨(gN m j).toNat, by have := gN_bd m j; omega, by have := gN_bd m j; omega⟩
      obtain ⟨q1, hq1⟩ : ∃ q1, q1 = j / 4 := ⟨_, rfl⟩
      obtain ⟨t, ht⟩ : ∃ t, t = j % 4 := ⟨_, rfl⟩
      have ht4 : t < 4 := by omega
      have hj4 : j = 4 * q1 + t := by omega
      obtain ⟨hs1, hs2, hs3⟩ := pb_step m q1 t ht4
      rw [← hj4, hy, Int.toNat_natCast] at hs1
      rw [← hj4] at hs2 hs3
      have hql : 2 + q1 < (packS m j).length := by rw [HL.out]; have := HQ.out; omega
      have hstep := packS_step m j
      rw [← hq1] at hstep
      obtain ⟨g, hg, _, hgl, hcell, hfr, hst⟩ := r.store (k := 2 + q1) hql
      injection hg with hg
      injection hg with hg
      subst hg
      rw [packS_get m j q1 hql, UInt8.toNat_ofNat', Nat.mod_eq_of_lt (by omega : pb m j q1 < 2 ^ 8)] at hcell
      have r2 := hst (UInt8.ofNat (pb m (j + 1) q1))
      rw [hstep, UInt8.toNat_ofNat', Nat.mod_eq_of_lt (by omega : pb m (j + 1) q1 < 2 ^ 8)] at r2
      have hor := or8 (pb m j q1) y t hs2 ht4 hy2
      rw [← hs1] at hor
      have hgl2 := bb.size
      have b2 := below_store (k := 2 + q1) bb (Nat.le_refl _) (.int .u8 ((pb m (j + 1) q1 : Nat) : Int))
      have rr2 : RdI _ (fun b => b < w1.heap.size) (some ad) (rowO m) := Rd.belowB r1 b2 (fun _ h => h)
      rw [hy] at hc
      have hd1 : (j : Int).tdiv 4 = (q1 : Int) := by rw [hq1]; rfl
      have hd2 : (j : Int) / 4 = (q1 : Int) := by rw [hq1]; rfl
      have hm1 : (j : Int).tmod 4 = (t : Int) := by rw [ht]; rfl
      have hm2 : (j : Int) % 4 = (t : Int) := by rw [ht]; rfl
      have hq2 : q1 < q := by have := HQ.out; omega
      clear hst hstep hs1 hs2 hs3 hq1 ht hj4 hql
      generalize pb m j q1 = a at *
      generalize pb m (j + 1) q1 = a' at *
      have ht5 : t = 0 ∨ t = 1 ∨ t = 2 ∨ t = 3 := by omega
      clear ht4
      rcases ht5 with rfl | rfl | rfl | rfl
      focus
        have hor' : bits .or .u8 (a : Int) (y : Int) = (a' : Int) := by rw [← hor, Nat.pow_zero, Nat.mul_one]
      rotate_left
      focus
        have hor' : bits .or .u8 (a : Int) ((y : Int) * 4) = (a' : Int) := hor
      rotate_left
      focus
        have hor' : bits .or .u8 (a : Int) ((y : Int) * 16) = (a' : Int) := hor
      rotate_left
      focus
        have hor' : bits .or .u8 (a : Int) ((y : Int) * 64) = (a' : Int) := hor
      all_goals
        clear hor
        go_wp2_with fail
        go_roundw
        case rel => exact ⟨j + 1, by omega, by go_num, r2, rr2, b2⟩
        case measure => simp [intOf] <;> omega
    · obtain rfl : j = n := by omega
      rw [← HF.out] at r
      have hl : (packO m).length = 2 + q := by rw [HF.out]; exact HL.out j
      have HLn := Lib.hid hl
      clear hl
      go_wp2_with fail
      go_ret
      exact ⟨_, 2 + q, rfl, HLn.out.symm, r.low hsz, b1.thenB' bb⟩
end Go.Proofs.Ytpgfhbkggchliaa

/- Pack and Unpack: the plain laws. No program. -/
namespace Go.Proofs.Ytpgfhbkggchliaa
open Go.RowKit
set_option linter.unusedVariables false

theorem rowO_at (m : List Int) (k : Nat) (h : k < (rowO m).length) : (rowO m)[k] = gN m k := by simp [rowO, rowF]
theorem rowO_length (m : List Int) : (rowO m).length = lastN (gN m) 512 := rowF_length _
theorem gN_in (m : List Int) (h : m.all okO = true) (h5 : m.length ≤ 512) (k : Nat) (hk : k < m.length) : gN m k = m[k] := by
  have := List.all_eq_true.1 h m[k] (List.getElem_mem hk)
  unfold okO at this
  have := of_decide_eq_true this
  unfold gN
  rw [getD_at m k hk, if_pos ⟨by omega, this⟩]
theorem row_may (m : List Int) (h : mayO m = true) : rowO m = m := by
  unfold mayO at h
  rw [Bool.and_eq_true, Bool.and_eq_true] at h
  obtain ⟨⟨h1, h2⟩, h3⟩ := h
  have h1 := of_decide_eq_true h1
  have hl : (rowO m).length = m.length := by
    unfold rowO
    rw [rowF_length, lastN_far m.length 512 h1 fun k hk => gN_far m k (.inl hk)]
    rcases Nat.eq_zero_or_pos m.length with h0 | h0
    · rw [h0]; rfl
    · obtain ⟨n, hn⟩ : ∃ n, m.length = n + 1 := ⟨m.length - 1, by omega⟩
      rw [hn, lastN, if_neg]
      rw [gN_in m h2 h1 n (by omega)]
      rw [hn, Nat.add_sub_cancel, getD_at m n (by omega)] at h3
      simpa using h3
  apply List.ext_getElem hl
  intro k h4 h5
  rw [rowO_at, gN_in m h2 h1 k h5]
theorem may_row (m : List Int) : mayO (rowO m) = true := by
  unfold mayO
  rw [Bool.and_eq_true, Bool.and_eq_true]
  refine ⟨⟨decide_eq_true (rowF_len _), List.all_eq_true.2 ?_⟩, ?_⟩
  · intro z hz
    obtain ⟨k, hk, rfl⟩ := List.mem_iff_getElem.1 hz
    rw [rowO_at]
    exact decide_eq_true (gN_bd m k)
  · rw [Bool.or_eq_true]
    rcases Nat.eq_zero_or_pos (rowO m).length with h0 | h0
    · exact .inl (decide_eq_true h0)
    · refine .inr (decide_eq_true ?_)
      rw [getD_at _ _ (by omega), rowO_at]
      have h1 := lastN_self (gN m) 512
      rw [← rowO_length] at h1
      rcases h1 with h1 | h1
      · omega
      · exact h1
theorem row_row (m : List Int) : rowO (rowO m) = rowO m := row_may _ (may_row m)
theorem pack_row (m : List Int) : packO (rowO m) = packO m := by
  unfold packO quadO
  rw [row_row]
  simp only [gN_rowO]
theorem pack_q (m : List Int) (q : Nat) (h : q < ((rowO m).length + 3) / 4) : (packO m).getD (2 + q) 0 = UInt8.ofNat (quadO m q) := by
  have e : (packO m).getD (2 + q) 0 = ((List.range (((rowO m).length + 3) / 4)).map fun q => UInt8.ofNat (quadO m q)).getD q 0 := by
    unfold packO
    rw [List.getD_eq_getElem?_getD, List.getElem?_append_right (by simp), List.getD_eq_getElem?_getD]
    simp
  rw [e, List.getD_eq_getElem?_getD, List.getElem?_map, List.getElem?_range h]
  rfl
theorem lenO_pack (m : List Int) : lenO (packO m) = (rowO m).length := by
  have h := rowF_len (gN m)
  have h3 : (rowF (gN m)).length = (rowO m).length := rfl
  show (UInt8.ofNat ((rowO m).length / 256)).toNat * 256 + (UInt8.ofNat ((rowO m).length % 256)).toNat = _
  rw [UInt8.toNat_ofNat', UInt8.toNat_ofNat']
  omega
theorem digit (a b c d : Nat) (ha : a ≤ 2) (hb : b ≤ 2) (hc : c ≤ 2) (hd : d ≤ 2) : (a + 4 * b + 16 * c + 64 * d) / 4 ^ 0 % 4 = a ∧ (a + 4 * b + 16 * c + 64 * d) / 4 ^ 1 % 4 = b ∧ (a + 4 * b + 16 * c + 64 * d) / 4 ^ 2 % 4 = c ∧ (a + 4 * b + 16 * c + 64 * d) / 4 ^ 3 % 4 = d := by
  refine ⟨?_, ?_, ?_, ?_⟩
  · show _ / 1 % 4 = a; omega
  · show _ / 4 % 4 = b; omega
  · show _ / 16 % 4 = c; omega
  · show _ / 64 % 4 = d; omega
theorem bitO_pack (m : List Int) (i : Nat) (h : i / 4 < ((rowO m).length + 3) / 4) : bitO (packO m) i = gN m i := by
  unfold bitO
  rw [pack_q m _ h, UInt8.toNat_ofNat', Nat.mod_eq_of_lt (quadO_lt m _)]
  obtain ⟨d0, d1, d2, d3⟩ := digit _ _ _ _ (toNat_bd m (4 * (i / 4))) (toNat_bd m (4 * (i / 4) + 1)) (toNat_bd m (4 * (i / 4) + 2)) (toNat_bd m (4 * (i / 4) + 3))
  unfold quadO
  have hb := gN_bd m i
  have ht : i % 4 = 0 ∨ i % 4 = 1 ∨ i % 4 = 2 ∨ i % 4 = 3 := by omega
  rcases ht with ht | ht | ht | ht
  · rw [ht, d0, show 4 * (i / 4) = i by omega]; omega
  · rw [ht, d1, show 4 * (i / 4) + 1 = i by omega]; omega
  · rw [ht, d2, show 4 * (i / 4) + 2 = i by omega]; omega
  · rw [ht, d3, show 4 * (i / 4) + 3 = i by omega]; omega
theorem unp_pack (m : List Int) : unpO (packO m) = some (rowO m) := by
  have h5 : (rowO m).length ≤ 512 := rowF_len _
  have hb : bitsO (packO m) = (List.range (((rowO m).length + 3) / 4 * 4)).map (gN m) := by
    unfold bitsO
    rw [lenO_pack]
    exact List.map_congr_left fun k hk => bitO_pack m k (by have := List.mem_range.1 hk; omega)
  have ht : (bitsO (packO m)).take (rowO m).length = rowO m := by
    rw [hb, ← List.map_take, List.take_range, Nat.min_eq_left (by omega)]
    show (List.range (rowF (gN m)).length).map (gN m) = rowF (gN m)
    rw [rowF_length]; rfl
  unfold unpO
  rw [lenO_pack, ht, if_pos]
  refine ⟨by rw [packO_len]; omega, h5, packO_len m, ?_, may_row m⟩
  rw [List.any_eq_false]
  intro z hz
  obtain ⟨k, hk, rfl⟩ := List.mem_iff_getElem.1 hz
  rw [List.getElem_drop]
  simp only [hb, List.getElem_map, List.getElem_range]
  rw [gN_tail m _ (by omega)]
  simp
theorem getD8 (m : List UInt8) (k : Nat) (h : k < m.length) : m.getD k 0 = m[k] := by rw [List.getD_eq_getElem?_getD, List.getElem?_eq_getElem h]; rfl
theorem bitO_bd (b : List UInt8) (i : Nat) : 0 ≤ bitO b i := by unfold bitO; omega
theorem bits4 (x : Nat) (h : x < 256) : x / 4 ^ 0 % 4 + 4 * (x / 4 ^ 1 % 4) + 16 * (x / 4 ^ 2 % 4) + 64 * (x / 4 ^ 3 % 4) = x := by
  show x / 1 % 4 + 4 * (x / 4 % 4) + 16 * (x / 16 % 4) + 64 * (x / 64 % 4) = x
  omega
theorem unp_some (b : List UInt8) (y : List Int) (h : unpO b = some y) : mayO y = true ∧ packO y = b ∧ y = (bitsO b).take (lenO b) ∧ 2 ≤ b.length ∧ b.length = 2 + (lenO b + 3) / 4 := by
  unfold unpO at h
  split at h
  · rename_i hc
    obtain ⟨h2, h5, hl, hd, hm⟩ := hc
    injection h with h
    rw [h] at hm
    refine ⟨hm, ?_, h.symm, h2, hl⟩
    have hy := row_may y hm
    have hbl : (bitsO b).length = (lenO b + 3) / 4 * 4 := by simp [bitsO]
    have hyl : y.length = lenO b := by rw [← h, List.length_take, hbl]; omega
    have hm' := hm
    unfold mayO at hm'
    rw [Bool.and_eq_true, Bool.and_eq_true] at hm'
    have hg : ∀ k, k < (lenO b + 3) / 4 * 4 → gN y k = bitO b k := by
      intro k hk
      rcases Nat.lt_or_ge k (lenO b) with h1 | h1
      · rw [gN_in y hm'.1.2 (by omega) k (by omega)]
        simp only [← h, List.getElem_take]
        simp [bitsO]
      · rw [gN_far y k (.inl (by omega))]
        have h3 := List.any_eq_false.1 hd (bitO b k) (List.mem_iff_getElem.2 ⟨k - lenO b, by rw [List.length_drop, hbl]; omega, by rw [List.getElem_drop]; simp [bitsO, show lenO b + (k - lenO b) = k by omega]⟩)
        simpa using (by simpa using h3 : bitO b k = 0).symm
    have hpl : (packO y).length = b.length := by rw [packO_len, hy, hyl, hl]
    have x1 := (b.getD 0 0).toNat_lt
    have y1 := (b.getD 1 0).toNat_lt
    apply List.ext_getElem hpl
    intro k h3 h4
    rw [← getD8 _ _ h3, ← getD8 _ _ h4]
    rcases k with _ | _ | q
    · show UInt8.ofNat ((rowO y).length / 256) = _
      rw [hy, hyl]
      unfold lenO
      rw [show ((b.getD 0 0).toNat * 256 + (b.getD 1 0).toNat) / 256 = (b.getD 0 0).toNat by omega, UInt8.ofNat_toNat]
    · show UInt8.ofNat ((rowO y).length % 256) = b.getD 1 0
      rw [hy, hyl]
      unfold lenO
      rw [show ((b.getD 0 0).toNat * 256 + (b.getD 1 0).toNat) % 256 = (b.getD 1 0).toNat by omega, UInt8.ofNat_toNat]
    · rw [show q + 1 + 1 = 2 + q by omega]
      rw [show q + 1 + 1 = 2 + q by omega] at h4
      have hq : q < (lenO b + 3) / 4 := by omega
      rw [pack_q y q (by rw [hy, hyl]; exact hq)]
      have hz := (b.getD (2 + q) 0).toNat_lt
      unfold quadO
      rw [hg _ (by omega), hg _ (by omega), hg _ (by omega), hg _ (by omega)]
      unfold bitO
      simp only [Int.toNat_natCast]
      rw [show 4 * q / 4 = q by omega, show (4 * q + 1) / 4 = q by omega, show (4 * q + 2) / 4 = q by omega, show (4 * q + 3) / 4 = q by omega,
        show 4 * q % 4 = 0 by omega, show (4 * q + 1) % 4 = 1 by omega, show (4 * q + 2) % 4 = 2 by omega, show (4 * q + 3) % 4 = 3 by omega, bits4 _ hz, UInt8.ofNat_toNat]
  · cases h
/-- What the reference holds bytes against. -/
def refU (b : List UInt8) : List Int := (List.range (min (lenO b) (4 * (b.length - 2)))).map (bitO b)
theorem unp_ref (b : List UInt8) (h2 : 2 ≤ b.length) : unpO b = if mayO (refU b) = true ∧ packO (refU b) = b then some (refU b) else none := by
  split
  · rename_i h
    conv => lhs; rw [← h.2]
    rw [unp_pack, row_may _ h.1]
  · rename_i h
    match hu : unpO b with
    | none => rfl
    | some y =>
      obtain ⟨h3, h4, h5, _, h6⟩ := unp_some b y hu
      have : refU b = y := by
        rw [h5]
        unfold refU bitsO
        rw [← List.map_take, List.take_range]
        congr 2
        omega
      exact absurd (by rw [this]; exact ⟨h3, h4⟩) h
end Go.Proofs.Ytpgfhbkggchliaa
