/- Parts of the proof, joined: Obj2 Obj3 Obj5 Obj6 Obj7 Obj8 Obj9 Hd8 Hd9. -/
import Derived.Test.YtpgfhbkggchliaaQc
import Derived.Test.YtpgfhbkggchliaaQa
import Derived.Shelf.Abstract
namespace Go.Proofs.Ytpgfhbkggchliaa
open Go.RowKit
set_option linter.unusedVariables false

theorem cutZ_def (l : List Int) : cutZ l = l.take (lastN (fun k => l.getD k 0) l.length) := rfl

set_option maxRecDepth 100000 in
theorem clean_any (D : Nat → Prop) (A : Option Addr) (c : Nat) (l : List Int) (w : World) (h : RdI w D A l) (hc : l.length ≤ c) (hm : c ≤ 9223372036854775807) :
    Calls Try.prog 92 #[.slice A l.length c] w fun e w' => e = .returned (.slice A (cutZ l).length (cutZ l).length) ∧ w = w' := by
  obtain ⟨f, hf⟩ : ∃ f, f = fun k => l.getD k 0 := ⟨_, rfl⟩
  have e : Hid ((cutZ l).length = lastN f l.length) := by
    unfold Hid
    rw [cutZ_def, List.length_take, ← hf]
    exact Nat.min_eq_left (lastN_le _ _)
  have HF : Hid (∀ k, (hk : k < l.length) → f k = l[k]) := fun k hk => by rw [hf]; exact getD_at l k hk
  clear hf
  go_enter Try.func92, Try.ntmps92
  go_wp2_with fail
  go_loopw [3] (fun n wr => ∃ j : Nat, j ≤ l.length ∧ n = .int .i64 (j : Int) ∧ lastN f j = lastN f l.length ∧ w = wr) (fun n _ => (intOf n).toNat)
  case atStart => exact ⟨l.length, Nat.le_refl _, rfl, rfl, rfl⟩
  case round =>
    obtain ⟨j, hj, rfl, hl, rfl⟩ := hrel
    have HL := Lib.hid hl
    clear hl
    by_cases h0 : j = 0
    · subst h0
      have HL2 : Hid (lastN f l.length = 0) := by unfold Hid; rw [← HL.out]; rfl
      go_wp2_with fail
      go_ret
      exact ⟨by rw [e.out, HL2.out] <;> rfl, rfl⟩
    · obtain ⟨i, rfl⟩ : ∃ i, j = i + 1 := ⟨j - 1, by omega⟩
      have hi : i < l.length := by omega
      obtain ⟨ad, rfl, _, hcell⟩ := h.at_ hi
      have hfi := HF.out i hi
      have hsub : ((i + 1 : Nat) : Int) - 1 = (i : Int) := by omega
      generalize l[i] = z at *
      by_cases hz : z = 0
      · have HL2 : Hid (lastN f i = lastN f l.length) := by
          unfold Hid
          rw [← HL.out]
          conv => rhs; unfold lastN
          rw [hfi, if_pos hz]
        subst hz
        clear hfi
        go_wp2_with fail
        go_roundw
        case rel => exact ⟨i, by omega, by first | rfl | go_num, HL2.out, trivial⟩
        case measure => simp [intOf] <;> omega
      · have HL2 : Hid (lastN f l.length = i + 1) := by
          unfold Hid
          rw [← HL.out]
          unfold lastN
          rw [hfi, if_neg hz]
        have hzb : (z == 0) = false := by simp [hz]
        clear hfi
        go_wp2_with fail
        go_ret
        exact ⟨by rw [e.out, HL2.out] <;> rfl, rfl⟩

set_option maxRecDepth 100000 in
/-- each, of a function value that reads only. -/
theorem each_any (n : Nat) (k : FuncId) (caps : Array Value) (f : Nat → Int) (w : World) (hn : n ≤ big) (hent : ∀ (args : Array Value) (w : World), (callFunc k args).run Try.prog w = .ok (.enter k args) w)
    (hf : ∀ i, i < n → ∀ W, Below w.heap.size w W → Calls Try.prog k (#[.int .i64 (i : Int)] ++ caps) W fun e W' => e = .returned (.int .i64 (f i)) ∧ W = W') :
    Calls Try.prog 89 #[.int .i64 (n : Int), .func (.func k) #[] caps] w fun e w' => ∃ g, e = .returned (.slice (some ⟨g, 0, none⟩) n n) ∧ RowI w' w.heap.size (some ⟨g, 0, none⟩) ((List.range n).map f) ∧ Below w.heap.size w w' := by
  have hn63 : n ≤ 9223372036854775807 := by unfold big at hn; omega
  go_enter Try.func89, Try.ntmps89
  go_wp2_with (at_make; refine wpList_makeI rfl (.tmp 7) (.tmp 7) rfl w.heap.size n rfl rfl hn (Nat.le_refl _) ?_; intro w1 o1 b1)
  have r1 := RowI.of_own o1
  clear o1
  go_loopw [6, 10] (fun i6 i wr => ∃ j : Nat, j ≤ n ∧ i = .int .i64 (j : Int) ∧ RowI wr w.heap.size (some ⟨w.heap.size, 0, none⟩) ((List.range j).map f ++ List.replicate (n - j) 0) ∧ Below w.heap.size w wr) (fun _ i _ => n - (intOf i).toNat)
  case atStart => exact ⟨0, Nat.zero_le _, rfl, by simpa using r1, b1⟩
  case round =>
    clear r1
    obtain ⟨j, hj, rfl, r, bb⟩ := hrel
    by_cases hlt : j < n
    · have hlen : ((List.range j).map f ++ List.replicate (n - j) 0).length = n := by simp; omega
      obtain ⟨g, hg, _, hgl, hcell, hfr, hst⟩ := r.store (k := j) (by omega)
      injection hg with hg
      injection hg with hg
      subst hg
      have hset : Hid ((((List.range j).map f ++ List.replicate (n - j) (0 : Int)).set j (f j)) = (List.range (j + 1)).map f ++ List.replicate (n - (j + 1)) 0) := by
        unfold Hid
        rw [List.set_append_right _ _ (by simp), List.length_map, List.length_range, Nat.sub_self, show n - j = (n - (j + 1)) + 1 by omega, List.replicate_succ, List.set_cons_zero, List.range_succ, List.map_append, List.append_assoc]
        rfl
      have hcall := hf j hlt wr bb
      clear hf
      go_wp2_with fail
      refine hcall.mono ?_
      rintro e w2 ⟨rfl, rfl⟩
      go_wp2_with fail
      have r2 := hst (f j)
      rw [hset.out] at r2
      have b2 := below_store (k := j) bb (Nat.le_refl _) (.int .i64 (f j))
      go_roundw
      case rel => exact ⟨j + 1, by omega, by go_num, r2, b2⟩
      case measure => simp [intOf]; omega
    · obtain rfl : j = n := by omega
      rw [Nat.sub_self, List.replicate_zero, List.append_nil] at r
      go_wp2_with fail
      go_ret
      exact ⟨_, rfl, r, bb⟩
end Go.Proofs.Ytpgfhbkggchliaa

namespace Go.Proofs.Ytpgfhbkggchliaa
open Go.RowKit
set_option linter.unusedVariables false

theorem rowclo_any (bx : Nat) (D : Nat → Prop) (A : Option Addr) (c : Nat) (m : List Int) (i : Nat) (w : World) (hB : Blk w bx 24 #[.slice A m.length c]) (h : RdI w D A m) :
    Calls Try.prog 93 #[.int .i64 (i : Int), .pointer (some ⟨bx, 0, none⟩)] w fun e w' => e = .returned (.int .i64 (gN m i)) ∧ w = w' := by
  have c0 := hB.cell 0
  simp at c0
  go_enter Try.func93, Try.ntmps93
  go_wp2_with fail
  with_reducible refine (Get_any D A c m i w h).mono ?_
  rintro e w1 ⟨rfl, rfl⟩
  rw [gO_nat]
  go_wp2_with fail
  go_ret
  exact ⟨rfl, rfl⟩

theorem row_any (D : Nat → Prop) (A : Option Addr) (c : Nat) (m : List Int) (w : World) (h : RdI w D A m) :
    Calls Try.prog 78 #[.slice A m.length c] w fun e w' => ∃ A', e = .returned (.slice A' (rowO m).length (rowO m).length) ∧ RowI w' w.heap.size A' (rowO m) ∧ Below w.heap.size w w' := by
  obtain ⟨n, hk, hn⟩ : ∃ n : Nat, min (m.length : Int) 512 = (n : Int) ∧ n = min m.length 512 := ⟨min m.length 512, by omega, rfl⟩
  have HZ : Hid (cutZ ((List.range n).map (gN m)) = rowO m) := cutZ_map (gN m) n (fun k h1 h2 => gN_far m k (by omega)) (by omega)
  have hn5 : n ≤ 512 := by omega
  clear hn
  have hB := Blk.new w 24 #[.slice A m.length c]
  have bn := below_new w (.cells #[.slice A m.length c] 24)
  have c0 := hB.cell 0
  simp at c0
  have h' := h.below bn
  go_enter Try.func78, Try.ntmps78
  have hmf : ∀ (fn : Fn) (first cap : Array Value) (w : World), (Instr.makeFunc fn first cap).run Try.prog w = .ok (.func fn first cap) w := fun _ _ _ _ => rfl
  go_wp2_with fail
  refine (each_any n 93 #[.pointer (some ⟨w.heap.size, 0, none⟩)] (gN m) _ (by unfold big; omega) (Go.Proofs.enters_of Try.func93 (by kernel_rfl) rfl) (fun i _ W hW => rowclo_any w.heap.size D A c m i W (hB.below hW) (h'.below hW))).mono ?_
  rintro e w1 ⟨g, rfl, r, b1⟩
  go_wp2_with fail
  have hcall := clean_any _ (some ⟨g, 0, none⟩) n _ w1 r.rd (by simp) (by omega)
  rw [List.length_map, List.length_range] at hcall
  with_reducible refine hcall.mono ?_
  clear hcall
  rintro e w2 ⟨rfl, rfl⟩
  have r2 : RowI w1 w.heap.size (some ⟨g, 0, none⟩) (rowO m) := by
    rw [← HZ.out]
    exact (r.take _).low bn.size
  rw [HZ.out]
  go_wp2_with fail
  go_ret
  exact ⟨_, rfl, r2, bn.thenB' b1⟩
end Go.Proofs.Ytpgfhbkggchliaa

namespace Go.Proofs.Ytpgfhbkggchliaa
open Go.RowKit
set_option linter.unusedVariables false

def mix (F G : Nat → Int) (j n : Nat) : List Int := (List.range n).map fun k => if k < j then F k else G k
section
variable {F G : Nat → Int} {j n : Nat}
theorem mix_len : (mix F G j n).length = n := by simp [mix]
theorem mix_zero : mix F G 0 n = (List.range n).map G := List.map_congr_left fun k _ => by rw [if_neg (by omega)]
theorem mix_full : mix F G n n = (List.range n).map F := List.map_congr_left fun k hk => by rw [if_pos (by simpa using hk)]
theorem mix_at (h : j < (mix F G j n).length) : (mix F G j n)[j] = G j := by simp [mix]
theorem mix_ext (h : ∀ k, k < n → k ≠ j → True) (L : List Int) (hl : L.length = n) (hL : ∀ k, (hk : k < L.length) → L[k] = if k < j + 1 then F k else G k) : L = mix F G (j + 1) n := by
  apply List.ext_getElem
  · rw [hl, mix_len]
  · intro k h1 h2
    rw [hL k h1]
    simp [mix]
theorem mix_set : (mix F G j n).set j (F j) = mix F G (j + 1) n :=
  mix_ext (fun _ _ _ => trivial) _ (by rw [List.length_set, mix_len]) fun k hk => by
    rw [List.getElem_set]
    split
    · rename_i h; subst h; rw [if_pos (by omega)]
    · rename_i h
      simp only [mix, List.getElem_map, List.getElem_range]
      by_cases h1 : k < j
      · rw [if_pos h1, if_pos (by omega)]
      · rw [if_neg h1, if_neg (by omega)]
theorem mix_same (h : F j = G j) : mix F G j n = mix F G (j + 1) n :=
  mix_ext (fun _ _ _ => trivial) _ mix_len fun k hk => by
    simp only [mix, List.getElem_map, List.getElem_range]
    by_cases h1 : k < j
    · rw [if_pos h1, if_pos (by omega)]
    · rw [if_neg h1]
      by_cases h2 : k = j
      · subst h2; rw [if_pos (by omega), h]
      · rw [if_neg (by omega)]
end
theorem rowO_mix (m : List Int) (F : Nat → Int) : rowO m = mix F (gN m) 0 (lastN (gN m) 512) := mix_zero.symm
theorem fresh_mix (m : List Int) : freshO m = mix (freshF m) (gN m) (lastN (gN m) 512) (lastN (gN m) 512) := by
  unfold freshO rowF
  rw [lastN_freshF, mix_full]
theorem merge_mix (o m : List Int) : mergeO o m = mix (mergeF o m) (gN m) (lastN (gN m) 512) (lastN (gN m) 512) := by
  unfold mergeO rowF
  rw [lastN_mergeF, mix_full]
theorem freshO_len (m : List Int) : (freshO m).length = lastN (gN m) 512 := by rw [fresh_mix, mix_len]
theorem mergeO_len (o m : List Int) : (mergeO o m).length = lastN (gN m) 512 := by rw [merge_mix, mix_len]
theorem rowO_len (m : List Int) : (rowO m).length = lastN (gN m) 512 := rowF_length _

set_option maxRecDepth 100000 in
theorem Fresh_any (D : Nat → Prop) (A : Option Addr) (c : Nat) (m : List Int) (w : World) (h : RdI w D A m) :
    Calls Try.prog 58 #[.slice A m.length c] w fun e w' => ∃ A' c', e = .returned (.slice A' (freshO m).length c') ∧ RowI w' w.heap.size A' (freshO m) ∧ (freshO m).length ≤ c' ∧ c' ≤ 9223372036854775807 ∧ Below w.heap.size w w' := by
  obtain ⟨n, hn⟩ : ∃ n, n = lastN (gN m) 512 := ⟨_, rfl⟩
  have hn5 : n ≤ 512 := by rw [hn]; exact lastN_le _ _
  have HR : Hid (rowO m = mix (freshF m) (gN m) 0 n) := by rw [hn]; exact rowO_mix m _
  have HF : Hid (freshO m = mix (freshF m) (gN m) n n) := by rw [hn]; exact fresh_mix m
  clear hn
  go_enter Try.func58, Try.ntmps58
  go_wp2_with fail
  with_reducible refine (row_any D A c m w h).mono ?_
  rintro e w1 ⟨A', rfl, r, b1⟩
  rw [HR.out] at r
  rw [HR.out, mix_len]
  go_wp2_with fail
  go_loopw [4, 9] (fun i4 i wr => ∃ j : Nat, j ≤ n ∧ i = .int .i64 (j : Int) ∧ RowI wr w.heap.size A' (mix (freshF m) (gN m) j n) ∧ Below w.heap.size w wr) (fun i4 i _ => n - (intOf i).toNat)
  case atStart => exact ⟨0, Nat.zero_le _, rfl, r, b1⟩
  case round =>
    clear r b1
    obtain ⟨j, hj, rfl, r, bb⟩ := hrel
    by_cases hlt : j < n
    · obtain ⟨g, rfl, hgb, hgl, hcell, hfr, hst⟩ := r.store (k := j) (by rw [mix_len]; exact hlt)
      rw [mix_at] at hcell
      by_cases hz : gN m j = 1
      · have r2 := hst (freshF m j)
        rw [mix_set] at r2
        have e2 : freshF m j = 2 := by unfold freshF; rw [if_pos hz]
        rw [e2] at r2
        have b2 := below_store (k := j) bb hgb (.int .i64 2)
        rw [hz] at hcell
        clear hst e2 hz
        go_wp2_with fail
        go_roundw
        case rel => exact ⟨j + 1, by omega, by go_num, r2, b2⟩
        case measure => simp [intOf] <;> omega
      · have e2 : freshF m j = gN m j := by unfold freshF; rw [if_neg hz]
        rw [mix_same e2] at r
        have hzb : (gN m j == 1) = false := by simp [hz]
        generalize gN m j = z at *
        clear hst e2
        go_wp2_with fail
        go_roundw
        case rel => exact ⟨j + 1, by omega, by go_num, r, bb⟩
        case measure => simp [intOf] <;> omega
    · obtain rfl : j = n := by omega
      rw [← HF.out] at r
      have hl : (freshO m).length = j := by rw [HF.out, mix_len]
      have HL := Lib.hid hl
      clear hl
      go_wp2_with fail
      go_ret
      exact ⟨A', j, by rw [HL.out] <;> rfl, r, by rw [HL.out]; exact Nat.le_refl _, by omega, bb⟩

set_option maxRecDepth 100000 in
theorem Merge_any (D D' : Nat → Prop) (A B : Option Addr) (c d : Nat) (o m : List Int) (w : World) (ho : RdI w D' B o) (h : RdI w D A m) :
    Calls Try.prog 61 #[.slice B o.length d, .slice A m.length c] w fun e w' => ∃ A' c', e = .returned (.slice A' (mergeO o m).length c') ∧ RowI w' w.heap.size A' (mergeO o m) ∧ (mergeO o m).length ≤ c' ∧ c' ≤ 9223372036854775807 ∧ Below w.heap.size w w' := by
  obtain ⟨n, hn⟩ : ∃ n, n = lastN (gN m) 512 := ⟨_, rfl⟩
  have hn5 : n ≤ 512 := by rw [hn]; exact lastN_le _ _
  have HR : Hid (rowO m = mix (mergeF o m) (gN m) 0 n) := by rw [hn]; exact rowO_mix m _
  have HF : Hid (mergeO o m = mix (mergeF o m) (gN m) n n) := by rw [hn]; exact merge_mix o m
  clear hn
  have hod : RdI w (fun b => D' b ∧ b < w.heap.size) B o := Rd.imp ho (fun b h1 h2 => ⟨h2, h1⟩) (by decide)
  go_enter Try.func61, Try.ntmps61
  go_wp2_with fail
  with_reducible refine (row_any D A c m w h).mono ?_
  rintro e w1 ⟨A', rfl, r, b1⟩
  rw [HR.out] at r
  rw [HR.out, mix_len]
  go_wp2_with fail
  go_loopw [6, 11] (fun i6 i wr => ∃ j : Nat, j ≤ n ∧ i = .int .i64 (j : Int) ∧ RowI wr w.heap.size A' (mix (mergeF o m) (gN m) j n) ∧ Below w.heap.size w wr) (fun i6 i _ => n - (intOf i).toNat)
  case atStart => exact ⟨0, Nat.zero_le _, rfl, r, b1⟩
  case round =>
    clear r b1
    obtain ⟨j, hj, rfl, r, bb⟩ := hrel
    have ho2 : RdI wr _ B o := Rd.belowB hod bb (fun _ h => h.2)
    by_cases hlt : j < n
    · obtain ⟨g, rfl, hgb, hgl, hcell, hfr, hst⟩ := r.store (k := j) (by rw [mix_len]; exact hlt)
      rw [mix_at] at hcell
      have hcall := Get_any _ B d o j wr ho2
      rw [gO_nat] at hcall
      by_cases hz : gN m j = 2
      · by_cases hy : gN o j = 1
        · have r2 := hst (mergeF o m j)
          rw [mix_set] at r2
          have e2 : mergeF o m j = 1 := by unfold mergeF; rw [if_pos ⟨hz, hy⟩]
          rw [e2] at r2
          have b2 := below_store (k := j) bb hgb (.int .i64 1)
          rw [hz] at hcell
          rw [hy] at hcall
          clear hst e2 hz hy
          go_wp2_with fail
          with_reducible refine hcall.mono ?_
          rintro e w3 ⟨rfl, rfl⟩
          go_wp2_with fail
          go_roundw
          case rel => exact ⟨j + 1, by omega, by go_num, r2, b2⟩
          case measure => simp [intOf] <;> omega
        · have e2 : mergeF o m j = gN m j := by unfold mergeF; rw [if_neg (fun h => hy h.2)]
          rw [mix_same e2] at r
          have hyb : (gN o j == 1) = false := by simp [hy]
          rw [hz] at hcell
          generalize gN o j = y at *
          clear hst e2 hz
          go_wp2_with fail
          with_reducible refine hcall.mono ?_
          rintro e w3 ⟨rfl, rfl⟩
          go_wp2_with fail
          go_roundw
          case rel => exact ⟨j + 1, by omega, by go_num, r, bb⟩
          case measure => simp [intOf] <;> omega
      · have e2 : mergeF o m j = gN m j := by unfold mergeF; rw [if_neg (fun h => hz h.1)]
        rw [mix_same e2] at r
        have hzb : (gN m j == 2) = false := by simp [hz]
        generalize gN m j = z at *
        clear hst e2
        go_wp2_with fail
        go_roundw
        case rel => exact ⟨j + 1, by omega, by go_num, r, bb⟩
        case measure => simp [intOf] <;> omega
    · obtain rfl : j = n := by omega
      rw [← HF.out] at r
      have hl : (mergeO o m).length = j := by rw [HF.out, mix_len]
      have HL := Lib.hid hl
      clear hl
      go_wp2_with fail
      go_ret
      exact ⟨A', j, by rw [HL.out] <;> rfl, r, by rw [HL.out]; exact Nat.le_refl _, by omega, bb⟩
end Go.Proofs.Ytpgfhbkggchliaa

namespace Go.Proofs.Ytpgfhbkggchliaa
open Go.RowKit
set_option linter.unusedVariables false

theorem lastN_min (m : List Int) : lastN (gN m) (min m.length 512) = lastN (gN m) 512 := (lastN_far _ _ (Nat.min_le_right _ _) fun k hk => gN_far m k (by omega)).symm

set_option maxRecDepth 100000 in
theorem rRow_any (D : Nat → Prop) (A : Option Addr) (c : Nat) (m : List Int) (w : World) (h : RdI w D A m) (hc : m.length ≤ c) (hm : c ≤ 9223372036854775807) :
    Calls Try.prog 80 #[.slice A m.length c] w fun e w' => ∃ v, e = .returned v ∧ OwnI w' w.heap.size v (rowO m) ∧ Below w.heap.size w w' := by
  have hd : RdI w (fun b => D b ∧ b < w.heap.size) A m := Rd.imp h (fun b h1 h2 => ⟨h2, h1⟩) (by decide)
  have HM := Lib.hid (lastN_min m)
  go_enter Try.func80, Try.ntmps80
  go_wp2_with fail
  go_loopw [3, 4] (fun n i wr => ∃ j : Nat, j ≤ min m.length 512 ∧ i = .int .i64 (j : Int) ∧ n = .int .i64 (lastN (gN m) j : Nat) ∧ w = wr) (fun _ i _ => 512 - (intOf i).toNat)
  case atStart => exact ⟨0, Nat.zero_le _, rfl, rfl, rfl⟩
  case round =>
    obtain ⟨j, hj, rfl, rfl, rfl⟩ := hrel
    by_cases h1 : j < m.length ∧ j < 512
    · obtain ⟨h2, h3⟩ := h1
      have hcall := rGet_any _ A c m j w h
      rw [gO_nat] at hcall
      by_cases hz : gN m j = 0
      · have e : lastN (gN m) (j + 1) = lastN (gN m) j := by rw [lastN, if_pos hz]
        rw [hz] at hcall
        have HE := Lib.hid e
        generalize lastN (gN m) j = q at *
        clear e hz
        go_wp2_with fail
        with_reducible refine hcall.mono ?_
        rintro e w3 ⟨rfl, rfl⟩
        go_wp2_with fail
        go_roundw
        case rel => exact ⟨j + 1, by omega, by go_num, by rw [HE.out], trivial⟩
        case measure => simp [intOf] <;> omega
      · have e : lastN (gN m) (j + 1) = j + 1 := by rw [lastN, if_neg hz]
        have hzb : (gN m j != 0) = true := by simp [hz]
        have HE := Lib.hid e
        generalize lastN (gN m) j = q at *
        generalize gN m j = z at *
        clear e hz
        go_wp2_with fail
        with_reducible refine hcall.mono ?_
        rintro e w3 ⟨rfl, rfl⟩
        go_wp2_with fail
        go_roundw
        case rel => exact ⟨j + 1, by omega, by go_num, by rw [HE.out]; go_num, trivial⟩
        case measure => simp [intOf] <;> omega
    · obtain rfl : j = min m.length 512 := by omega
      rw [HM.out]
      have hN : lastN (gN m) 512 ≤ 512 := lastN_le _ _
      have HR : Hid (rowO m = (List.range (lastN (gN m) 512)).map (gN m)) := rfl
      generalize lastN (gN m) 512 = N at *
      by_cases h2 : min m.length 512 < m.length
      focus
        have h3 : ¬ min m.length 512 < 512 := by omega
      all_goals
        generalize min m.length 512 = j0 at *
        go_wp2_with fail
        go_loopw [5, 6] (fun b i wr => ∃ j : Nat, j ≤ N ∧ i = .int .i64 (j : Int) ∧ OwnI wr w.heap.size b ((List.range j).map (gN m)) ∧ Below w.heap.size w wr) (fun _ i _ => N - (intOf i).toNat)
        case atStart => exact ⟨0, Nat.zero_le _, rfl, OwnI.nil, Below.refl _ _⟩
        case round =>
          obtain ⟨j, hj, rfl, hown, bb⟩ := hrel
          by_cases h4 : j < N
          · have hcall := rGet_any _ A c m j wr (Rd.belowB hd bb (fun _ h => h.2))
            rw [gO_nat] at hcall
            have e : (List.range (j + 1)).map (gN m) = (List.range j).map (gN m) ++ [gN m j] := by rw [List.range_succ, List.map_append]; rfl
            have HE := Lib.hid e
            have hll : ((List.range j).map (gN m)).length = j := by simp
            have HL := Lib.hid hll
            clear e hll
            generalize (List.range j).map (gN m) = xs at *
            generalize gN m j = z at *
            go_wp2_with fail
            with_reducible refine hcall.mono ?_
            rintro e w3 ⟨rfl, rfl⟩
            go_wp2_with (at_builtin; refine wpList_appI rfl (.tmp 28) (.tmp 32) rfl w.heap.size _ xs rfl (OwnI.below hown (below_new _ _)) _ (some ⟨wr.heap.size, 0, none⟩) 1 1 [z] rfl rfl (rd_newI wr z) (by have := HL.out; unfold big; simp only [List.length_cons, List.length_nil]; omega) (Nat.le_trans bb.size (below_new wr _).size) ?_; intro v' w' h1 h2)
            have b2 := (bb.thenB' (below_new wr _)).trans (h2.below (OwnI.below hown (below_new wr _)) (Nat.le_refl _) (Nat.le_trans bb.size (below_new wr _).size))
            go_roundw
            case rel => exact ⟨j + 1, by omega, by go_num, by rw [HE.out]; exact h1, b2⟩
            case measure => simp [intOf] <;> omega
          · obtain rfl : j = N := by omega
            rw [← HR.out] at hown
            go_wp2_with fail
            go_ret
            exact ⟨_, rfl, hown, bb⟩
end Go.Proofs.Ytpgfhbkggchliaa

namespace Go.Proofs.Ytpgfhbkggchliaa
open Go.RowKit
set_option linter.unusedVariables false

theorem rRowF_any (D : Nat → Prop) (A : Option Addr) (c : Nat) (m : List Int) (w : World) (h : RdI w D A m) (hc : m.length ≤ c) (hm : c ≤ 9223372036854775807) :
    Calls Try.prog 80 #[.slice A m.length c] w fun e w' => ∃ A' c', e = .returned (.slice A' (rowO m).length c') ∧ RowI w' w.heap.size A' (rowO m) ∧ (rowO m).length ≤ c' ∧ c' ≤ 9223372036854775807 ∧ Below w.heap.size w w' :=
  (rRow_any D A c m w h hc hm).mono fun e w' ⟨v, he, ho, hb⟩ => by
    obtain ⟨A', c', rfl, h1, h2⟩ := ho.form
    exact ⟨A', c', he, RowI.of_own ho, h1, by unfold maxLen at h2; omega, hb⟩

theorem getD_pad (l : List Int) (t k : Nat) : (l ++ List.replicate t 0).getD k 0 = l.getD k 0 := by
  rw [List.getD_eq_getElem?_getD, List.getD_eq_getElem?_getD, List.getElem?_append]
  split
  · rfl
  · rename_i h
    rw [List.getElem?_eq_none (by omega : l.length ≤ k), List.getElem?_replicate]
    split <;> rfl
theorem setO_ref (m : List Int) (i : Nat) (st : Int) (t : Nat) (hi : i < 512) (hst : 0 ≤ st ∧ st ≤ 2) (hl : i < (rowO m ++ List.replicate t 0).length) :
    rowO ((rowO m ++ List.replicate t 0).set i st) = rowF (setF m i st) := by
  refine rowF_congr fun k hk => ?_
  unfold setF
  have hget : ((rowO m ++ List.replicate t 0).set i st).getD k 0 = if k = i then st else (rowO m).getD k 0 := by
    rw [List.getD_eq_getElem?_getD, List.getElem?_set]
    split
    · rename_i h; subst h
      rw [if_pos rfl]; rfl
    · rename_i h
      rw [if_neg (fun e => h e.symm), ← getD_pad (rowO m) t k, List.getD_eq_getElem?_getD]
  unfold gN
  rw [hget]
  by_cases h : k = i
  · rw [if_pos h, if_pos h, if_pos ⟨hk, hst⟩]
  · rw [if_neg h, if_neg h]
    have := gN_rowO m k
    unfold gN at this
    exact this

set_option maxRecDepth 100000 in
theorem rFresh_any (D : Nat → Prop) (A : Option Addr) (c : Nat) (m : List Int) (w : World) (h : RdI w D A m) (hc : m.length ≤ c) (hm : c ≤ 9223372036854775807) :
    Calls Try.prog 59 #[.slice A m.length c] w fun e w' => ∃ A' c', e = .returned (.slice A' (freshO m).length c') ∧ RowI w' w.heap.size A' (freshO m) ∧ (freshO m).length ≤ c' ∧ c' ≤ 9223372036854775807 ∧ Below w.heap.size w w' := by
  obtain ⟨n, hn⟩ : ∃ n, n = lastN (gN m) 512 := ⟨_, rfl⟩
  have hn5 : n ≤ 512 := by rw [hn]; exact lastN_le _ _
  have HR : Hid (rowO m = mix (freshF m) (gN m) 0 n) := by rw [hn]; exact rowO_mix m _
  have HF : Hid (freshO m = mix (freshF m) (gN m) n n) := by rw [hn]; exact fresh_mix m
  clear hn
  go_enter Try.func59, Try.ntmps59
  go_wp2_with fail
  with_reducible refine (rRowF_any D A c m w h hc hm).mono ?_
  rintro e w1 ⟨A', c', rfl, r, lc', mc', b1⟩
  rw [HR.out, mix_len] at lc'
  rw [HR.out] at r
  rw [HR.out, mix_len]
  go_wp2_with fail
  go_loopw [4] (fun i wr => ∃ j : Nat, j ≤ n ∧ i = .int .i64 (j : Int) ∧ RowI wr w.heap.size A' (mix (freshF m) (gN m) j n) ∧ Below w.heap.size w wr) (fun i _ => n - (intOf i).toNat)
  case atStart => exact ⟨0, Nat.zero_le _, rfl, r, b1⟩
  case round =>
    clear r b1
    obtain ⟨j, hj, rfl, r, bb⟩ := hrel
    by_cases hlt : j < n
    · obtain ⟨g, rfl, hgb, hgl, hcell, hfr, hst⟩ := r.store (k := j) (by rw [mix_len]; exact hlt)
      rw [mix_at] at hcell
      by_cases hz : gN m j = 1
      · have r2 := hst (freshF m j)
        rw [mix_set] at r2
        have e2 : freshF m j = 2 := by unfold freshF; rw [if_pos hz]
        rw [e2] at r2
        have b2 := below_store (k := j) bb hgb (.int .i64 2)
        rw [hz] at hcell
        clear hst e2 hz
        go_wp2_with fail
        go_roundw
        case rel => exact ⟨j + 1, by omega, by go_num, r2, b2⟩
        case measure => simp [intOf] <;> omega
      · have e2 : freshF m j = gN m j := by unfold freshF; rw [if_neg hz]
        rw [mix_same e2] at r
        have hzb : (gN m j == 1) = false := by simp [hz]
        generalize gN m j = z at *
        clear hst e2
        go_wp2_with fail
        go_roundw
        case rel => exact ⟨j + 1, by omega, by go_num, r, bb⟩
        case measure => simp [intOf] <;> omega
    · obtain rfl : j = n := by omega
      rw [← HF.out] at r
      have hl : (freshO m).length = j := by rw [HF.out, mix_len]
      have HL := Lib.hid hl
      clear hl
      go_wp2_with fail
      go_ret
      exact ⟨A', c', by rw [HL.out] <;> rfl, r, by rw [HL.out]; exact lc', mc', bb⟩

set_option maxRecDepth 100000 in
theorem rMerge_any (D D' : Nat → Prop) (A B : Option Addr) (c d : Nat) (o m : List Int) (w : World) (ho : RdI w D' B o) (h : RdI w D A m) (hc : m.length ≤ c) (hm : c ≤ 9223372036854775807) :
    Calls Try.prog 62 #[.slice B o.length d, .slice A m.length c] w fun e w' => ∃ A' c', e = .returned (.slice A' (mergeO o m).length c') ∧ RowI w' w.heap.size A' (mergeO o m) ∧ (mergeO o m).length ≤ c' ∧ c' ≤ 9223372036854775807 ∧ Below w.heap.size w w' := by
  obtain ⟨n, hn⟩ : ∃ n, n = lastN (gN m) 512 := ⟨_, rfl⟩
  have hn5 : n ≤ 512 := by rw [hn]; exact lastN_le _ _
  have HR : Hid (rowO m = mix (mergeF o m) (gN m) 0 n) := by rw [hn]; exact rowO_mix m _
  have HF : Hid (mergeO o m = mix (mergeF o m) (gN m) n n) := by rw [hn]; exact merge_mix o m
  clear hn
  have hod : RdI w (fun b => D' b ∧ b < w.heap.size) B o := Rd.imp ho (fun b h1 h2 => ⟨h2, h1⟩) (by decide)
  go_enter Try.func62, Try.ntmps62
  go_wp2_with fail
  with_reducible refine (rRowF_any D A c m w h hc hm).mono ?_
  rintro e w1 ⟨A', c', rfl, r, lc', mc', b1⟩
  rw [HR.out, mix_len] at lc'
  rw [HR.out] at r
  rw [HR.out, mix_len]
  go_wp2_with fail
  go_loopw [6] (fun i wr => ∃ j : Nat, j ≤ n ∧ i = .int .i64 (j : Int) ∧ RowI wr w.heap.size A' (mix (mergeF o m) (gN m) j n) ∧ Below w.heap.size w wr) (fun i _ => n - (intOf i).toNat)
  case atStart => exact ⟨0, Nat.zero_le _, rfl, r, b1⟩
  case round =>
    clear r b1
    obtain ⟨j, hj, rfl, r, bb⟩ := hrel
    have ho2 : RdI wr _ B o := Rd.belowB hod bb (fun _ h => h.2)
    by_cases hlt : j < n
    · obtain ⟨g, rfl, hgb, hgl, hcell, hfr, hst⟩ := r.store (k := j) (by rw [mix_len]; exact hlt)
      rw [mix_at] at hcell
      have hcall := rGet_any _ B d o j wr ho2
      rw [gO_nat] at hcall
      by_cases hz : gN m j = 2
      · by_cases hy : gN o j = 1
        · have r2 := hst (mergeF o m j)
          rw [mix_set] at r2
          have e2 : mergeF o m j = 1 := by unfold mergeF; rw [if_pos ⟨hz, hy⟩]
          rw [e2] at r2
          have b2 := below_store (k := j) bb hgb (.int .i64 1)
          rw [hz] at hcell
          rw [hy] at hcall
          clear hst e2 hz hy
          go_wp2_with fail
          with_reducible refine hcall.mono ?_
          rintro e w3 ⟨rfl, rfl⟩
          go_wp2_with fail
          go_roundw
          case rel => exact ⟨j + 1, by omega, by go_num, r2, b2⟩
          case measure => simp [intOf] <;> omega
        · have e2 : mergeF o m j = gN m j := by unfold mergeF; rw [if_neg (fun h => hy h.2)]
          rw [mix_same e2] at r
          have hyb : (gN o j == 1) = false := by simp [hy]
          rw [hz] at hcell
          generalize gN o j = y at *
          clear hst e2 hz
          go_wp2_with fail
          with_reducible refine hcall.mono ?_
          rintro e w3 ⟨rfl, rfl⟩
          go_wp2_with fail
          go_roundw
          case rel => exact ⟨j + 1, by omega, by go_num, r, bb⟩
          case measure => simp [intOf] <;> omega
      · have e2 : mergeF o m j = gN m j := by unfold mergeF; rw [if_neg (fun h => hz h.1)]
        rw [mix_same e2] at r
        have hzb : (gN m j == 2) = false := by simp [hz]
        generalize gN m j = z at *
        clear hst e2
        go_wp2_with fail
        go_roundw
        case rel => exact ⟨j + 1, by omega, by go_num, r, bb⟩
        case measure => simp [intOf] <;> omega
    · obtain rfl : j = n := by omega
      rw [← HF.out] at r
      have hl : (mergeO o m).length = j := by rw [HF.out, mix_len]
      have HL := Lib.hid hl
      clear hl
      go_wp2_with fail
      go_ret
      exact ⟨A', c', by rw [HL.out] <;> rfl, r, by rw [HL.out]; exact lc', mc', bb⟩
end Go.Proofs.Ytpgfhbkggchliaa

namespace Go.Proofs.Ytpgfhbkggchliaa
open Go.RowKit
set_option linter.unusedVariables false

set_option maxRecDepth 100000 in
theorem Index_any (k : FuncId) (caps : Array Value) (p : Int → Bool) (D : Nat → Prop) (A : Option Addr) (c : Nat) (l : List Int) (w : World) (h : RdI w D A l) (hc : l.length ≤ 9223372036854775807) (hent : ∀ (args : Array Value) (w : World), (callFunc k args).run Try.prog w = .ok (.enter k args) w)
    (hf : ∀ z, Calls Try.prog k (#[.int .i64 z] ++ caps) w fun e W' => e = .returned (.bool (p z)) ∧ w = W') :
    Calls Try.prog 94 #[.slice A l.length c, .func (.func k) #[] caps] w fun e w' => ∃ r : Int, e = .returned (.int .i64 r) ∧ (decide (0 ≤ r) = l.any p) ∧ w = w' := by
  go_enter Try.func94, Try.ntmps94
  go_wp2_with fail
  go_loopw [5, 8] (fun b i wr => ∃ j : Nat, j ≤ l.length ∧ i = .int .i64 (j : Int) ∧ (l.take j).any p = false ∧ w = wr) (fun _ i _ => l.length - (intOf i).toNat)
  case atStart => exact ⟨0, Nat.zero_le _, rfl, rfl, rfl⟩
  case round =>
    obtain ⟨j, hj, rfl, hp, rfl⟩ := hrel
    have HP := Lib.hid hp
    clear hp
    by_cases hlt : j < l.length
    · obtain ⟨ad, rfl, _, hcell⟩ := h.at_ hlt
      have HT : Hid (∀ b, p l[j] = b → (l.take (j + 1)).any p = b) := fun b hb => by
        rw [List.take_succ_eq_append_getElem hlt, List.any_append, HP.out, List.any_cons, List.any_nil, hb]; simp
      have HA : Hid (p l[j] = true → l.any p = true) := fun hb => List.any_eq_true.2 ⟨_, List.getElem_mem hlt, hb⟩
      have hcall := hf l[j]
      generalize l[j] = z at *
      clear hf
      cases hb : p z
      · have HN := Lib.hid (HT.out false hb)
        rw [hb] at hcall
        clear hb HT HA
        go_wp2_with fail
        refine hcall.mono ?_
        rintro e w2 ⟨rfl, rfl⟩
        go_wp2_with fail
        go_roundw
        case rel => exact ⟨j + 1, by omega, by go_num, HN.out, trivial⟩
        case measure => simp [intOf] <;> omega
      · have HN := Lib.hid (HA.out hb)
        rw [hb] at hcall
        clear hb HT HA
        go_wp2_with fail
        refine hcall.mono ?_
        rintro e w2 ⟨rfl, rfl⟩
        go_wp2_with fail
        go_ret
        exact ⟨_, rfl, by rw [HN.out]; simp, rfl⟩
    · obtain rfl : j = l.length := by omega
      have hp := HP.out
      rw [List.take_of_length_le (Nat.le_refl _)] at hp
      have HN := Lib.hid hp
      clear hp hf
      go_wp2_with fail
      go_ret
      exact ⟨_, rfl, by rw [HN.out]; simp, rfl⟩
theorem Contains_any (k : FuncId) (caps : Array Value) (p : Int → Bool) (D : Nat → Prop) (A : Option Addr) (c : Nat) (l : List Int) (w : World) (h : RdI w D A l) (hc : l.length ≤ 9223372036854775807) (hent : ∀ (args : Array Value) (w : World), (callFunc k args).run Try.prog w = .ok (.enter k args) w)
    (hf : ∀ z, Calls Try.prog k (#[.int .i64 z] ++ caps) w fun e W' => e = .returned (.bool (p z)) ∧ w = W') :
    Calls Try.prog 85 #[.slice A l.length c, .func (.func k) #[] caps] w fun e w' => e = .returned (.bool (l.any p)) ∧ w = w' := by
  go_enter Try.func85, Try.ntmps85
  go_wp2_with fail
  refine (Index_any k caps p D A c l w h hc hent hf).mono ?_
  rintro e w2 ⟨r, rfl, hr, rfl⟩
  have HR := Lib.hid hr
  clear hr hf
  go_wp2_with fail
  go_ret
  exact ⟨by rw [← HR.out] <;> rfl, rfl⟩
theorem checkclo_any (z : Int) (w : World) : Calls Try.prog 86 #[.int .i64 z] w fun e w' => e = .returned (.bool (!okO z)) ∧ w = w' := by
  cases hb : okO z
  all_goals
    have hcall := right_any z w
    rw [hb] at hcall
    clear hb
    go_enter Try.func86, Try.ntmps86
    go_wp2_with fail
    with_reducible refine hcall.mono ?_
    rintro e w1 ⟨rfl, rfl⟩
    go_wp2_with fail
    go_ret
    exact ⟨rfl, rfl⟩
theorem any_not (m : List Int) : m.any (fun z => !okO z) = !m.all okO := by
  induction m with
  | nil => rfl
  | cons a l ih => rw [List.any_cons, List.all_cons, ih, Bool.not_and]

set_option maxRecDepth 100000 in
theorem Check_any (D : Nat → Prop) (A : Option Addr) (c : Nat) (m : List Int) (w : World) (h : RdI w D A m) (hc : m.length ≤ 9223372036854775807) :
    Calls Try.prog 65 #[.slice A m.length c] w fun e w' => e = .returned (.bool (mayO m)) ∧ w = w' := by
  by_cases h1 : m.length ≤ 512
  · have hcall := Contains_any 86 #[] (fun z => !okO z) D A c m w h hc (Go.Proofs.enters_of Try.func86 (by kernel_rfl) rfl) (fun z => checkclo_any z w)
    rw [any_not] at hcall
    cases hb : m.all okO
    · have e : Hid (mayO m = false) := by unfold Hid mayO; rw [hb]; simp
      rw [hb] at hcall
      clear hb
      go_enter Try.func65, Try.ntmps65
      go_wp2_with fail
      refine hcall.mono ?_
      rintro e' w1 ⟨rfl, rfl⟩
      go_wp2_with fail
      go_ret
      exact ⟨by rw [e.out] <;> rfl, rfl⟩
    · rw [hb] at hcall
      by_cases h0 : m.length = 0
      · have e : Hid (mayO m = true) := by unfold Hid mayO; rw [hb]; simp [h0]
        clear hb
        rw [h0] at hcall ⊢
        go_enter Try.func65, Try.ntmps65
        go_wp2_with fail
        refine hcall.mono ?_
        rintro e' w1 ⟨rfl, rfl⟩
        go_wp2_with fail
        go_ret
        exact ⟨by rw [e.out] <;> rfl, rfl⟩
      · obtain ⟨k, hk⟩ : ∃ k, m.length = k + 1 := ⟨m.length - 1, by omega⟩
        have hlt : k < m.length := by omega
        obtain ⟨ad, rfl, _, hcell⟩ := h.at_ hlt
        have hg := getD_at m k hlt
        have e : Hid (mayO m = (m[k] != 0)) := by
          unfold Hid mayO
          rw [hb, show m.length - 1 = k by omega, hg]
          rw [show decide (m.length ≤ 512) = true by simp [h1], show decide (m.length = 0) = false by simp [h0]]
          by_cases hz : m[k] = 0 <;> simp [hz]
        clear hb hg
        generalize m[k] = z at *
        have hsub : ((k : Int) + 1 - 1) = (k : Int) := by omega
        rw [hk] at hcall ⊢ h1
        clear h0 hk hlt hc
        by_cases hz : z = 0
        focus
          have hzb : (z != 0) = false := by simp [hz]
        rotate_left
        focus
          have hzb : (z != 0) = true := by simp [hz]
        all_goals
          clear hz
          rw [hzb] at e
          go_enter Try.func65, Try.ntmps65
          go_wp2_with fail
          refine hcall.mono ?_
          rintro e' w1 ⟨rfl, rfl⟩
          go_wp2_with fail
          go_ret
          exact ⟨by rw [e.out] <;> rfl, rfl⟩
  · have e : Hid (mayO m = false) := by unfold Hid mayO; simp [h1]
    go_enter Try.func65, Try.ntmps65
    go_wp2_with fail
    go_ret
    exact ⟨by rw [e.out] <;> rfl, rfl⟩
end Go.Proofs.Ytpgfhbkggchliaa

namespace Go.Proofs.Ytpgfhbkggchliaa
open Go.RowKit
set_option linter.unusedVariables false

/-- A row of rows. -/
structure RV where
  A : Option Addr
  l : List Int
  c : Nat
def rowC (s : RV) : List Value := [.slice s.A s.l.length s.c]
theorem RdL.row {w : World} {D : Nat → Prop} {A : Option Addr} {L : List RV} (h : RdL w D 1 rowC A L) {i : Nat} (hi : i < L.length) :
    ∃ ad, A = some ad ∧ w.cell? (ad.add i) = some (.slice L[i].A L[i].l.length L[i].c) := by
  obtain ⟨ad, e, _, hc⟩ := h (by omega)
  have := hc i _ (List.getElem?_eq_getElem hi) 0 _ rfl
  rw [Nat.mul_one] at this
  exact ⟨ad, e, this⟩
theorem RdL.imp {α : Type} {w : World} {D D' : Nat → Prop} {k : Nat} {cells : α → List Value} {A : Option Addr} {L : List α} (h : RdL w D k cells A L) (hk : ∀ s, 0 < (cells s).length) (hd : ∀ b, b < w.heap.size → D b → D' b) : RdL w D' k cells A L := fun hn => by
  obtain ⟨ad, e, hb, hc⟩ := h hn
  have h1 := hc 0 L[0] (List.getElem?_eq_getElem hn) 0 _ (List.getElem?_eq_getElem (hk _))
  have := World.block_lt_of_cell? w _ h1
  rw [block_of_add] at this
  exact ⟨ad, e, hd _ this hb, hc⟩
def dd (z y : Int) : Bool := decide (z = 1) || (decide (z ≠ 0) != decide (y ≠ 0))
theorem diffO_eq (first : List Int) (L : List RV) (i : Nat) : diffO first (L.map (·.l)) i = L.any fun s => dd (gN s.l i) (gN first i) := by
  unfold diffO
  rw [List.any_map]
  rfl
def chg (p : Nat → Bool) (k : Nat) : List Int := ((List.range k).filter p).map fun i : Nat => (i : Int)
theorem chg_yes (p : Nat → Bool) (k : Nat) (h : p k = true) : chg p (k + 1) = chg p k ++ [(k : Int)] := by
  unfold chg; rw [List.range_succ, List.filter_append, List.map_append, List.filter_cons_of_pos h]; rfl
theorem chg_no (p : Nat → Bool) (k : Nat) (h : p k = false) : chg p (k + 1) = chg p k := by
  unfold chg; rw [List.range_succ, List.filter_append, List.map_append, List.filter_cons_of_neg (by rw [h]; decide)]; simp
theorem chg_len (p : Nat → Bool) (k : Nat) : (chg p k).length ≤ k := by
  unfold chg; rw [List.length_map]; exact Nat.le_trans (List.length_filter_le _ _) (by simp)
theorem any_take {α : Type} (p : α → Bool) (L : List α) (j : Nat) (h : j < L.length) : (L.take (j + 1)).any p = ((L.take j).any p || p L[j]) := by
  rw [List.take_succ_eq_append_getElem h, List.any_append]; simp

set_option maxRecDepth 100000 in
theorem may_ref (D : Nat → Prop) (A : Option Addr) (c : Nat) (m : List Int) (w : World) (h : RdI w D A m) (hc : m.length ≤ 9223372036854775807) :
    Calls Try.prog 63 #[.slice A m.length c] w fun e w' => e = .returned (.bool (mayO m)) ∧ w = w' := by
  go_enter Try.func63, Try.ntmps63
  go_wp2_with fail
  go_loopw [3] (fun i wr => ∃ j : Nat, j ≤ m.length ∧ i = .int .i64 (j : Int) ∧ (m.take j).all okO = true ∧ w = wr) (fun i _ => m.length - (intOf i).toNat)
  case atStart => exact ⟨0, Nat.zero_le _, rfl, rfl, rfl⟩
  case round =>
    obtain ⟨j, hj, rfl, hp, rfl⟩ := hrel
    have HP := Lib.hid hp
    clear hp
    by_cases hlt : j < m.length
    · obtain ⟨ad, rfl, _, hcell⟩ := h.at_ hlt
      have HT : Hid (okO m[j] = true → (m.take (j + 1)).all okO = true) := fun hb => by
        rw [List.take_succ_eq_append_getElem hlt, List.all_append, HP.out, List.all_cons, List.all_nil, hb]; rfl
      have HA : Hid (okO m[j] = false → mayO m = false) := fun hb => by
        have : m.all okO = false := by
          rw [← Bool.not_eq_true]
          intro h
          have := List.all_eq_true.1 h _ (List.getElem_mem hlt)
          rw [hb] at this; cases this
        unfold mayO; rw [this]; simp
      generalize m[j] = z at *
      by_cases z1 : z < 0
      · have HN := Lib.hid (HA.out (by unfold okO; rw [decide_eq_false_iff_not]; omega))
        clear HT HA
        go_wp2_with fail
        go_ret
        exact ⟨by rw [HN.out] <;> rfl, rfl⟩
      · by_cases z2 : 2 < z
        · have HN := Lib.hid (HA.out (by unfold okO; rw [decide_eq_false_iff_not]; omega))
          clear HT HA
          go_wp2_with fail
          go_ret
          exact ⟨by rw [HN.out] <;> rfl, rfl⟩
        · have HN := Lib.hid (HT.out (by unfold okO; rw [decide_eq_true_iff]; omega))
          clear HT HA
          go_wp2_with fail
          go_roundw
          case rel => exact ⟨j + 1, by omega, by go_num, HN.out, trivial⟩
          case measure => simp [intOf] <;> omega
    · obtain rfl : j = m.length := by omega
      have hp := HP.out
      rw [List.take_of_length_le (Nat.le_refl _)] at hp
      clear HP
      by_cases h1 : m.length ≤ 512
      · by_cases h0 : m.length = 0
        · have e : Hid (mayO m = true) := by unfold Hid mayO; rw [hp]; simp [h0]
          clear hp
          have hb0 : ((m.length : Int) == 0) = true := by simp [h0]
          have HL := Lib.hid h0
          clear h0
          go_wp2_with fail
          go_ret
          exact ⟨by rw [e.out] <;> rfl, rfl⟩
        · obtain ⟨k, hk⟩ : ∃ k, m.length = k + 1 := ⟨m.length - 1, by omega⟩
          have hlt : k < m.length := by omega
          obtain ⟨ad, rfl, _, hcell⟩ := h.at_ hlt
          have hg := getD_at m k hlt
          have e : Hid (mayO m = (m[k] != 0)) := by
            unfold Hid mayO
            rw [hp, show m.length - 1 = k by omega, hg]
            rw [show decide (m.length ≤ 512) = true by simp [h1], show decide (m.length = 0) = false by simp [h0]]
            by_cases hz : m[k] = 0 <;> simp [hz]
          clear hp hg
          generalize m[k] = z at *
          have hsub : ((m.length : Int) - 1) = (k : Int) := by omega
          have hb0 : ((m.length : Int) == 0) = false := by rw [beq_eq_false_iff_ne]; omega
          clear h0 hk
          by_cases hz : z = 0
          focus
            have hzb : (z != 0) = false := by simp [hz]
          rotate_left
          focus
            have hzb : (z != 0) = true := by simp [hz]
          all_goals
            clear hz
            rw [hzb] at e
            go_wp2_with fail
            go_ret
            exact ⟨by rw [e.out] <;> rfl, rfl⟩
      · have e : Hid (mayO m = false) := by unfold Hid mayO; simp [h1]
        clear hp
        go_wp2_with fail
        go_ret
        exact ⟨by rw [e.out] <;> rfl, rfl⟩

end Go.Proofs.Ytpgfhbkggchliaa

/- Whether a size and a map may be. -/
namespace Go.Proofs.Ytpgfhbkggchliaa
open Go.RowKit
set_option linter.unusedVariables false

def sizedO (u n o size : Int) (m : List Int) : Bool := decide (0 ≤ size ∧ size ≤ 512) && (mayO m && decide ((m.length : Int) ≤ objO u n o size))
theorem sized_no {u n o size : Int} {m : List Int} (h : ¬ (0 ≤ size ∧ size ≤ 512)) : sizedO u n o size m = false := by unfold sizedO; rw [decide_eq_false h]; rfl
theorem sized_may {u n o size : Int} {m : List Int} (h : mayO m = false) : sizedO u n o size m = false := by unfold sizedO; rw [h]; simp
theorem sized_yes {u n o size : Int} {m : List Int} (h : 0 ≤ size ∧ size ≤ 512) (h2 : mayO m = true) : sizedO u n o size m = decide ((m.length : Int) ≤ objO u n o size) := by unfold sizedO; rw [decide_eq_true h, h2]; rfl

set_option maxHeartbeats 4000000 in
set_option maxRecDepth 100000 in
theorem sized_any (u n o size : Int) (D : Nat → Prop) (A : Option Addr) (c : Nat) (m : List Int) (w : World) (h : RdI w D A m) (hc : m.length ≤ 9223372036854775807) :
    Calls Try.prog 36 #[layV u n o, .int .i64 size, .slice A m.length c] w fun e w' => e = .returned (.bool (sizedO u n o size m)) ∧ Below w.heap.size w w' := by
  have bb := below_new w (.cells #[.int .i64 u, .int .i64 n, .int .i64 o] 23)
  have hck := Check_any D A c m _ (h.below bb) hc
  have hob := fun w => Objects_any u n o size w
  unfold layV at hob ⊢
  have NO := Lib.hid (sized_no (u := u) (n := n) (o := o) (size := size) (m := m))
  have NM := Lib.hid (sized_may (u := u) (n := n) (o := o) (size := size) (m := m))
  have YES := Lib.hid (sized_yes (u := u) (n := n) (o := o) (size := size) (m := m))
  by_cases h1 : 0 ≤ size
  focus
    by_cases h2 : size ≤ 512
    focus
      cases hm : mayO m
      focus
        have E := Lib.hid (NM.out hm)
        rw [hm] at hck
        clear hm NO NM YES
        go_enter Try.func36, Try.ntmps36
        go_wp2_with fail
        refine hck.mono ?_
        clear hck
        rintro e w2 ⟨rfl, rfl⟩
        go_wp2_with fail
        go_ret
        exact ⟨by rw [E.out]; rfl, bb⟩
      focus
        have E := Lib.hid (YES.out ⟨h1, h2⟩ hm)
        rw [hm] at hck
        clear hm NO NM YES
        generalize objO u n o size = q at *
        go_enter Try.func36, Try.ntmps36
        go_wp2_with fail
        refine hck.mono ?_
        clear hck
        rintro e w2 ⟨rfl, rfl⟩
        go_wp2_with fail
        refine (hob _).mono ?_
        clear hob
        rintro e w3 ⟨rfl, b3⟩
        go_wp2_with fail
        go_ret
        exact ⟨by rw [E.out]; rfl, bb.thenB' b3⟩
    focus
      have E := Lib.hid (NO.out fun h => h2 h.2)
      have hd : decide (size ≤ 512) = false := by simp; omega
      clear NO NM YES h2
      go_enter Try.func36, Try.ntmps36
      go_wp2_with fail
      go_ret
      exact ⟨by rw [E.out]; rfl, bb⟩
  focus
    have E := Lib.hid (NO.out fun h => h1 h.1)
    have hd : decide (0 ≤ size) = false := by simp; omega
    clear NO NM YES h1
    go_enter Try.func36, Try.ntmps36
    go_wp2_with fail
    go_ret
    exact ⟨by rw [E.out]; rfl, bb⟩

set_option maxHeartbeats 4000000 in
set_option maxRecDepth 100000 in
theorem rsized_any (u n o size : Int) (D : Nat → Prop) (A : Option Addr) (c : Nat) (m : List Int) (w : World) (h : RdI w D A m) (hc : m.length ≤ 9223372036854775807) :
    Calls Try.prog 34 #[layV u n o, .int .i64 size, .slice A m.length c] w fun e w' => e = .returned (.bool (sizedO u n o size m)) ∧ Below w.heap.size w w' := by
  have bb := below_new w (.cells #[.int .i64 u, .int .i64 n, .int .i64 o] 23)
  have hck := may_ref D A c m _ (h.below bb) hc
  have hob := fun w => rObjects_any u n o size w
  unfold layV at hob ⊢
  have NO := Lib.hid (sized_no (u := u) (n := n) (o := o) (size := size) (m := m))
  have NM := Lib.hid (sized_may (u := u) (n := n) (o := o) (size := size) (m := m))
  have YES := Lib.hid (sized_yes (u := u) (n := n) (o := o) (size := size) (m := m))
  by_cases h1 : 0 ≤ size
  focus
    by_cases h2 : size ≤ 512
    focus
      cases hm : mayO m
      focus
        have E := Lib.hid (NM.out hm)
        rw [hm] at hck
        clear hm NO NM YES
        go_enter Try.func34, Try.ntmps34
        go_wp2_with fail
        refine hck.mono ?_
        clear hck
        rintro e w2 ⟨rfl, rfl⟩
        go_wp2_with fail
        go_ret
        exact ⟨by rw [E.out]; rfl, bb⟩
      focus
        have E := Lib.hid (YES.out ⟨h1, h2⟩ hm)
        rw [hm] at hck
        clear hm NO NM YES
        generalize objO u n o size = q at *
        go_enter Try.func34, Try.ntmps34
        go_wp2_with fail
        refine hck.mono ?_
        clear hck
        rintro e w2 ⟨rfl, rfl⟩
        go_wp2_with fail
        refine (hob _).mono ?_
        clear hob
        rintro e w3 ⟨rfl, b3⟩
        go_wp2_with fail
        go_ret
        exact ⟨by rw [E.out]; rfl, bb.thenB' b3⟩
    focus
      have E := Lib.hid (NO.out fun h => h2 h.2)
      have hd : decide (size ≤ 512) = false := by simp; omega
      clear NO NM YES h2
      go_enter Try.func34, Try.ntmps34
      go_wp2_with fail
      refine hck.mono ?_
      clear hck
      rintro e w2 ⟨rfl, rfl⟩
      go_wp2_with fail
      go_ret
      exact ⟨by rw [E.out]; rfl, bb⟩
  focus
    have E := Lib.hid (NO.out fun h => h1 h.1)
    have hd : decide (0 ≤ size) = false := by simp; omega
    clear NO NM YES h1
    go_enter Try.func34, Try.ntmps34
    go_wp2_with fail
    refine hck.mono ?_
    clear hck
    rintro e w2 ⟨rfl, rfl⟩
    go_wp2_with fail
    go_ret
    exact ⟨by rw [E.out]; rfl, bb⟩
end Go.Proofs.Ytpgfhbkggchliaa

/- Whether a head may be: the document. -/
namespace Go.Proofs.Ytpgfhbkggchliaa
open Go.RowKit
set_option linter.unusedVariables false

def pureS (S : List SnV) : List (Int × Int × List Int) := S.map fun s => (s.id, s.size, s.m)
theorem pure_len (S : List SnV) : (pureS S).length = S.length := by unfold pureS; simp
theorem pure_drop (S : List SnV) (k : Nat) (h : k < S.length) : (pureS S).drop k = (S[k].id, S[k].size, S[k].m) :: (pureS S).drop (k + 1) := by
  rw [List.drop_eq_getElem_cons (by rw [pure_len]; exact h)]
  unfold pureS
  simp
def snapsO (u n o last : Int) : Int → List (Int × Int × List Int) → Bool
  | _, [] => true
  | a, s :: r => decide (a < s.1) && (decide (s.1 ≤ last) && (sizedO u n o s.2.1 s.2.2 && snapsO u n o last s.1 r))
def mayH (h : HdV) : Bool :=
  layO h.u h.n h.o && (sizedO h.u h.n h.o h.size h.m && (decide (h.S.length ≤ 4) && (decide (0 ≤ h.last) && (decide (h.last ≤ 100) && (decide (0 ≤ h.seq) && (decide (h.seq ≤ 1099511627776) && snapsO h.u h.n h.o h.last 0 (pureS h.S)))))))

set_option maxHeartbeats 8000000 in
set_option maxRecDepth 100000 in
theorem rMay_any (D : Nat → Prop) (h : HdV) (w : World) (hr : HdR w D h) :
    Calls Try.prog 12 #[hdV h] w fun e w' => e = .returned (.bool (mayH h)) ∧ Below w.heap.size w w' := by
  obtain ⟨rm, lm, mm, hS, hl, hm, hrs⟩ := hr
  have b1 := below_new w (.cells (hdA h) 27)
  have hB := Blk.new w 27 (hdA h)
  have hS := hS.below b1
  have rm := rm.below b1
  have hrs := fun s hs => (hrs s hs).below b1
  obtain ⟨u, n, o, hz, MA, m, mc, A, L, sc, la, sq⟩ := h
  unfold hdV mayH
  unfold hdA at *
  dsimp only at *
  generalize hM : (layO u n o && (sizedO u n o hz m && (decide (L.length ≤ 4) && (decide (0 ≤ la) && (decide (la ≤ 100) && (decide (0 ≤ sq) && (decide (sq ≤ 1099511627776) && snapsO u n o la 0 (pureS L)))))))) = M
  have HM := Lib.hid hM
  clear hM
  have hlm := fun w => rLay_any u n o w
  have hsz := fun w hh => rsized_any u n o hz D MA mc m w hh (by omega)
  have hLb : L.length ≤ 9223372036854775807 := by omega
  unfold layV at hlm hsz
  go_enter Try.func12, Try.ntmps12
  go_wp2_with fail
  generalize w.alloc (.cells #[.int .i64 u, .int .i64 n, .int .i64 o, .int .i64 hz, .slice MA m.length mc, .slice A L.length sc, .int .i64 la, .int .i64 sq] 27) = w1 at *
  refine (hlm _).mono ?_
  clear hlm
  rintro e w2 ⟨rfl, b2⟩
  cases hl0 : layO u n o
  focus
    have E : Hid (M = false) := by unfold Hid; rw [← HM.out, hl0]; rfl
    clear HM
    go_wp2_with fail
    go_ret
    exact ⟨by rw [E.out]; rfl, b1.thenB' b2⟩
  have hB := hB.below b2
  have hS := hS.below b2
  have rm := rm.below b2
  have hrs := fun s hs => (hrs s hs).below b2
  have bb := b1.thenB' b2
  have c0 := hB.cell 0
  have c1 := hB.cell 1
  have c2 := hB.cell 2
  have c3 := hB.cell 3
  have c4 := hB.cell 4
  have c5 := hB.cell 5
  have c6 := hB.cell 6
  have c7 := hB.cell 7
  simp at c0 c1 c2 c3 c4 c5 c6 c7
  have hsz := hsz _ rm
  go_wp2_with fail
  refine hsz.mono ?_
  clear hsz
  rintro e w3 ⟨rfl, b3⟩
  have bb := bb.thenB' b3
  have hB := hB.below b3
  have hS := hS.below b3
  have hrs := fun s hs => (hrs s hs).below b3
  have c0 := hB.cell 0
  have c1 := hB.cell 1
  have c2 := hB.cell 2
  have c3 := hB.cell 3
  have c4 := hB.cell 4
  have c5 := hB.cell 5
  have c6 := hB.cell 6
  have c7 := hB.cell 7
  simp at c0 c1 c2 c3 c4 c5 c6 c7
  cases hs0 : sizedO u n o hz m
  focus
    have E : Hid (M = false) := by unfold Hid; rw [← HM.out, hs0]; simp
    clear HM
    go_wp2_with fail
    go_ret
    exact ⟨by rw [E.out]; rfl, bb⟩
  by_cases h4 : 4 < L.length
  focus
    have E : Hid (M = false) := by unfold Hid; rw [← HM.out, decide_eq_false (show ¬ L.length ≤ 4 by omega)]; simp
    clear HM
    go_wp2_with fail
    go_ret
    exact ⟨by rw [E.out]; rfl, bb⟩
  by_cases h5 : la < 0
  focus
    have E : Hid (M = false) := by unfold Hid; rw [← HM.out, decide_eq_false (show ¬ 0 ≤ la by omega)]; simp
    clear HM
    go_wp2_with fail
    go_ret
    exact ⟨by rw [E.out]; rfl, bb⟩
  by_cases h6 : 100 < la
  focus
    have E : Hid (M = false) := by unfold Hid; rw [← HM.out, decide_eq_false (show ¬ la ≤ 100 by omega)]; simp
    clear HM
    go_wp2_with fail
    go_ret
    exact ⟨by rw [E.out]; rfl, bb⟩
  by_cases h7 : sq < 0
  focus
    have E : Hid (M = false) := by unfold Hid; rw [← HM.out, decide_eq_false (show ¬ 0 ≤ sq by omega)]; simp
    clear HM
    go_wp2_with fail
    go_ret
    exact ⟨by rw [E.out]; rfl, bb⟩
  by_cases h8 : 1099511627776 < sq
  focus
    have E : Hid (M = false) := by unfold Hid; rw [← HM.out, decide_eq_false (show ¬ sq ≤ 1099511627776 by omega)]; simp
    clear HM
    go_wp2_with fail
    go_ret
    exact ⟨by rw [E.out]; rfl, bb⟩
  have HS : Hid (snapsO u n o la 0 (pureS L) = M) := by
    unfold Hid
    rw [← HM.out, hl0, hs0, decide_eq_true (show L.length ≤ 4 by omega), decide_eq_true (show 0 ≤ la by omega), decide_eq_true (show la ≤ 100 by omega), decide_eq_true (show 0 ≤ sq by omega), decide_eq_true (show sq ≤ 1099511627776 by omega)]
    simp
  clear HM
  go_wp2_with fail
  clear c0 c1 c2 c3 c4 c5 c6 c7
  go_loopw [4, 5, 6] (fun a i s6 wr => ∃ (k : Nat) (z : Int), k ≤ L.length ∧ i = .int .i64 (k : Int) ∧ a = .int .i64 z ∧ Hid (snapsO u n o la z ((pureS L).drop k) = M) ∧ Below w3.heap.size w3 wr) (fun _ i _ _ => L.length - (intOf i).toNat)
  case atStart => exact ⟨0, 0, Nat.zero_le _, rfl, rfl, HS, Below.refl _ _⟩
  case round =>
    clear HS
    obtain ⟨k, z, hk, rfl, rfl, HS, bw⟩ := hrel
    have hB := hB.below bw
    have hS := hS.below bw
    have hrs := fun s hs => (hrs s hs).below bw
    have bb := bb.thenB' bw
    have c0 := hB.cell 0
    have c1 := hB.cell 1
    have c2 := hB.cell 2
    have c5 := hB.cell 5
    have c6 := hB.cell 6
    simp at c0 c1 c2 c5 c6
    by_cases hlt : k < L.length
    · obtain ⟨ad, rfl, d0, d1, d2⟩ := hS.sn hlt
      obtain ⟨rk, lk, mk⟩ := hrs L[k] (List.getElem_mem hlt)
      have HS2 : Hid ((decide (z < L[k].id) && (decide (L[k].id ≤ la) && (sizedO u n o L[k].size L[k].m && snapsO u n o la L[k].id ((pureS L).drop (k + 1))))) = M) := by
        unfold Hid; rw [← HS.out, pure_drop L k hlt]; rfl
      have hsz2 := fun (w : World) (hh : RdI w D L[k].A L[k].m) => rsized_any u n o L[k].size D L[k].A L[k].c L[k].m w hh (by omega)
      unfold layV at hsz2
      clear HS
      generalize L[k].id = id at *
      generalize L[k].size = sz at *
      generalize L[k].A = Ax at *
      generalize L[k].m = x at *
      generalize L[k].c = cx at *
      have bn := below_new wr (.cells #[.int .i64 id, .int .i64 sz, .slice Ax x.length cx] 52)
      have hsz3 := hsz2 _ (rk.below bn)
      clear hsz2 hsz
      have hB2 := hB.below bn
      have hgl := hB.lt
      have hgn : ¬ w.heap.size = wr.heap.size := by omega
      have f0 : (wr.alloc (.cells #[.int .i64 id, .int .i64 sz, .slice Ax x.length cx] 52)).cell? ⟨w.heap.size, 0, none⟩ = some (.int .i64 u) := hB2.cell 0
      have f1 : (wr.alloc (.cells #[.int .i64 id, .int .i64 sz, .slice Ax x.length cx] 52)).cell? ⟨w.heap.size, 1, none⟩ = some (.int .i64 n) := hB2.cell 1
      have f2 : (wr.alloc (.cells #[.int .i64 id, .int .i64 sz, .slice Ax x.length cx] 52)).cell? ⟨w.heap.size, 2, none⟩ = some (.int .i64 o) := hB2.cell 2
      have f6 : (wr.alloc (.cells #[.int .i64 id, .int .i64 sz, .slice Ax x.length cx] 52)).cell? ⟨w.heap.size, 6, none⟩ = some (.int .i64 la) := hB2.cell 6
      by_cases h9 : id ≤ z
      focus
        have E : Hid (M = false) := by unfold Hid; rw [← HS2.out, decide_eq_false (show ¬ z < id by omega)]; simp
        clear HS2
        go_wp2_with fail
        go_ret
        exact ⟨by rw [E.out]; rfl, bb.thenB' bn⟩
      by_cases h10 : la < id
      focus
        have E : Hid (M = false) := by unfold Hid; rw [← HS2.out, decide_eq_false (show ¬ id ≤ la by omega)]; simp
        clear HS2
        go_wp2_with fail
        go_ret
        exact ⟨by rw [E.out]; rfl, bb.thenB' bn⟩
      cases hs1 : sizedO u n o sz x
      focus
        have E : Hid (M = false) := by unfold Hid; rw [← HS2.out, hs1]; simp
        rw [hs1] at hsz3
        clear HS2 hs1
        go_wp2_with fail
        refine hsz3.mono ?_
        clear hsz3
        rintro e w4 ⟨rfl, b4⟩
        go_wp2_with fail
        go_ret
        exact ⟨by rw [E.out]; rfl, (bb.thenB' bn).thenB' b4⟩
      have E : Hid (snapsO u n o la id ((pureS L).drop (k + 1)) = M) := by
        unfold Hid; rw [← HS2.out, hs1, decide_eq_true (show z < id by omega), decide_eq_true (show id ≤ la by omega)]; simp
      have hSn := Blk.new wr 52 #[.int .i64 id, .int .i64 sz, .slice Ax x.length cx]
      rw [hs1] at hsz3
      clear HS2 hs1
      go_wp2_with fail
      refine hsz3.mono ?_
      clear hsz3
      rintro e w4 ⟨rfl, b4⟩
      have e0 := (hSn.below b4).cell 0
      simp at e0
      go_wp2_with fail
      go_roundw
      case rel => exact ⟨k + 1, id, by omega, by go_num, rfl, E, (bw.thenB' bn).thenB' b4⟩
      case measure => simp [intOf] <;> omega
    · obtain rfl : k = L.length := by omega
      have E : Hid (M = true) := by unfold Hid; rw [← HS.out, List.drop_eq_nil_of_le (by rw [pure_len]; exact Nat.le_refl _)]; rfl
      clear HS
      go_wp2_with fail
      go_ret
      exact ⟨by rw [E.out]; rfl, bb⟩
end Go.Proofs.Ytpgfhbkggchliaa
