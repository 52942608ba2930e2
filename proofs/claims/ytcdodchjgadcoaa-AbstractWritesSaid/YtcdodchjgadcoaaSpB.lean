/- The code's ends of a row. -/
import Derived.Test.YtcdodchjgadcoaaSpA
namespace Go.Proofs.Ytcdodchjgadcoaa
open Go.RowKit
set_option linter.unusedVariables false

theorem ends_take (l : List Sp) (a b : Int) (j : Nat) (h : j < l.length) : endsP (l.take (j + 1)) a b = endsP (l.take j) a b ++ (if max l[j].1 0 < min l[j].2 farS then [(max l[j].1 0, a, b), (min l[j].2 farS, -a, -b)] else []) := by
  unfold endsP
  rw [List.take_succ_eq_append_getElem h, List.flatMap_append]
  simp
theorem ends_yes (l : List Sp) (a b x y : Int) (j : Nat) (h : j < l.length) (hx : x = max l[j].1 0) (hy : y = min l[j].2 1099511627776) (hlt : x < y) : endsP (l.take (j + 1)) a b = endsP (l.take j) a b ++ [(x, a, b), (y, -a, -b)] := by
  rw [ends_take l a b j h]
  have hx' : max l[j].1 0 = x := hx.symm
  have hy' : min l[j].2 farS = y := hy.symm
  rw [hx', hy', if_pos hlt]
theorem ends_no (l : List Sp) (a b x y : Int) (j : Nat) (h : j < l.length) (hx : x = max l[j].1 0) (hy : y = min l[j].2 1099511627776) (hlt : ¬ x < y) : endsP (l.take (j + 1)) a b = endsP (l.take j) a b := by
  rw [ends_take l a b j h]
  have hx' : max l[j].1 0 = x := hx.symm
  have hy' : min l[j].2 farS = y := hy.symm
  rw [hx', hy', if_neg hlt, List.append_nil]
theorem rd_newEn2 (w : World) (x y : En) : Rd (w.alloc (.cells (enC x ++ enC y).toArray 83)) (· = w.heap.size) 3 (some ⟨w.heap.size, 0, none⟩) 2 (flC enC [x, y]) := by
  have e : flC enC [x, y] = enC x ++ enC y := by unfold flC; simp
  rw [e]
  refine ⟨rfl, fun _ => ⟨_, rfl, rfl, fun j u hu => ?_⟩⟩
  rw [add_head, (Blk.new w 83 (enC x ++ enC y).toArray).cell]
  simpa using hu

set_option maxHeartbeats 1000000 in
set_option maxRecDepth 100000 in
theorem ends_any (D : Nat → Prop) (A : Option Addr) (c : Nat) (l : List Sp) (a b : Int) (w : World) (h : RdSp w D A l) (hl : l.length ≤ 1000) (ha : 0 ≤ a ∧ a ≤ 1) (hb : 0 ≤ b ∧ b ≤ 1) :
    Calls Try.prog 51 #[.slice A l.length c, .int .i64 a, .int .i64 b] w fun e w' => ∃ v, e = .returned v ∧ OwnEn w' w.heap.size v (endsP l a b) ∧ Below w.heap.size w w' := by
  obtain ⟨ha0, ha1⟩ := ha
  obtain ⟨hb0, hb1⟩ := hb
  go_enter Try.func51, Try.ntmps51
  go_wp2_with fail
  go_loopw [7, 9, 10, 11, 14] (fun v s9 s10 s11 i wr => ∃ j : Nat, j ≤ l.length ∧ i = .int .i64 (j : Int) ∧ OwnEn wr w.heap.size v (endsP (l.take j) a b) ∧ Below w.heap.size w wr) (fun _ _ _ _ i _ => l.length - (intOf i).toNat)
  case atStart => exact ⟨0, Nat.zero_le _, rfl, OwnC.nil, Below.refl _ _⟩
  case round =>
    obtain ⟨j, hj, rfl, hO, bb⟩ := hrel
    by_cases hlt : j < l.length
    · obtain ⟨ad, rfl, d0, d1⟩ := (h.below bb).at_ hlt
      have HY := Lib.hid (ends_yes l a b _ _ j hlt rfl rfl)
      have HN := Lib.hid (ends_no l a b _ _ j hlt rfl rfl)
      have HL : Hid ((endsP (l.take j) a b).length ≤ 2000) := by
        have := ends_len a b (l.take j)
        rw [List.length_take] at this
        unfold Hid; omega
      generalize endsP (l.take j) a b = E at *
      generalize l[j].1 = x at *
      generalize l[j].2 = y at *
      go_wp2_with fail
      go_quiet (fail)
      have bd : Below wr.heap.size wr ((wr.alloc (.cells #[.int .i64 x, .int .i64 y] 53)).drewN nq) := below_drewN ((Below.refl _ _).alloc (Nat.le_refl _) _) _
      have hO := OwnC.below hO bd
      have bb := bb.thenB' bd
      generalize hX : max x 0 = X at *
      generalize hY : min y 1099511627776 = Y at *
      clear hX hY
      by_cases hXY : X < Y
      · have HE := Lib.hid (HY.out (by omega))
        clear HY HN d0 d1
        have n1 := rd_newEn2 ((wr.alloc (.cells #[.int .i64 x, .int .i64 y] 53)).drewN nq) (X, a, b) (Y, -a, -b)
        generalize (wr.alloc (.cells #[.int .i64 x, .int .i64 y] 53)).drewN nq = wd at *
        have bn := below_new wd (.cells #[.int .i64 X, .int .i64 a, .int .i64 b, .int .i64 Y, .int .i64 (-a), .int .i64 (-b)] 83)
        have hO1 := OwnC.below hO bn
        have bb1 := bb.thenB' bn
        clear bn
        go_wp2_with first
          | (at_builtin
             go_loud (refine wpList_appEn rfl (.tmp 27) (.tmp 38) rfl w.heap.size u7 E [(X, a, b), (Y, -a, -b)] rfl hO1 _ (some ⟨wd.heap.size, 0, none⟩) 2 2 rfl rfl n1 (by have := HL.out; simp only [List.length_cons, List.length_nil]; omega) bb1.size ?_; intro v4 w4 o4 x4; have b4 := bb1.trans (x4.below hO1 (Nat.le_refl _) bb1.size)))
        go_roundw
        case rel => exact ⟨j + 1, by omega, by go_num, by rw [HE.out]; exact o4, b4⟩
        case measure => simp [intOf] <;> omega
      · have HE := Lib.hid (HN.out (by omega))
        clear HY HN d0 d1
        generalize (wr.alloc (.cells #[.int .i64 x, .int .i64 y] 53)).drewN nq = wd at *
        go_wp2_with fail
        go_roundw
        case rel => exact ⟨j + 1, by omega, by go_num, by rw [HE.out]; exact hO, bb⟩
        case measure => simp [intOf] <;> omega
    · obtain rfl : j = l.length := by omega
      have HT : Hid (endsP (l.take l.length) a b = endsP l a b) := by unfold Hid; rw [List.take_of_length_le (Nat.le_refl _)]
      go_wp2_with fail
      go_ret
      exact ⟨_, rfl, by rw [← HT.out]; exact hO, bb⟩
end Go.Proofs.Ytcdodchjgadcoaa
