/- Whether an image may be: the document's May, the code's Check. -/
import Derived.Test.YtcdodchjgadcoaaAb1
namespace Go.Proofs.Ytcdodchjgadcoaa
open Go.RowKit
set_option linter.unusedVariables false

def copiesO (last : Int) : Int → List (Int × List UInt8) → Bool
  | _, [] => true
  | a, s :: r => decide (a < s.1) && (decide (s.1 ≤ last) && (decide (s.2.length ≤ 512) && copiesO last s.1 r))
def mayI (p : PI) : Bool := decide (p.d.length ≤ 512) && (decide (p.S.length ≤ 4) && (decide (0 ≤ p.last) && (decide (p.last ≤ 100) && copiesO p.last 0 p.S)))
def eno (b : Bool) (c : Int) : Int := if b then 0 else c
theorem pureC_drop (S : List CpV) (k : Nat) (h : k < S.length) : (pureC S).drop k = (S[k].id, S[k].m) :: (pureC S).drop (k + 1) := by
  rw [List.drop_eq_getElem_cons (by rw [pureC_len]; exact h)]
  unfold pureC
  simp
theorem pureC_end (S : List CpV) (k : Nat) (h : S.length ≤ k) : (pureC S).drop k = [] := List.drop_eq_nil_of_le (by rw [pureC_len]; exact h)

set_option maxHeartbeats 8000000 in
set_option maxRecDepth 100000 in
theorem rMay18_any (D : Nat → Prop) (i : ImV) (w : World) (hr : ImR w D i) :
    Calls Try.prog 21 #[.agg (imA i)] w fun e w' => e = .returned (.bool (mayI i.p)) ∧ Below w.heap.size w w' := by
  obtain ⟨rm, lm, mm, hS, hl, hm, hrs⟩ := hr
  have bb := below_new w (.cells (imA i) 25)
  have hB := Blk.new w 25 (imA i)
  have hS := hS.below bb
  obtain ⟨DA, d, dc, A, L, cc, la⟩ := i
  unfold mayI ImV.p
  unfold imA at *
  dsimp only at *
  rw [pureC_len]
  generalize hM : (decide (d.length ≤ 512) && (decide (L.length ≤ 4) && (decide (0 ≤ la) && (decide (la ≤ 100) && copiesO la 0 (pureC L))))) = M
  have HM := Lib.hid hM
  clear hM
  have hLb : L.length ≤ 9223372036854775807 := by omega
  by_cases t0 : 512 < d.length
  focus
    have gg0 := (decide_eq_true (by omega) : decide (512 < (d.length : Int)) = true)
    have E : Hid (M = false) := by unfold Hid; rw [← HM.out, decide_eq_false (show ¬ d.length ≤ 512 by omega)]; simp
    clear HM
    go_enter Try.func21, Try.ntmps21
    go_wp2_with fail
    go_ret
    exact ⟨by rw [E.out]; rfl, bb⟩
  have gg1 := (decide_eq_false (by omega) : decide (512 < (d.length : Int)) = false)
  by_cases t1 : 4 < L.length
  focus
    have gg2 := (decide_eq_true (by omega) : decide (4 < (L.length : Int)) = true)
    have E : Hid (M = false) := by unfold Hid; rw [← HM.out, decide_eq_false (show ¬ L.length ≤ 4 by omega)]; simp
    clear HM
    go_enter Try.func21, Try.ntmps21
    go_wp2_with fail
    go_ret
    exact ⟨by rw [E.out]; rfl, bb⟩
  have gg3 := (decide_eq_false (by omega) : decide (4 < (L.length : Int)) = false)
  by_cases t2 : la < 0
  focus
    have gg4 := (decide_eq_true (by omega) : decide (la < 0) = true)
    have E : Hid (M = false) := by unfold Hid; rw [← HM.out, decide_eq_false (show ¬ 0 ≤ la by omega)]; simp
    clear HM
    go_enter Try.func21, Try.ntmps21
    go_wp2_with fail
    go_ret
    exact ⟨by rw [E.out]; rfl, bb⟩
  have gg5 := (decide_eq_false (by omega) : decide (la < 0) = false)
  by_cases t3 : 100 < la
  focus
    have gg6 := (decide_eq_true (by omega) : decide (100 < la) = true)
    have E : Hid (M = false) := by unfold Hid; rw [← HM.out, decide_eq_false (show ¬ la ≤ 100 by omega)]; simp
    clear HM
    go_enter Try.func21, Try.ntmps21
    go_wp2_with fail
    go_ret
    exact ⟨by rw [E.out]; rfl, bb⟩
  have gg7 := (decide_eq_false (by omega) : decide (100 < la) = false)
  have HS : Hid (copiesO la 0 (pureC L) = M) := by
    unfold Hid
    rw [← HM.out, decide_eq_true (show d.length ≤ 512 by omega), decide_eq_true (show L.length ≤ 4 by omega), decide_eq_true (show 0 ≤ la by omega), decide_eq_true (show la ≤ 100 by omega)]
    simp
  clear HM
  go_enter Try.func21, Try.ntmps21
  go_wp2_with fail
  generalize w.alloc (.cells #[.slice DA d.length dc, .slice A L.length cc, .int .i64 la] 25) = w1 at *

  go_loopw [3, 4, 5] (fun a i s5 wr => ∃ (k : Nat) (z : Int), k ≤ L.length ∧ i = .int .i64 (k : Int) ∧ a = .int .i64 z ∧ Hid (copiesO la z ((pureC L).drop k) = M) ∧ Below w1.heap.size w1 wr) (fun _ i _ _ => L.length - (intOf i).toNat)
  case atStart => exact ⟨0, 0, Nat.zero_le _, rfl, rfl, HS, Below.refl _ _⟩
  case round =>
    clear HS
    obtain ⟨k, z, hk, rfl, rfl, HS, bw⟩ := hrel
    have hB := hB.below bw
    have hS := hS.below bw
    have bb := bb.thenB' bw
    have c0 := hB.cell 0
    have c1 := hB.cell 1
    have c2 := hB.cell 2
    simp at c0 c1 c2
    by_cases hlt : k < L.length
    · obtain ⟨ad, rfl, d0, d1⟩ := hS.cp hlt
      have HS2 : Hid ((decide (z < L[k].id) && (decide (L[k].id ≤ la) && (decide (L[k].m.length ≤ 512) && copiesO la L[k].id ((pureC L).drop (k + 1))))) = M) := by
        unfold Hid; rw [← HS.out, pureC_drop L k hlt]; rfl
      clear HS
      generalize L[k].id = id at *
      generalize L[k].A = Ax at *
      generalize L[k].m = x at *
      generalize L[k].c = cx at *
      have bn := below_new wr (.cells #[.int .i64 id, .slice Ax x.length cx] 47)
      have hB2 := hB.below bn
      have hgl := hB.lt
      have hgn : ¬ w.heap.size = wr.heap.size := by omega
      have f1 : (wr.alloc (.cells #[.int .i64 id, .slice Ax x.length cx] 47)).cell? ⟨w.heap.size, 1, none⟩ = some (.slice (some ad) L.length cc) := hB2.cell 1
      have f2 : (wr.alloc (.cells #[.int .i64 id, .slice Ax x.length cx] 47)).cell? ⟨w.heap.size, 2, none⟩ = some (.int .i64 la) := hB2.cell 2
      by_cases t9 : id ≤ z
      focus
        have gg8 := (decide_eq_true (by omega) : decide (id ≤ z) = true)
        have E : Hid (M = false) := by unfold Hid; rw [← HS2.out, decide_eq_false (show ¬ z < id by omega)]; simp
        clear HS2
        go_wp2_with fail
        go_ret
        exact ⟨by rw [E.out]; rfl, bb.thenB' bn⟩
      have gg9 := (decide_eq_false (by omega) : decide (id ≤ z) = false)
      by_cases t9 : la < id
      focus
        have gg10 := (decide_eq_true (by omega) : decide (la < id) = true)
        have E : Hid (M = false) := by unfold Hid; rw [← HS2.out, decide_eq_false (show ¬ id ≤ la by omega)]; simp
        clear HS2
        go_wp2_with fail
        go_ret
        exact ⟨by rw [E.out]; rfl, bb.thenB' bn⟩
      have gg11 := (decide_eq_false (by omega) : decide (la < id) = false)
      by_cases t9 : 512 < x.length
      focus
        have gg12 := (decide_eq_true (by omega) : decide (512 < (x.length : Int)) = true)
        have E : Hid (M = false) := by unfold Hid; rw [← HS2.out, decide_eq_false (show ¬ x.length ≤ 512 by omega)]; simp
        clear HS2
        go_wp2_with fail
        go_ret
        exact ⟨by rw [E.out]; rfl, bb.thenB' bn⟩
      have gg13 := (decide_eq_false (by omega) : decide (512 < (x.length : Int)) = false)
      have E : Hid (copiesO la id ((pureC L).drop (k + 1)) = M) := by
        unfold Hid; rw [← HS2.out, decide_eq_true (show z < id by omega), decide_eq_true (show id ≤ la by omega), decide_eq_true (show x.length ≤ 512 by omega)]; simp
      clear HS2
      go_wp2_with fail
      go_roundw
      case rel => exact ⟨k + 1, id, by omega, by go_num, rfl, E, bw.thenB' bn⟩
      case measure => simp [intOf] <;> omega
    · have E : Hid (M = true) := by unfold Hid; rw [← HS.out, pureC_end L k (by omega)]; rfl
      go_wp2_with fail
      go_ret
      exact ⟨by rw [E.out]; rfl, bb⟩

set_option maxHeartbeats 8000000 in
set_option maxRecDepth 100000 in
theorem Check18_any (D : Nat → Prop) (i : ImV) (w : World) (hr : ImR w D i) :
    Calls Try.prog 19 #[.agg (imA i)] w fun e w' => e = .returned (.int .i64 (eno (mayI i.p) 1)) ∧ Below w.heap.size w w' := by
  obtain ⟨rm, lm, mm, hS, hl, hm, hrs⟩ := hr
  have bb := below_new w (.cells (imA i) 25)
  have hB := Blk.new w 25 (imA i)
  have hS := hS.below bb
  obtain ⟨DA, d, dc, A, L, cc, la⟩ := i
  unfold mayI ImV.p
  unfold imA at *
  dsimp only at *
  rw [pureC_len]
  generalize hM : (decide (d.length ≤ 512) && (decide (L.length ≤ 4) && (decide (0 ≤ la) && (decide (la ≤ 100) && copiesO la 0 (pureC L))))) = M
  have HM := Lib.hid hM
  clear hM
  have hLb : L.length ≤ 9223372036854775807 := by omega
  by_cases t0 : 512 < d.length
  focus
    have gg14 := (decide_eq_false (by omega) : decide ((d.length : Int) ≤ 512) = false)
    have HS : Hid ((false && copiesO la 0 ((pureC L).drop 0)) = M) := by unfold Hid; rw [← HM.out, decide_eq_false (show ¬ d.length ≤ 512 by omega)]; simp
    clear HM
    go_enter Try.func19, Try.ntmps19
    go_wp2_with fail
    generalize w.alloc (.cells #[.slice DA d.length dc, .slice A L.length cc, .int .i64 la] 25) = w1 at *

    go_loopw [3, 4, 6, 30] (fun ok a s6 i wr => ∃ (b : Bool) (k : Nat) (z : Int), k ≤ L.length ∧ ok = .bool b ∧ i = .int .i64 (k : Int) ∧ a = .int .i64 z ∧ Hid ((b && copiesO la z ((pureC L).drop k)) = M) ∧ Below w1.heap.size w1 wr) (fun _ _ _ i _ => L.length - (intOf i).toNat)
    case atStart => exact ⟨false, 0, 0, Nat.zero_le _, rfl, rfl, rfl, HS, Below.refl _ _⟩
    case round =>
      clear HS
      obtain ⟨b, k, z, hk, rfl, rfl, rfl, HS, bw⟩ := hrel
      have hB := hB.below bw
      have hS := hS.below bw
      have bb := bb.thenB' bw
      have c0 := hB.cell 0
      have c1 := hB.cell 1
      have c2 := hB.cell 2
      simp at c0 c1 c2
      by_cases hlt : k < L.length
      · obtain ⟨ad, rfl, d0, d1⟩ := hS.cp hlt
        have HS2 : Hid ((b && (decide (z < L[k].id) && (decide (L[k].id ≤ la) && (decide (L[k].m.length ≤ 512) && copiesO la L[k].id ((pureC L).drop (k + 1)))))) = M) := by
          unfold Hid; rw [← HS.out, pureC_drop L k hlt]; rfl
        clear HS
        generalize L[k].id = id at *
        generalize L[k].A = Ax at *
        generalize L[k].m = x at *
        generalize L[k].c = cx at *
        have bn := below_new wr (.cells #[.int .i64 id, .slice Ax x.length cx] 47)
        have hB2 := hB.below bn
        have hgl := hB.lt
        have hgn : ¬ w.heap.size = wr.heap.size := by omega
        have f1 : (wr.alloc (.cells #[.int .i64 id, .slice Ax x.length cx] 47)).cell? ⟨w.heap.size, 1, none⟩ = some (.slice (some ad) L.length cc) := hB2.cell 1
        have f2 : (wr.alloc (.cells #[.int .i64 id, .slice Ax x.length cx] 47)).cell? ⟨w.heap.size, 2, none⟩ = some (.int .i64 la) := hB2.cell 2
        cases b
        focus
          have E : Hid ((false && copiesO la id ((pureC L).drop (k + 1))) = M) := by unfold Hid; rw [← HS2.out]; rfl
          clear HS2
          go_wp2_with fail
          go_roundw
          case rel => exact ⟨false, k + 1, id, by omega, rfl, by go_num, rfl, E, bw.thenB' bn⟩
          case measure => simp [intOf] <;> omega
        by_cases t9 : id ≤ z
        focus
          have gg15 := (decide_eq_false (by omega) : decide (z < id) = false)
          have E : Hid ((false && copiesO la id ((pureC L).drop (k + 1))) = M) := by unfold Hid; rw [← HS2.out, decide_eq_false (show ¬ z < id by omega)]; simp
          clear HS2
          go_wp2_with fail
          go_roundw
          case rel => exact ⟨false, k + 1, id, by omega, rfl, by go_num, rfl, E, bw.thenB' bn⟩
          case measure => simp [intOf] <;> omega
        have gg16 := (decide_eq_true (by omega) : decide (z < id) = true)
        by_cases t9 : la < id
        focus
          have gg17 := (decide_eq_false (by omega) : decide (id ≤ la) = false)
          have E : Hid ((false && copiesO la id ((pureC L).drop (k + 1))) = M) := by unfold Hid; rw [← HS2.out, decide_eq_false (show ¬ id ≤ la by omega)]; simp
          clear HS2
          go_wp2_with fail
          go_roundw
          case rel => exact ⟨false, k + 1, id, by omega, rfl, by go_num, rfl, E, bw.thenB' bn⟩
          case measure => simp [intOf] <;> omega
        have gg18 := (decide_eq_true (by omega) : decide (id ≤ la) = true)
        by_cases t9 : 512 < x.length
        focus
          have gg19 := (decide_eq_false (by omega) : decide ((x.length : Int) ≤ 512) = false)
          have E : Hid ((false && copiesO la id ((pureC L).drop (k + 1))) = M) := by unfold Hid; rw [← HS2.out, decide_eq_false (show ¬ x.length ≤ 512 by omega)]; simp
          clear HS2
          go_wp2_with fail
          go_roundw
          case rel => exact ⟨false, k + 1, id, by omega, rfl, by go_num, rfl, E, bw.thenB' bn⟩
          case measure => simp [intOf] <;> omega
        have gg20 := (decide_eq_true (by omega) : decide ((x.length : Int) ≤ 512) = true)
        have E : Hid ((true && copiesO la id ((pureC L).drop (k + 1))) = M) := by
          unfold Hid; rw [← HS2.out, decide_eq_true (show z < id by omega), decide_eq_true (show id ≤ la by omega), decide_eq_true (show x.length ≤ 512 by omega)]; simp
        clear HS2
        go_wp2_with fail
        go_roundw
        case rel => exact ⟨true, k + 1, id, by omega, rfl, by go_num, rfl, E, bw.thenB' bn⟩
        case measure => simp [intOf] <;> omega
      · have E : Hid (b = M) := by unfold Hid; rw [← HS.out, pureC_end L k (by omega)]; unfold copiesO; simp
        clear HS
        cases b
        all_goals
          go_wp2_with fail
          go_ret
          exact ⟨by rw [← E.out]; rfl, bb⟩
  have gg21 := (decide_eq_true (by omega) : decide ((d.length : Int) ≤ 512) = true)
  by_cases t1 : 4 < L.length
  focus
    have gg22 := (decide_eq_false (by omega) : decide ((L.length : Int) ≤ 4) = false)
    have HS : Hid ((false && copiesO la 0 ((pureC L).drop 0)) = M) := by unfold Hid; rw [← HM.out, decide_eq_false (show ¬ L.length ≤ 4 by omega)]; simp
    clear HM
    go_enter Try.func19, Try.ntmps19
    go_wp2_with fail
    generalize w.alloc (.cells #[.slice DA d.length dc, .slice A L.length cc, .int .i64 la] 25) = w1 at *

    go_loopw [3, 4, 6, 30] (fun ok a s6 i wr => ∃ (b : Bool) (k : Nat) (z : Int), k ≤ L.length ∧ ok = .bool b ∧ i = .int .i64 (k : Int) ∧ a = .int .i64 z ∧ Hid ((b && copiesO la z ((pureC L).drop k)) = M) ∧ Below w1.heap.size w1 wr) (fun _ _ _ i _ => L.length - (intOf i).toNat)
    case atStart => exact ⟨false, 0, 0, Nat.zero_le _, rfl, rfl, rfl, HS, Below.refl _ _⟩
    case round =>
      clear HS
      obtain ⟨b, k, z, hk, rfl, rfl, rfl, HS, bw⟩ := hrel
      have hB := hB.below bw
      have hS := hS.below bw
      have bb := bb.thenB' bw
      have c0 := hB.cell 0
      have c1 := hB.cell 1
      have c2 := hB.cell 2
      simp at c0 c1 c2
      by_cases hlt : k < L.length
      · obtain ⟨ad, rfl, d0, d1⟩ := hS.cp hlt
        have HS2 : Hid ((b && (decide (z < L[k].id) && (decide (L[k].id ≤ la) && (decide (L[k].m.length ≤ 512) && copiesO la L[k].id ((pureC L).drop (k + 1)))))) = M) := by
          unfold Hid; rw [← HS.out, pureC_drop L k hlt]; rfl
        clear HS
        generalize L[k].id = id at *
        generalize L[k].A = Ax at *
        generalize L[k].m = x at *
        generalize L[k].c = cx at *
        have bn := below_new wr (.cells #[.int .i64 id, .slice Ax x.length cx] 47)
        have hB2 := hB.below bn
        have hgl := hB.lt
        have hgn : ¬ w.heap.size = wr.heap.size := by omega
        have f1 : (wr.alloc (.cells #[.int .i64 id, .slice Ax x.length cx] 47)).cell? ⟨w.heap.size, 1, none⟩ = some (.slice (some ad) L.length cc) := hB2.cell 1
        have f2 : (wr.alloc (.cells #[.int .i64 id, .slice Ax x.length cx] 47)).cell? ⟨w.heap.size, 2, none⟩ = some (.int .i64 la) := hB2.cell 2
        cases b
        focus
          have E : Hid ((false && copiesO la id ((pureC L).drop (k + 1))) = M) := by unfold Hid; rw [← HS2.out]; rfl
          clear HS2
          go_wp2_with fail
          go_roundw
          case rel => exact ⟨false, k + 1, id, by omega, rfl, by go_num, rfl, E, bw.thenB' bn⟩
          case measure => simp [intOf] <;> omega
        by_cases t9 : id ≤ z
        focus
          have gg23 := (decide_eq_false (by omega) : decide (z < id) = false)
          have E : Hid ((false && copiesO la id ((pureC L).drop (k + 1))) = M) := by unfold Hid; rw [← HS2.out, decide_eq_false (show ¬ z < id by omega)]; simp
          clear HS2
          go_wp2_with fail
          go_roundw
          case rel => exact ⟨false, k + 1, id, by omega, rfl, by go_num, rfl, E, bw.thenB' bn⟩
          case measure => simp [intOf] <;> omega
        have gg24 := (decide_eq_true (by omega) : decide (z < id) = true)
        by_cases t9 : la < id
        focus
          have gg25 := (decide_eq_false (by omega) : decide (id ≤ la) = false)
          have E : Hid ((false && copiesO la id ((pureC L).drop (k + 1))) = M) := by unfold Hid; rw [← HS2.out, decide_eq_false (show ¬ id ≤ la by omega)]; simp
          clear HS2
          go_wp2_with fail
          go_roundw
          case rel => exact ⟨false, k + 1, id, by omega, rfl, by go_num, rfl, E, bw.thenB' bn⟩
          case measure => simp [intOf] <;> omega
        have gg26 := (decide_eq_true (by omega) : decide (id ≤ la) = true)
        by_cases t9 : 512 < x.length
        focus
          have gg27 := (decide_eq_false (by omega) : decide ((x.length : Int) ≤ 512) = false)
          have E : Hid ((false && copiesO la id ((pureC L).drop (k + 1))) = M) := by unfold Hid; rw [← HS2.out, decide_eq_false (show ¬ x.length ≤ 512 by omega)]; simp
          clear HS2
          go_wp2_with fail
          go_roundw
          case rel => exact ⟨false, k + 1, id, by omega, rfl, by go_num, rfl, E, bw.thenB' bn⟩
          case measure => simp [intOf] <;> omega
        have gg28 := (decide_eq_true (by omega) : decide ((x.length : Int) ≤ 512) = true)
        have E : Hid ((true && copiesO la id ((pureC L).drop (k + 1))) = M) := by
          unfold Hid; rw [← HS2.out, decide_eq_true (show z < id by omega), decide_eq_true (show id ≤ la by omega), decide_eq_true (show x.length ≤ 512 by omega)]; simp
        clear HS2
        go_wp2_with fail
        go_roundw
        case rel => exact ⟨true, k + 1, id, by omega, rfl, by go_num, rfl, E, bw.thenB' bn⟩
        case measure => simp [intOf] <;> omega
      · have E : Hid (b = M) := by unfold Hid; rw [← HS.out, pureC_end L k (by omega)]; unfold copiesO; simp
        clear HS
        cases b
        all_goals
          go_wp2_with fail
          go_ret
          exact ⟨by rw [← E.out]; rfl, bb⟩
  have gg29 := (decide_eq_true (by omega) : decide ((L.length : Int) ≤ 4) = true)
  by_cases t2 : la < 0
  focus
    have gg30 := (decide_eq_false (by omega) : decide (0 ≤ la) = false)
    have HS : Hid ((false && copiesO la 0 ((pureC L).drop 0)) = M) := by unfold Hid; rw [← HM.out, decide_eq_false (show ¬ 0 ≤ la by omega)]; simp
    clear HM
    go_enter Try.func19, Try.ntmps19
    go_wp2_with fail
    generalize w.alloc (.cells #[.slice DA d.length dc, .slice A L.length cc, .int .i64 la] 25) = w1 at *

    go_loopw [3, 4, 6, 30] (fun ok a s6 i wr => ∃ (b : Bool) (k : Nat) (z : Int), k ≤ L.length ∧ ok = .bool b ∧ i = .int .i64 (k : Int) ∧ a = .int .i64 z ∧ Hid ((b && copiesO la z ((pureC L).drop k)) = M) ∧ Below w1.heap.size w1 wr) (fun _ _ _ i _ => L.length - (intOf i).toNat)
    case atStart => exact ⟨false, 0, 0, Nat.zero_le _, rfl, rfl, rfl, HS, Below.refl _ _⟩
    case round =>
      clear HS
      obtain ⟨b, k, z, hk, rfl, rfl, rfl, HS, bw⟩ := hrel
      have hB := hB.below bw
      have hS := hS.below bw
      have bb := bb.thenB' bw
      have c0 := hB.cell 0
      have c1 := hB.cell 1
      have c2 := hB.cell 2
      simp at c0 c1 c2
      by_cases hlt : k < L.length
      · obtain ⟨ad, rfl, d0, d1⟩ := hS.cp hlt
        have HS2 : Hid ((b && (decide (z < L[k].id) && (decide (L[k].id ≤ la) && (decide (L[k].m.length ≤ 512) && copiesO la L[k].id ((pureC L).drop (k + 1)))))) = M) := by
          unfold Hid; rw [← HS.out, pureC_drop L k hlt]; rfl
        clear HS
        generalize L[k].id = id at *
        generalize L[k].A = Ax at *
        generalize L[k].m = x at *
        generalize L[k].c = cx at *
        have bn := below_new wr (.cells #[.int .i64 id, .slice Ax x.length cx] 47)
        have hB2 := hB.below bn
        have hgl := hB.lt
        have hgn : ¬ w.heap.size = wr.heap.size := by omega
        have f1 : (wr.alloc (.cells #[.int .i64 id, .slice Ax x.length cx] 47)).cell? ⟨w.heap.size, 1, none⟩ = some (.slice (some ad) L.length cc) := hB2.cell 1
        have f2 : (wr.alloc (.cells #[.int .i64 id, .slice Ax x.length cx] 47)).cell? ⟨w.heap.size, 2, none⟩ = some (.int .i64 la) := hB2.cell 2
        cases b
        focus
          have E : Hid ((false && copiesO la id ((pureC L).drop (k + 1))) = M) := by unfold Hid; rw [← HS2.out]; rfl
          clear HS2
          go_wp2_with fail
          go_roundw
          case rel => exact ⟨false, k + 1, id, by omega, rfl, by go_num, rfl, E, bw.thenB' bn⟩
          case measure => simp [intOf] <;> omega
        by_cases t9 : id ≤ z
        focus
          have gg31 := (decide_eq_false (by omega) : decide (z < id) = false)
          have E : Hid ((false && copiesO la id ((pureC L).drop (k + 1))) = M) := by unfold Hid; rw [← HS2.out, decide_eq_false (show ¬ z < id by omega)]; simp
          clear HS2
          go_wp2_with fail
          go_roundw
          case rel => exact ⟨false, k + 1, id, by omega, rfl, by go_num, rfl, E, bw.thenB' bn⟩
          case measure => simp [intOf] <;> omega
        have gg32 := (decide_eq_true (by omega) : decide (z < id) = true)
        by_cases t9 : la < id
        focus
          have gg33 := (decide_eq_false (by omega) : decide (id ≤ la) = false)
          have E : Hid ((false && copiesO la id ((pureC L).drop (k + 1))) = M) := by unfold Hid; rw [← HS2.out, decide_eq_false (show ¬ id ≤ la by omega)]; simp
          clear HS2
          go_wp2_with fail
          go_roundw
          case rel => exact ⟨false, k + 1, id, by omega, rfl, by go_num, rfl, E, bw.thenB' bn⟩
          case measure => simp [intOf] <;> omega
        have gg34 := (decide_eq_true (by omega) : decide (id ≤ la) = true)
        by_cases t9 : 512 < x.length
        focus
          have gg35 := (decide_eq_false (by omega) : decide ((x.length : Int) ≤ 512) = false)
          have E : Hid ((false && copiesO la id ((pureC L).drop (k + 1))) = M) := by unfold Hid; rw [← HS2.out, decide_eq_false (show ¬ x.length ≤ 512 by omega)]; simp
          clear HS2
          go_wp2_with fail
          go_roundw
          case rel => exact ⟨false, k + 1, id, by omega, rfl, by go_num, rfl, E, bw.thenB' bn⟩
          case measure => simp [intOf] <;> omega
        have gg36 := (decide_eq_true (by omega) : decide ((x.length : Int) ≤ 512) = true)
        have E : Hid ((true && copiesO la id ((pureC L).drop (k + 1))) = M) := by
          unfold Hid; rw [← HS2.out, decide_eq_true (show z < id by omega), decide_eq_true (show id ≤ la by omega), decide_eq_true (show x.length ≤ 512 by omega)]; simp
        clear HS2
        go_wp2_with fail
        go_roundw
        case rel => exact ⟨true, k + 1, id, by omega, rfl, by go_num, rfl, E, bw.thenB' bn⟩
        case measure => simp [intOf] <;> omega
      · have E : Hid (b = M) := by unfold Hid; rw [← HS.out, pureC_end L k (by omega)]; unfold copiesO; simp
        clear HS
        cases b
        all_goals
          go_wp2_with fail
          go_ret
          exact ⟨by rw [← E.out]; rfl, bb⟩
  have gg37 := (decide_eq_true (by omega) : decide (0 ≤ la) = true)
  by_cases t3 : 100 < la
  focus
    have gg38 := (decide_eq_false (by omega) : decide (la ≤ 100) = false)
    have HS : Hid ((false && copiesO la 0 ((pureC L).drop 0)) = M) := by unfold Hid; rw [← HM.out, decide_eq_false (show ¬ la ≤ 100 by omega)]; simp
    clear HM
    go_enter Try.func19, Try.ntmps19
    go_wp2_with fail
    generalize w.alloc (.cells #[.slice DA d.length dc, .slice A L.length cc, .int .i64 la] 25) = w1 at *

    go_loopw [3, 4, 6, 30] (fun ok a s6 i wr => ∃ (b : Bool) (k : Nat) (z : Int), k ≤ L.length ∧ ok = .bool b ∧ i = .int .i64 (k : Int) ∧ a = .int .i64 z ∧ Hid ((b && copiesO la z ((pureC L).drop k)) = M) ∧ Below w1.heap.size w1 wr) (fun _ _ _ i _ => L.length - (intOf i).toNat)
    case atStart => exact ⟨false, 0, 0, Nat.zero_le _, rfl, rfl, rfl, HS, Below.refl _ _⟩
    case round =>
      clear HS
      obtain ⟨b, k, z, hk, rfl, rfl, rfl, HS, bw⟩ := hrel
      have hB := hB.below bw
      have hS := hS.below bw
      have bb := bb.thenB' bw
      have c0 := hB.cell 0
      have c1 := hB.cell 1
      have c2 := hB.cell 2
      simp at c0 c1 c2
      by_cases hlt : k < L.length
      · obtain ⟨ad, rfl, d0, d1⟩ := hS.cp hlt
        have HS2 : Hid ((b && (decide (z < L[k].id) && (decide (L[k].id ≤ la) && (decide (L[k].m.length ≤ 512) && copiesO la L[k].id ((pureC L).drop (k + 1)))))) = M) := by
          unfold Hid; rw [← HS.out, pureC_drop L k hlt]; rfl
        clear HS
        generalize L[k].id = id at *
        generalize L[k].A = Ax at *
        generalize L[k].m = x at *
        generalize L[k].c = cx at *
        have bn := below_new wr (.cells #[.int .i64 id, .slice Ax x.length cx] 47)
        have hB2 := hB.below bn
        have hgl := hB.lt
        have hgn : ¬ w.heap.size = wr.heap.size := by omega
        have f1 : (wr.alloc (.cells #[.int .i64 id, .slice Ax x.length cx] 47)).cell? ⟨w.heap.size, 1, none⟩ = some (.slice (some ad) L.length cc) := hB2.cell 1
        have f2 : (wr.alloc (.cells #[.int .i64 id, .slice Ax x.length cx] 47)).cell? ⟨w.heap.size, 2, none⟩ = some (.int .i64 la) := hB2.cell 2
        cases b
        focus
          have E : Hid ((false && copiesO la id ((pureC L).drop (k + 1))) = M) := by unfold Hid; rw [← HS2.out]; rfl
          clear HS2
          go_wp2_with fail
          go_roundw
          case rel => exact ⟨false, k + 1, id, by omega, rfl, by go_num, rfl, E, bw.thenB' bn⟩
          case measure => simp [intOf] <;> omega
        by_cases t9 : id ≤ z
        focus
          have gg39 := (decide_eq_false (by omega) : decide (z < id) = false)
          have E : Hid ((false && copiesO la id ((pureC L).drop (k + 1))) = M) := by unfold Hid; rw [← HS2.out, decide_eq_false (show ¬ z < id by omega)]; simp
          clear HS2
          go_wp2_with fail
          go_roundw
          case rel => exact ⟨false, k + 1, id, by omega, rfl, by go_num, rfl, E, bw.thenB' bn⟩
          case measure => simp [intOf] <;> omega
        have gg40 := (decide_eq_true (by omega) : decide (z < id) = true)
        by_cases t9 : la < id
        focus
          have gg41 := (decide_eq_false (by omega) : decide (id ≤ la) = false)
          have E : Hid ((false && copiesO la id ((pureC L).drop (k + 1))) = M) := by unfold Hid; rw [← HS2.out, decide_eq_false (show ¬ id ≤ la by omega)]; simp
          clear HS2
          go_wp2_with fail
          go_roundw
          case rel => exact ⟨false, k + 1, id, by omega, rfl, by go_num, rfl, E, bw.thenB' bn⟩
          case measure => simp [intOf] <;> omega
        have gg42 := (decide_eq_true (by omega) : decide (id ≤ la) = true)
        by_cases t9 : 512 < x.length
        focus
          have gg43 := (decide_eq_false (by omega) : decide ((x.length : Int) ≤ 512) = false)
          have E : Hid ((false && copiesO la id ((pureC L).drop (k + 1))) = M) := by unfold Hid; rw [← HS2.out, decide_eq_false (show ¬ x.length ≤ 512 by omega)]; simp
          clear HS2
          go_wp2_with fail
          go_roundw
          case rel => exact ⟨false, k + 1, id, by omega, rfl, by go_num, rfl, E, bw.thenB' bn⟩
          case measure => simp [intOf] <;> omega
        have gg44 := (decide_eq_true (by omega) : decide ((x.length : Int) ≤ 512) = true)
        have E : Hid ((true && copiesO la id ((pureC L).drop (k + 1))) = M) := by
          unfold Hid; rw [← HS2.out, decide_eq_true (show z < id by omega), decide_eq_true (show id ≤ la by omega), decide_eq_true (show x.length ≤ 512 by omega)]; simp
        clear HS2
        go_wp2_with fail
        go_roundw
        case rel => exact ⟨true, k + 1, id, by omega, rfl, by go_num, rfl, E, bw.thenB' bn⟩
        case measure => simp [intOf] <;> omega
      · have E : Hid (b = M) := by unfold Hid; rw [← HS.out, pureC_end L k (by omega)]; unfold copiesO; simp
        clear HS
        cases b
        all_goals
          go_wp2_with fail
          go_ret
          exact ⟨by rw [← E.out]; rfl, bb⟩
  have gg45 := (decide_eq_true (by omega) : decide (la ≤ 100) = true)
  have HS : Hid (copiesO la 0 (pureC L) = M) := by
    unfold Hid
    rw [← HM.out, decide_eq_true (show d.length ≤ 512 by omega), decide_eq_true (show L.length ≤ 4 by omega), decide_eq_true (show 0 ≤ la by omega), decide_eq_true (show la ≤ 100 by omega)]
    simp
  clear HM
  go_enter Try.func19, Try.ntmps19
  go_wp2_with fail
  generalize w.alloc (.cells #[.slice DA d.length dc, .slice A L.length cc, .int .i64 la] 25) = w1 at *

  go_loopw [3, 4, 6, 30] (fun ok a s6 i wr => ∃ (b : Bool) (k : Nat) (z : Int), k ≤ L.length ∧ ok = .bool b ∧ i = .int .i64 (k : Int) ∧ a = .int .i64 z ∧ Hid ((b && copiesO la z ((pureC L).drop k)) = M) ∧ Below w1.heap.size w1 wr) (fun _ _ _ i _ => L.length - (intOf i).toNat)
  case atStart => exact ⟨true, 0, 0, Nat.zero_le _, rfl, rfl, rfl, HS, Below.refl _ _⟩
  case round =>
    clear HS
    obtain ⟨b, k, z, hk, rfl, rfl, rfl, HS, bw⟩ := hrel
    have hB := hB.below bw
    have hS := hS.below bw
    have bb := bb.thenB' bw
    have c0 := hB.cell 0
    have c1 := hB.cell 1
    have c2 := hB.cell 2
    simp at c0 c1 c2
    by_cases hlt : k < L.length
    · obtain ⟨ad, rfl, d0, d1⟩ := hS.cp hlt
      have HS2 : Hid ((b && (decide (z < L[k].id) && (decide (L[k].id ≤ la) && (decide (L[k].m.length ≤ 512) && copiesO la L[k].id ((pureC L).drop (k + 1)))))) = M) := by
        unfold Hid; rw [← HS.out, pureC_drop L k hlt]; rfl
      clear HS
      generalize L[k].id = id at *
      generalize L[k].A = Ax at *
      generalize L[k].m = x at *
      generalize L[k].c = cx at *
      have bn := below_new wr (.cells #[.int .i64 id, .slice Ax x.length cx] 47)
      have hB2 := hB.below bn
      have hgl := hB.lt
      have hgn : ¬ w.heap.size = wr.heap.size := by omega
      have f1 : (wr.alloc (.cells #[.int .i64 id, .slice Ax x.length cx] 47)).cell? ⟨w.heap.size, 1, none⟩ = some (.slice (some ad) L.length cc) := hB2.cell 1
      have f2 : (wr.alloc (.cells #[.int .i64 id, .slice Ax x.length cx] 47)).cell? ⟨w.heap.size, 2, none⟩ = some (.int .i64 la) := hB2.cell 2
      cases b
      focus
        have E : Hid ((false && copiesO la id ((pureC L).drop (k + 1))) = M) := by unfold Hid; rw [← HS2.out]; rfl
        clear HS2
        go_wp2_with fail
        go_roundw
        case rel => exact ⟨false, k + 1, id, by omega, rfl, by go_num, rfl, E, bw.thenB' bn⟩
        case measure => simp [intOf] <;> omega
      by_cases t9 : id ≤ z
      focus
        have gg46 := (decide_eq_false (by omega) : decide (z < id) = false)
        have E : Hid ((false && copiesO la id ((pureC L).drop (k + 1))) = M) := by unfold Hid; rw [← HS2.out, decide_eq_false (show ¬ z < id by omega)]; simp
        clear HS2
        go_wp2_with fail
        go_roundw
        case rel => exact ⟨false, k + 1, id, by omega, rfl, by go_num, rfl, E, bw.thenB' bn⟩
        case measure => simp [intOf] <;> omega
      have gg47 := (decide_eq_true (by omega) : decide (z < id) = true)
      by_cases t9 : la < id
      focus
        have gg48 := (decide_eq_false (by omega) : decide (id ≤ la) = false)
        have E : Hid ((false && copiesO la id ((pureC L).drop (k + 1))) = M) := by unfold Hid; rw [← HS2.out, decide_eq_false (show ¬ id ≤ la by omega)]; simp
        clear HS2
        go_wp2_with fail
        go_roundw
        case rel => exact ⟨false, k + 1, id, by omega, rfl, by go_num, rfl, E, bw.thenB' bn⟩
        case measure => simp [intOf] <;> omega
      have gg49 := (decide_eq_true (by omega) : decide (id ≤ la) = true)
      by_cases t9 : 512 < x.length
      focus
        have gg50 := (decide_eq_false (by omega) : decide ((x.length : Int) ≤ 512) = false)
        have E : Hid ((false && copiesO la id ((pureC L).drop (k + 1))) = M) := by unfold Hid; rw [← HS2.out, decide_eq_false (show ¬ x.length ≤ 512 by omega)]; simp
        clear HS2
        go_wp2_with fail
        go_roundw
        case rel => exact ⟨false, k + 1, id, by omega, rfl, by go_num, rfl, E, bw.thenB' bn⟩
        case measure => simp [intOf] <;> omega
      have gg51 := (decide_eq_true (by omega) : decide ((x.length : Int) ≤ 512) = true)
      have E : Hid ((true && copiesO la id ((pureC L).drop (k + 1))) = M) := by
        unfold Hid; rw [← HS2.out, decide_eq_true (show z < id by omega), decide_eq_true (show id ≤ la by omega), decide_eq_true (show x.length ≤ 512 by omega)]; simp
      clear HS2
      go_wp2_with fail
      go_roundw
      case rel => exact ⟨true, k + 1, id, by omega, rfl, by go_num, rfl, E, bw.thenB' bn⟩
      case measure => simp [intOf] <;> omega
    · have E : Hid (b = M) := by unfold Hid; rw [← HS.out, pureC_end L k (by omega)]; unfold copiesO; simp
      clear HS
      cases b
      all_goals
        go_wp2_with fail
        go_ret
        exact ⟨by rw [← E.out]; rfl, bb⟩
end Go.Proofs.Ytcdodchjgadcoaa
