import Derived.Test.YtjgafklomndhlaaLaw1
import Derived.Test.YtjgafklomndhlaaLex
namespace Go.Proofs.Ytjgafklomndhlaa
open Go.RowKit
set_option linter.unusedVariables false

theorem str_getElem (xs : List UInt8) (k : Nat) (h : k < (str xs).size) : (str xs)[k]'h = xs[k]'(by rwa [str_size] at h) := rfl
theorem all_take_succ (xs : List UInt8) (k : Nat) (h : k < xs.length) : (xs.take (k + 1)).all (· == 255) = ((xs.take k).all (· == 255) && ((((xs[k]).toNat : Nat) : Int) == 255)) := by
  rw [List.take_succ_eq_append_getElem h, List.all_append]
  congr 1
  simp only [List.all_cons, List.all_nil, Bool.and_true]
  rw [Bool.eq_iff_iff]
  simp only [beq_iff_eq]
  constructor
  · intro h; rw [h]; rfl
  · intro h
    apply UInt8.toNat_inj.1
    have : (xs[k]).toNat = 255 := by omega
    rw [this]; rfl
theorem wide_id {a : Int} (h1 : 1 ≤ a) (h2 : a ≤ 7) : ((wideI a).toNat : Int) = a := by unfold wideI; omega

set_option maxHeartbeats 1000000 in
theorem wireOrder_walk (a0 : Int) (i0 : I64 a0) (a1 : Int) (i1 : I64 a1) (a2 : Int) (i2 : I64 a2) (w : World) :
    Calls Try.prog 4 #[.int .i64 a0, .int .i64 a1, .int .i64 a2] w fun e w' => e = .returned (.bool true) ∧ Below w.heap.size w w' := by
  by_cases hc : a0 < 1 ∨ 7 < a0 ∨ a1 < 0 ∨ a2 ≤ a1
  · by_cases c0 : a0 < 1
    focus skip
    rotate_left
    focus
      by_cases c1 : 7 < a0
      focus skip
      rotate_left
      focus
        by_cases c2 : a1 < 0
        focus skip
        rotate_left
        focus
          have c3 : a2 ≤ a1 := by omega
    all_goals
      clear hc
      go_enter Try.func4, Try.ntmps4
      go_wp2_with fail
      refine (awake_any w).mono ?_
      rintro e w1 ⟨rfl, b1⟩
      go_wp2_with fail
      go_ret
      exact ⟨rfl, b1⟩
  · have c0 : 1 ≤ a0 := by omega
    have c1 : a0 ≤ 7 := by omega
    have c2 : 0 ≤ a1 := by omega
    have c3 : a1 < a2 := by omega
    clear hc
    go_enter Try.func4, Try.ntmps4
    go_wp2_with fail
    refine (awake_any w).mono ?_
    rintro e w1 ⟨rfl, b1⟩
    go_wp2_with fail
    with_reducible refine (NumNil_any a0 a1 w1 i0 i1).mono ?_
    rintro e w2 ⟨A2, e2, rfl, o2, b2⟩
    have s2 := str_inB o2 rfl (Below.refl _ _)
    have L1 := numE_len a0 a1
    have L2 := numE_len a0 a2
    have HW := wide_id c0 c1
    have X1 : (numE a0 a1).length ≤ 7 := numE_length a0 a1
    have HO := Lib.hid (numE_order a0 a1 a2 c2 c3)
    have hl1 : (((numE a0 a1).length : Int) == a0) = true := by rw [L1, HW]; simp
    have hl2 : (((numE a0 a2).length : Int) == a0) = true := by rw [L2, HW]; simp
    clear L1 L2 HW
    generalize numE a0 a1 = xs at *
    go_wp2_with fail
    with_reducible refine (NumNil_any a0 a2 w2 i0 i2).mono ?_
    rintro e w3 ⟨A3, e3, rfl, o3, b3⟩
    have s3 := str_inB o3 rfl (Below.refl _ _)
    generalize numE a0 a2 = ys at *
    go_wp2_with fail
    go_loopw [10, 11] (fun x i wr => ∃ k : Nat, k ≤ xs.length ∧ i = .int .i64 (k : Int) ∧ x = .bool ((xs.take k).all (· == 255)) ∧ w3 = wr) (fun _ i _ => xs.length - (intOf i).toNat)
    case atStart => exact ⟨0, Nat.zero_le _, rfl, rfl, rfl⟩
    case round =>
      obtain ⟨k, hk, rfl, rfl, rfl⟩ := hrel
      by_cases hlt : k < xs.length
      · by_cases hall : (xs.take k).all (· == 255) = true
        · have H4 : Hid ((xs.take (k + 1)).all (· == 255) = ((((xs[k]).toNat : Nat) : Int) == 255)) := by unfold Hid; rw [all_take_succ xs k hlt, hall]; simp
          rw [hall]
          clear hall
          go_wp2
          go_roundw
          case rel => exact ⟨k + 1, by omega, by go_num, by rw [H4.out, str_getElem], trivial⟩
          case measure => simp [intOf]; omega
        · have hall : (xs.take k).all (· == 255) = false := by simpa using hall
          have H4 : Hid ((xs.take (k + 1)).all (· == 255) = false) := by unfold Hid; rw [all_take_succ xs k hlt, hall]; simp
          rw [hall]
          clear hall
          go_wp2
          go_roundw
          case rel => exact ⟨k + 1, by omega, by go_num, by rw [H4.out], trivial⟩
          case measure => simp [intOf]; omega
      · obtain rfl : k = xs.length := by omega
        rw [List.take_length]
        have bb := (b1.thenB' b2).thenB' b3
        rcases HO.out with hb | ⟨ha, he⟩
        · go_wp2
          go_ret
          exact ⟨rfl, bb⟩
        · have hb : Op.bytesLess xs ys = false ∨ Op.bytesLess xs ys = true := by cases Op.bytesLess xs ys <;> simp
          rw [ha]
          have he2 : (xs == ys) = true := by rw [he]; simp
          clear he ha
          rcases hb with hb | hb
          · go_wp2
            go_ret
            exact ⟨rfl, bb⟩
          · go_wp2
            go_ret
            exact ⟨rfl, bb⟩
end Go.Proofs.Ytjgafklomndhlaa
