import Derived.Test.YtjgafklomndhlaaLaw1
import Derived.Test.YtjgafklomndhlaaBack1
import Derived.Test.YtjgafklomndhlaaOpen
namespace Go.Proofs.Ytjgafklomndhlaa
open Go.RowKit
set_option linter.unusedVariables false

/-! ### a reader that is none -/
theorem nilFail (x : Int) (w : World) : Calls Try.prog 18 #[.pointer none, .int .i64 x] w fun e w' => e = .returned (.tuple #[]) ∧ w = w' := by
  go_enter Try.func18, Try.ntmps18
  go_wp2
  go_end0
  exact ⟨rfl, rfl⟩
theorem nilTake (n : Int) (w : World) : Calls Try.prog 31 #[.pointer none, .int .i64 n, .func (.func 18) #[.pointer none] #[]] w fun e w' => e = .returned (.slice none 0 0) ∧ w = w' := by
  go_enter Try.func31, Try.ntmps31
  go_wp2
  go_ret
  exact ⟨rfl, rfl⟩
theorem nilNum (width : Int) (w : World) : Calls Try.prog 11 #[.pointer none, .int .i64 width] w fun e w' => e = .returned (.int .i64 0) ∧ w = w' := by
  go_enter Try.func11, Try.ntmps11
  go_wp2_with fail
  with_reducible refine (wide_any _ _).mono ?_
  rintro e w1 ⟨rfl, rfl⟩
  go_wp2_with fail
  with_reducible refine (nilTake _ _).mono ?_
  rintro e w1 ⟨rfl, rfl⟩
  go_wp2_with fail
  refine wp_loop_once ?_
  go_wp2_with fail
  go_ret
  exact ⟨rfl, rfl⟩
theorem nilBlob (w : World) : Calls Try.prog 13 #[.pointer none, .int .i64 5] w fun e w' => e = .returned (.slice none 0 0) ∧ w = w' := by
  go_enter Try.func13, Try.ntmps13
  go_wp2_with fail
  with_reducible refine (nilNum _ _).mono ?_
  rintro e w1 ⟨rfl, rfl⟩
  go_wp2_with fail
  with_reducible refine (nilTake _ _).mono ?_
  rintro e w1 ⟨rfl, rfl⟩
  go_wp2_with fail
  go_ret
  exact ⟨rfl, rfl⟩
theorem nilNums (w : World) : Calls Try.prog 16 #[.pointer none, .int .i64 1, .int .i64 5] w fun e w' => e = .returned (.slice none 0 0) ∧ w = w' := by
  go_enter Try.func16, Try.ntmps16
  go_wp2_with fail
  with_reducible refine (nilNum _ _).mono ?_
  rintro e w1 ⟨rfl, rfl⟩
  go_wp2_with fail
  with_reducible refine (wide_any _ _).mono ?_
  rintro e w1 ⟨rfl, rfl⟩
  rw [show wideI 1 = 1 from by decide]
  go_wp2_with fail
  with_reducible refine (nilTake _ _).mono ?_
  rintro e w1 ⟨rfl, rfl⟩
  go_wp2_with fail
  refine wp_loop_once ?_
  go_wp2_with fail
  go_ret
  exact ⟨rfl, rfl⟩
theorem nilLeft (w : World) : Calls Try.prog 20 #[.pointer none] w fun e w' => e = .returned (.int .i64 0) ∧ w = w' := by
  go_enter Try.func20, Try.ntmps20
  go_wp2
  go_ret
  exact ⟨rfl, rfl⟩
theorem nilErr (w : World) : Calls Try.prog 21 #[.pointer none] w fun e w' => e = .returned (.int .i64 1) ∧ w = w' := by
  go_enter Try.func21, Try.ntmps21
  go_wp2
  go_ret
  exact ⟨rfl, rfl⟩
theorem nilEnd (w : World) : Calls Try.prog 22 #[.pointer none] w fun e w' => e = .returned (.int .i64 1) ∧ w = w' := by
  go_enter Try.func22, Try.ntmps22
  go_wp2_with fail
  with_reducible refine (nilLeft _).mono ?_
  rintro e w1 ⟨rfl, rfl⟩
  go_wp2_with fail
  with_reducible refine (nilErr _).mono ?_
  rintro e w1 ⟨rfl, rfl⟩
  go_wp2_with fail
  go_ret
  exact ⟨rfl, rfl⟩

theorem BlobNil_any (D : Nat → Prop) (A : Option Addr) (c : Nat) (x : List UInt8) (w : World) (h : RdB w D A x) (hc : x.length ≤ c) (hm : c ≤ 9223372036854775807) :
    Calls Try.prog 25 #[.slice none 0 0, .slice A x.length c] w fun e w' => ∃ A' c', e = .returned (.slice A' (blobE x).length c') ∧ OwnB w' w.heap.size (.slice A' (blobE x).length c') (blobE x) ∧ Below w.heap.size w w' :=
  (Blob_any (fun _ => True) D none A 0 c [] x w RdB.nil h (by decide) hc hm).mono fun e w' ⟨v, he, ho, hb⟩ => by
    rw [List.nil_append] at ho
    obtain ⟨A', c', rfl, _, _⟩ := ho.form
    exact ⟨A', c', he, ho, hb⟩
theorem blobE_len (x : List UInt8) : (blobE x).length ≤ 65542 := by
  have := numE_length 2 (min x.length 65535 : Nat)
  unfold blobE
  rw [List.length_append, List.length_take]
  omega

set_option maxHeartbeats 2000000 in
theorem wireNone_walk (w : World) (A : Option Addr) (x : List UInt8) (c : Nat) (r : RdB w (Old w) A x) (l : x.length ≤ c) (m : c ≤ 9223372036854775807) (n : A = none → c = 0) (most : Int) (i : I64 most) :
    Calls Try.prog 5 #[.slice A x.length c, .int .i64 most] w fun e w' => e = .returned (.bool true) ∧ Below w.heap.size w w' := by
  by_cases h0 : 10000 < x.length
  · go_enter Try.func5, Try.ntmps5
    go_wp2_with fail
    refine (awake_any w).mono ?_
    rintro e w1 ⟨rfl, b1⟩
    go_wp2_with fail
    go_ret
    exact ⟨rfl, b1⟩
  by_cases h1 : max most 0 < (x.length : Int)
  · have HB : Hid (rBlob most (blobE x, 0) = ([], ([], 11))) := by
      have := rBlob_no most x [] (by omega) h1
      rwa [List.append_nil] at this
    go_enter Try.func5, Try.ntmps5
    go_wp2_with fail
    refine (awake_any w).mono ?_
    rintro e w1 ⟨rfl, b1⟩
    go_wp2_with fail
    with_reducible refine (nilFail _ _).mono ?_
    rintro e w1' ⟨rfl, rfl⟩
    go_wp2_with fail
    with_reducible refine (nilNum _ _).mono ?_
    rintro e w1' ⟨rfl, rfl⟩
    go_wp2_with fail
    with_reducible refine (nilBlob _).mono ?_
    rintro e w1' ⟨rfl, rfl⟩
    go_wp2_with fail
    with_reducible refine (nilNums _).mono ?_
    rintro e w1' ⟨rfl, rfl⟩
    go_wp2_with fail
    with_reducible refine (nilLeft _).mono ?_
    rintro e w1' ⟨rfl, rfl⟩
    go_wp2_with fail
    with_reducible refine (nilErr _).mono ?_
    rintro e w1' ⟨rfl, rfl⟩
    go_wp2_with fail
    with_reducible refine (nilEnd _).mono ?_
    rintro e w1' ⟨rfl, rfl⟩
    go_wp2_with fail
    with_reducible refine (BlobNil_any _ A c x w1 (r.below b1) l m).mono ?_
    rintro e w2 ⟨A2, c2, rfl, o2, b2⟩
    have hl2 := blobE_len x
    go_wp2_with fail
    with_reducible refine (Read_any _ A2 c2 (blobE x) w2 o2.rd (by unfold big; omega)).mono ?_
    rintro e w3 ⟨g, rfl, r3, hg, b3⟩
    go_wp2_with fail
    with_reducible refine (Blob_any' g _ _ most w3 r3).mono ?_
    rintro e w4 ⟨v4, rfl, o4, r4, m4⟩
    rw [HB.out] at o4 r4
    obtain ⟨A4, c4, rfl, _, _⟩ := o4.form
    have b123 := (b1.thenB' b2).thenB' b3
    have s1 := b1.size
    have s2 := b2.size
    have b4 : Below w.heap.size w w4 := b123.thenM m4 b123.size (fun i hi hx => by omega)
    go_wp2_with fail
    with_reducible refine (Err_any g _ _ w4 r4).mono ?_
    rintro e w5 ⟨rfl, rfl⟩
    go_wp2_with fail
    go_ret
    exact ⟨rfl, b4⟩
  · have HB : Hid (rBlob most (blobE x, 0) = (x, ([], 0))) := by
      have := rBlob_yes most x [] (by omega) (by omega)
      rwa [List.append_nil] at this
    go_enter Try.func5, Try.ntmps5
    go_wp2_with fail
    refine (awake_any w).mono ?_
    rintro e w1 ⟨rfl, b1⟩
    go_wp2_with fail
    with_reducible refine (nilFail _ _).mono ?_
    rintro e w1' ⟨rfl, rfl⟩
    go_wp2_with fail
    with_reducible refine (nilNum _ _).mono ?_
    rintro e w1' ⟨rfl, rfl⟩
    go_wp2_with fail
    with_reducible refine (nilBlob _).mono ?_
    rintro e w1' ⟨rfl, rfl⟩
    go_wp2_with fail
    with_reducible refine (nilNums _).mono ?_
    rintro e w1' ⟨rfl, rfl⟩
    go_wp2_with fail
    with_reducible refine (nilLeft _).mono ?_
    rintro e w1' ⟨rfl, rfl⟩
    go_wp2_with fail
    with_reducible refine (nilErr _).mono ?_
    rintro e w1' ⟨rfl, rfl⟩
    go_wp2_with fail
    with_reducible refine (nilEnd _).mono ?_
    rintro e w1' ⟨rfl, rfl⟩
    go_wp2_with fail
    with_reducible refine (BlobNil_any _ A c x w1 (r.below b1) l m).mono ?_
    rintro e w2 ⟨A2, c2, rfl, o2, b2⟩
    have hl2 := blobE_len x
    go_wp2_with fail
    with_reducible refine (Read_any _ A2 c2 (blobE x) w2 o2.rd (by unfold big; omega)).mono ?_
    rintro e w3 ⟨g, rfl, r3, hg, b3⟩
    go_wp2_with fail
    with_reducible refine (Blob_any' g _ _ most w3 r3).mono ?_
    rintro e w4 ⟨v4, rfl, o4, r4, m4⟩
    rw [HB.out] at o4 r4
    obtain ⟨A4, c4, rfl, _, _⟩ := o4.form
    have b123 := (b1.thenB' b2).thenB' b3
    have s1 := b1.size
    have s2 := b2.size
    have b4 : Below w.heap.size w w4 := b123.thenM m4 b123.size (fun i hi hx => by omega)
    have q1 := str_inB o4 rfl (Below.refl _ _)
    have q2 := str_rd (c := c) (r.below b4) rfl
    have HE : Hid ((rEnd (([] : List UInt8), (0 : Int))).2 = 0) := rfl
    go_wp2_with fail
    with_reducible refine (End_any g _ _ w4 r4).mono ?_
    rintro e w5 ⟨rfl, r5, m5⟩
    rw [HE.out]
    go_wp2_with fail
    go_ret
    exact ⟨rfl, b4.thenM m5 b4.size (fun i hi hx => by omega)⟩
end Go.Proofs.Ytjgafklomndhlaa
