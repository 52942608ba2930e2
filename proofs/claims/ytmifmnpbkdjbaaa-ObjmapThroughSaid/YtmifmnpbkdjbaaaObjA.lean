import Derived.Test.YtmifmnpbkdjbaaaObj12
namespace Go.Proofs.Ytmifmnpbkdjbaaa
open Go.RowKit
set_option linter.unusedVariables false

abbrev aI (l : List Int) : Obj := .cells (l.map cI).toArray 3
theorem bigI (l : List Int) (h : l.length ≤ 512) : l.length ≤ big := by unfold big; omega

theorem fix1 : changedO [2, 0, 2] [[2, 1], [2, 2]] = [1, 2] := by decide +kernel
theorem fix2 : unpO [0, 5, 9, 1] = some [1, 2, 0, 0, 1] := by decide +kernel
theorem fix3 : setO [] 1 1 = [0, 1] := by decide +kernel
theorem fix4 : freshO [1, 0, 2] = [2, 0, 2] := by decide +kernel
theorem fix5 : mayO [1, 2, 0, 0, 1] = true := by decide +kernel
theorem fix6 : gO [1, 2, 0, 0, 1] 4 = 1 := by decide +kernel

set_option maxHeartbeats 1000000 in
set_option maxRecDepth 100000 in
theorem awake_any (w : World) : Calls Try.prog 10 #[] w fun e w' => e = .returned (.bool true) ∧ Below w.heap.size w w' := by
  have b1 := below_new w (.cells #[.int .i64 2, .int .i64 0, .int .i64 2] 3)
  have o1 := litI w [2, 0, 2] 3 #[.int .i64 2, .int .i64 0, .int .i64 2] rfl rfl (bigI _ (by decide))
  generalize hw1 : w.alloc (.cells #[.int .i64 2, .int .i64 0, .int .i64 2] 3) = w1 at *
  have b2 := below_new w1 (.cells #[.int .i64 2, .int .i64 1] 3)
  have o2 := litI w1 [2, 1] 2 #[.int .i64 2, .int .i64 1] rfl rfl (bigI _ (by decide))
  generalize hw2 : w1.alloc (.cells #[.int .i64 2, .int .i64 1] 3) = w2 at *
  have b3 := below_new w2 (.cells #[.int .i64 2, .int .i64 2] 3)
  have o3 := litI w2 [2, 2] 2 #[.int .i64 2, .int .i64 2] rfl rfl (bigI _ (by decide))
  generalize hw3 : w2.alloc (.cells #[.int .i64 2, .int .i64 2] 3) = w3 at *
  have b4 := below_new w3 (.cells #[.slice (some ⟨w1.heap.size, 0, none⟩) 2 2, .slice (some ⟨w2.heap.size, 0, none⟩) 2 2] 22)
  have hB := Blk.new w3 22 #[.slice (some ⟨w1.heap.size, 0, none⟩) 2 2, .slice (some ⟨w2.heap.size, 0, none⟩) 2 2]
  generalize hw4 : w3.alloc (.cells #[.slice (some ⟨w1.heap.size, 0, none⟩) 2 2, .slice (some ⟨w2.heap.size, 0, none⟩) 2 2] 22) = w4 at *
  have r1 := ((o1.rd.below b2).below b3).below b4
  have r2 := (o2.rd.below b3).below b4
  have r3 := o3.rd.below b4
  have s1 : w1.heap.size = w.heap.size + 1 := by rw [← hw1]; simp
  have s2 : w2.heap.size = w.heap.size + 1 + 1 := by rw [← hw2, ← s1]; simp
  have s3 : w3.heap.size = w.heap.size + 1 + 1 + 1 := by rw [← hw3, ← s2]; simp
  have bb := ((b1.thenB' b2).thenB' b3).thenB' b4
  have rL : RdL w4 (fun _ => True) 1 rowC (some ⟨w3.heap.size, 0, none⟩) [⟨some ⟨w1.heap.size, 0, none⟩, [2, 1], 2⟩, ⟨some ⟨w2.heap.size, 0, none⟩, [2, 2], 2⟩] := fun _ => ⟨_, rfl, trivial, fun i s hs j v hv => by
    rw [Nat.mul_one, add_head, hB.cell]
    match i, hs with
    | 0, hs => injection hs with hs; subst hs; match j, hv with
      | 0, hv => exact hv
      | j + 1, hv => simp [rowC] at hv
    | 1, hs => injection hs with hs; subst hs; match j, hv with
      | 0, hv => exact hv
      | j + 1, hv => simp [rowC] at hv
    | i + 2, hs => simp at hs⟩
  have hcall := Changed_any _ _ (fun _ => True) (some ⟨w.heap.size, 0, none⟩) (some ⟨w3.heap.size, 0, none⟩) 3 2 [2, 0, 2] _ w4 r1 rL (fun s hs => by
    rcases List.mem_cons.1 hs with rfl | hs
    · exact Rd.imp r2 (fun _ _ _ => trivial) (by decide)
    · obtain rfl : s = ⟨some ⟨w2.heap.size, 0, none⟩, [2, 2], 2⟩ := by simpa using hs
      exact Rd.imp r3 (fun _ _ _ => trivial) (by decide)) (by simp)
  rw [show changedO [2, 0, 2] (List.map (·.l) [(⟨some ⟨w1.heap.size, 0, none⟩, [2, 1], 2⟩ : RV), ⟨some ⟨w2.heap.size, 0, none⟩, [2, 2], 2⟩]) = [1, 2] from fix1] at hcall
  have HW : Hid (w4 = (((w.alloc (.cells #[.int .i64 2, .int .i64 0, .int .i64 2] 3)).alloc (.cells #[.int .i64 2, .int .i64 1] 3)).alloc (.cells #[.int .i64 2, .int .i64 2] 3)).alloc (.cells #[.slice (some ⟨w.heap.size + 1, 0, none⟩) 2 2, .slice (some ⟨w.heap.size + 1 + 1, 0, none⟩) 2 2] 22)) := by
    unfold Hid
    rw [← hw4, ← hw3, s1, s2, ← hw2, ← hw1]
  rw [s3] at hcall
  clear rL hB r1 r2 r3 o1 o2 o3 b1 b2 b3 b4
  clear s1 s2 s3
  clear hw4
  clear hw3
  clear hw2
  clear hw1
  go_enter Try.func10, Try.ntmps10
  go_wp2_with fail
  rw [← HW.out]
  refine hcall.mono ?_
  clear hcall HW
  rintro e w5 ⟨v5, rfl, o5, b5⟩
  obtain ⟨A5, c5, rfl, _, _⟩ := o5.form
  have bb := bb.thenB' b5
  clear b5
  go_wp2_with fail
  have n5 := below_new w5 (.cells #[.int .u8 0, .int .u8 5, .int .u8 9, .int .u8 1] 5)
  have oB := litB w5 [0, 5, 9, 1] 4 #[.int .u8 0, .int .u8 5, .int .u8 9, .int .u8 1] rfl rfl (by unfold big; decide)
  have o5 := OwnI.below o5 n5
  have bb := bb.thenB' n5
  refine (Unpack_any _ _ 4 [0, 5, 9, 1] _ oB.rd (by decide) (by decide)).mono ?_
  rintro e w6 ⟨A6, m6, rfl, hn, r6, b6⟩
  rw [fix2] at hn r6 ⊢
  have r6 : RowI w6 _ A6 [1, 2, 0, 0, 1] := r6
  have hn : m6 = 5 := hn
  subst hn
  have o5 := OwnI.below o5 b6
  have bb := bb.thenB' b6
  clear n5 oB b6
  go_wp2_with fail
  have nn := below_new w6 (.cells #[.int .i64 1, .int .i64 2] 3)
  have oL := litI w6 [1, 2] 2 #[.int .i64 1, .int .i64 2] rfl rfl (bigI _ (by decide))
  have o5 := OwnI.below o5 nn
  have r6 := r6.below nn
  have bb := bb.thenB' nn
  refine (Ints_yes _ _ A5 _ 2 c5 2 [1, 2] rfl o5.rd oL.rd (by decide)).mono ?_
  rintro e w7 ⟨rfl, bk⟩
  have o5 := OwnI.below o5 bk
  have r6 := r6.below bk
  have bb := bb.thenB' bk
  clear nn oL bk
  go_wp2_with fail
  have nn := below_new w7 (.cells #[.int .i64 1, .int .i64 2, .int .i64 0, .int .i64 0, .int .i64 1] 3)
  have oL := litI w7 [1, 2, 0, 0, 1] 5 #[.int .i64 1, .int .i64 2, .int .i64 0, .int .i64 0, .int .i64 1] rfl rfl (bigI _ (by decide))
  have r6 := r6.below nn
  have bb := bb.thenB' nn
  refine (Ints_yes _ _ A6 _ 5 5 5 [1, 2, 0, 0, 1] rfl r6.rd oL.rd (by decide)).mono ?_
  rintro e w8 ⟨rfl, bk⟩
  have r6 := r6.below bk
  have bb := bb.thenB' bk
  clear nn oL bk
  go_wp2_with fail
  have hcall := Set_any (fun _ => True) none 0 [] 1 1 w8 RdI.nil
  rw [fix3] at hcall
  refine hcall.mono ?_
  clear hcall
  rintro e w9 ⟨A9, rfl, r9, b9⟩
  have r6 := r6.below b9
  have bb := bb.thenB' b9
  clear b9
  go_wp2_with fail
  have nn := below_new w9 (.cells #[.int .i64 0, .int .i64 1] 3)
  have oL := litI w9 [0, 1] 2 #[.int .i64 0, .int .i64 1] rfl rfl (bigI _ (by decide))
  have r9 := r9.below nn
  have r6 := r6.below nn
  have bb := bb.thenB' nn
  refine (Ints_yes _ _ A9 _ 2 2 2 [0, 1] rfl r9.rd oL.rd (by decide)).mono ?_
  rintro e w10 ⟨rfl, bk⟩
  have r9 := r9.below bk
  have r6 := r6.below bk
  have bb := bb.thenB' bk
  clear nn oL bk
  go_wp2_with fail
  have nn := below_new w10 (.cells #[.int .i64 1, .int .i64 0, .int .i64 2] 3)
  have oL := litI w10 [1, 0, 2] 3 #[.int .i64 1, .int .i64 0, .int .i64 2] rfl rfl (bigI _ (by decide))
  have r6 := r6.below nn
  have bb := bb.thenB' nn
  have hcall := Fresh_any _ _ 3 [1, 0, 2] _ oL.rd
  rw [fix4] at hcall
  refine hcall.mono ?_
  clear hcall
  rintro e w11 ⟨A11, c11, rfl, r11, l11, m11, b11⟩
  have r6 := r6.below b11
  have bb := bb.thenB' b11
  clear b11 nn oL
  go_wp2_with fail
  have nn := below_new w11 (.cells #[.int .i64 2, .int .i64 0, .int .i64 2] 3)
  have oL := litI w11 [2, 0, 2] 3 #[.int .i64 2, .int .i64 0, .int .i64 2] rfl rfl (bigI _ (by decide))
  have r11 := r11.below nn
  have r6 := r6.below nn
  have bb := bb.thenB' nn
  refine (Ints_yes _ _ A11 _ 3 c11 3 [2, 0, 2] rfl r11.rd oL.rd (by decide)).mono ?_
  rintro e w12 ⟨rfl, bk⟩
  have r11 := r11.below bk
  have r6 := r6.below bk
  have bb := bb.thenB' bk
  clear nn oL bk
  go_wp2_with fail
  have hcall := Check_any _ A6 5 [1, 2, 0, 0, 1] w12 r6.rd (by decide)
  rw [fix5] at hcall
  refine hcall.mono ?_
  clear hcall
  rintro e w13 ⟨rfl, rfl⟩
  go_wp2_with fail
  have hcall := Get_any _ A6 5 [1, 2, 0, 0, 1] 4 w12 r6.rd
  rw [fix6] at hcall
  refine hcall.mono ?_
  clear hcall
  rintro e w14 ⟨rfl, rfl⟩
  go_wp2_with fail
  go_ret
  exact ⟨rfl, bb⟩
end Go.Proofs.Ytmifmnpbkdjbaaa
