/- sealed. -/
import Derived.Test.YthpmmnpjdpgamaaDoorFr7
import Derived.Test.YthpmmnpjdpgamaaDoorCan
namespace Go.Proofs.YthpmmnpjdpgamaaDoor
open Go.RowKit
set_option linter.unusedVariables false

/-- Do bytes end in the sum of those ahead? -/
def okS (b : List UInt8) : Bool := decide (tailO (b.take (b.length - 4)) = b.drop (b.length - 4))

set_option maxHeartbeats 1000000 in
set_option maxRecDepth 100000 in
theorem sealed_any (D : Nat → Prop) (A : Option Addr) (c : Nat) (b : List UInt8) (w : World) (h : RdB w D A b) (h4 : 4 ≤ b.length) (hl : b.length ≤ 1000000) (hc : b.length ≤ c) (hm : c ≤ 9223372036854775807) (ht : Tab w) :
    Calls Tryd.prog 42 #[.slice A b.length c] w fun e w' => e = .returned (.bool (okS b)) ∧ Below w.heap.size w w' := by
  obtain ⟨k, hk⟩ : ∃ k, k = b.length - 4 := ⟨_, rfl⟩
  have hki : (b.length : Int) - 4 = (k : Int) := by omega
  have hkl : k ≤ b.length := by omega
  have hkc : k ≤ c := by omega
  have HK := Lib.hid hk
  have e : Hid (okS b = decide (tailO (b.take k) = b.drop k)) := by unfold Hid okS; rw [← hk]
  clear hk
  have r1 : RdB w D A (b.take k) := h.take hkl
  have r2 : RdB w D (cutA A k c 1) (b.drop k) := h.drop hkl hc
  have e1 : Hid ((b.take k).length = k) := by unfold Hid; rw [List.length_take]; omega
  have e2 : Hid ((b.drop k).length = b.length - k) := by unfold Hid; rw [List.length_drop]
  generalize b.take k = x at *
  generalize b.drop k = y at *
  go_enter Tryd.func42, Tryd.ntmps42
  go_wp2_with fail
  refine r_start (R := RB) (by rfl) (n := 9) (L := #[false, false, false, false, false, false, false, false, false]) rfl rfl ?_
  have bd : Below w.heap.size w w.drew := (Below.refl _ _).drew
  have r1 := r1.below bd
  have r2 := r2.below bd
  have ht := ht.below bd
  generalize w.drew = wd1 at *
  refine r_flt RB_refl 0 7 #[true, false, false, false, false, false, false, false, false] (by simp only [List.getElem?_toArray, List.getElem?_cons_zero]; rfl) (by rfl) (by kernel_rfl) (by kernel_rfl) (by kernel_rfl) (fun _ _ _ _ h => h) rfl (by rfl) ?_
  apply Exists.intro
  apply And.intro
  · intro W hW
    first | (go_simp; with_reducible rfl) | go_simp
  (try simp only [Act.put, List.setIfInBounds_toArray]); (try simp only [List.set_cons_succ]); (try simp only [List.set_cons_zero])
  refine r_flt RB_refl 1 8 #[true, true, false, false, false, false, false, false, false] (by simp only [List.getElem?_toArray, List.getElem?_cons_succ, List.getElem?_cons_zero]; rfl) (by rfl) (by kernel_rfl) (by kernel_rfl) (by kernel_rfl) (fun _ _ _ _ h => h) rfl (by rfl) ?_
  apply Exists.intro
  apply And.intro
  · intro W hW
    first | (go_simp; with_reducible rfl) | go_simp
  (try simp only [Act.put, List.setIfInBounds_toArray]); (try simp only [List.set_cons_succ]); (try simp only [List.set_cons_zero])
  refine r_flt RB_refl 2 9 #[true, true, true, false, false, false, false, false, false] (by simp only [List.getElem?_toArray, List.getElem?_cons_succ, List.getElem?_cons_zero]; rfl) (by rfl) (by kernel_rfl) (by kernel_rfl) (by kernel_rfl) (fun _ _ _ _ h => h) rfl (by rfl) ?_
  apply Exists.intro
  apply And.intro
  · intro W hW
    go_simp; rfl
  (try simp only [Act.put, List.setIfInBounds_toArray]); (try simp only [List.set_cons_succ]); (try simp only [List.set_cons_zero])
  refine r_flt RB_refl 4 11 #[true, true, true, false, true, false, false, false, false] (by simp only [List.getElem?_toArray, List.getElem?_cons_succ, List.getElem?_cons_zero]; rfl) (by rfl) (by kernel_rfl) (by kernel_rfl) (by kernel_rfl) (fun _ _ _ _ h => h) rfl (by rfl) ?_
  apply Exists.intro
  apply And.intro
  · intro W hW
    first | (go_simp; with_reducible rfl) | go_simp
  (try simp only [Act.put, List.setIfInBounds_toArray]); (try simp only [List.set_cons_succ]); (try simp only [List.set_cons_zero])
  refine r_flt RB_refl 5 12 #[true, true, true, false, true, true, false, false, false] (by simp only [List.getElem?_toArray, List.getElem?_cons_succ, List.getElem?_cons_zero]; rfl) (by rfl) (by kernel_rfl) (by kernel_rfl) (by kernel_rfl) (fun _ _ _ _ h => h) rfl (by rfl) ?_
  apply Exists.intro
  apply And.intro
  · intro W hW
    first | (go_simp; with_reducible rfl) | go_simp
  (try simp only [Act.put, List.setIfInBounds_toArray]); (try simp only [List.set_cons_succ]); (try simp only [List.set_cons_zero])
  refine r_flt RB_refl 6 13 #[true, true, true, false, true, true, true, false, false] (by simp only [List.getElem?_toArray, List.getElem?_cons_succ, List.getElem?_cons_zero]; rfl) (by rfl) (by kernel_rfl) (by kernel_rfl) (by kernel_rfl) (fun _ _ _ _ h => h) rfl (by rfl) ?_
  apply Exists.intro
  apply And.intro
  · intro W hW
    go_simp; rfl
  (try simp only [Act.put, List.setIfInBounds_toArray]); (try simp only [List.set_cons_succ]); (try simp only [List.set_cons_zero])
  refine r_one RB_trans 3 (by kernel_rfl) ?_
  refine alt_call 10 #[true, true, true, true, true, true, true, false, false] (by simp only [List.getElem?_toArray, List.getElem?_cons_succ, List.getElem?_cons_zero]; rfl) (by rfl) rfl (by rfl) (by go_simp; first | exact ⟨rfl, rfl⟩ | rfl) ?_
  have hcall := seal_any wd1.heap.size (.slice none 0 0) [] D A c x wd1 OwnB.nil (Nat.le_refl _) (by simp) r1 (by have := e1.out; omega) ht
  rw [e1.out] at hcall
  with_reducible refine hcall.mono ?_
  rintro e' w3 ⟨v3, rfl, o3, b3⟩
  rw [List.nil_append] at o3
  obtain ⟨A3, n3, c3, rfl, e3, _, _⟩ := o3.form'
  refine ⟨_, rfl, b3, ?_⟩
  have r2 := r2.below b3
  have bb := bd.thenB' b3
  (try simp only [Act.put, List.setIfInBounds_toArray]); (try simp only [List.set_cons_succ]); (try simp only [List.set_cons_zero])
  refine r_one RB_trans 7 (by kernel_rfl) ?_
  refine alt_call 14 #[true, true, true, true, true, true, true, true, false] (by simp only [List.getElem?_toArray, List.getElem?_cons_succ, List.getElem?_cons_zero]; rfl) (by rfl) rfl (by rfl) (by go_simp; first | exact ⟨rfl, rfl⟩ | rfl) ?_
  have hcall := Equal_any _ _ A3 (cutA A k c 1) c3 (c - k) (tailO x) y _ o3.rd' r2 (by rw [tailO_len]; omega) (by have := e2.out; omega)
  rw [← e3.out, e2.out] at hcall
  with_reducible refine hcall.mono ?_
  rintro e' w4 ⟨rfl, b4⟩
  refine ⟨_, rfl, b4, ?_⟩
  have bb := bb.thenB' b4
  (try simp only [Act.put, List.setIfInBounds_toArray]); (try simp only [List.set_cons_succ]); (try simp only [List.set_cons_zero])
  refine r_flt RB_refl 8 2 #[true, true, true, true, true, true, true, true, true] (by simp only [List.getElem?_toArray, List.getElem?_cons_succ, List.getElem?_cons_zero]; rfl) (by rfl) (by kernel_rfl) (by kernel_rfl) (by kernel_rfl) (fun _ _ _ _ h => h) rfl (by rfl) ?_
  apply Exists.intro
  apply And.intro
  · intro W hW
    first | (go_simp; with_reducible rfl) | go_simp
  (try simp only [Act.put, List.setIfInBounds_toArray]); (try simp only [List.set_cons_succ]); (try simp only [List.set_cons_zero])
  refine r_done (by kernel_rfl) ?_
  go_wp2_with fail
  go_ret
  exact ⟨by rw [e.out] <;> rfl, bb⟩

end Go.Proofs.YthpmmnpjdpgamaaDoor
