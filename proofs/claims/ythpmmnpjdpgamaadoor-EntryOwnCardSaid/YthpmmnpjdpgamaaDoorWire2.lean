import Derived.Test.YthpmmnpjdpgamaaDoorWire1
namespace Go.Proofs.YthpmmnpjdpgamaaDoor
open Go.RowKit
set_option linter.unusedVariables false

theorem numE_length (width n : Int) : (numE width n).length ≤ 7 := by
  unfold numE; rw [encN_length]; have := wideI_bd width; omega

theorem Num_any (D : Nat → Prop) (A : Option Addr) (c : Nat) (head : List UInt8) (width n : Int) (w : World) (h : RdB w D A head) (hl : head.length ≤ 1000000000) (hw : I64 width) (hn : I64 n) :
    Calls Tryd.prog 33 #[.slice A head.length c, .int .i64 width, .int .i64 n] w fun e w' => ∃ v, e = .returned v ∧ OwnB w' w.heap.size v (head ++ numE width n) ∧ Below w.heap.size w w' := by
  go_enter Tryd.func33, Tryd.ntmps33
  go_wp2_with fail
  with_reducible refine (cloneB_any D A c head w h (by unfold big; omega)).mono ?_
  rintro e w1 ⟨v1, rfl, h1, b1⟩
  go_wp2_with fail
  with_reducible refine (put_any w.heap.size v1 head width n w1 h1 b1.size hl hw hn).mono ?_
  rintro e w2 ⟨v2, rfl, h2, x2⟩
  go_wp2_with fail
  go_ret
  exact ⟨v2, rfl, h2, b1.trans (x2.below h1 (Nat.le_refl _) b1.size)⟩

def blobE (x : List UInt8) : List UInt8 := numE 2 (min x.length 65535 : Nat) ++ x.take (min x.length 65535)
theorem min_nat (n : Nat) (m : Int) (hm : 0 ≤ m) : ∃ k : Nat, min (n : Int) m = (k : Int) ∧ k ≤ n ∧ (k : Int) ≤ m ∧ k = min n m.toNat := ⟨min n m.toNat, by omega, by omega, by omega, rfl⟩

theorem Blob_any (D D' : Nat → Prop) (A A' : Option Addr) (c c' : Nat) (head x : List UInt8) (w : World) (h : RdB w D A head) (h' : RdB w D' A' x) (hl : head.length ≤ 1000000000) (hc : x.length ≤ c') (hm : c' ≤ 9223372036854775807) :
    Calls Tryd.prog 35 #[.slice A head.length c, .slice A' x.length c'] w fun e w' => ∃ v, e = .returned v ∧ OwnB w' w.heap.size v (head ++ blobE x) ∧ Below w.heap.size w w' := by
  obtain ⟨k, hk, hk1, hk2, hk3⟩ := min_nat x.length 65535 (by omega)
  have hx : Hid (head ++ blobE x = head ++ numE 2 k ++ x.take k) := by unfold Hid blobE; rw [show min x.length 65535 = k from hk3.symm, List.append_assoc]
  clear hk3
  have hr := RdB.take h' hk1
  have hkk : k ≤ c' := by omega
  go_enter Tryd.func35, Tryd.ntmps35
  go_wp2_with fail
  with_reducible refine (cloneB_any D A c head w h (by unfold big; omega)).mono ?_
  rintro e w1 ⟨v1, rfl, h1, b1⟩
  go_wp2_with fail
  with_reducible refine (put_any w.heap.size v1 head 2 k w1 h1 b1.size hl (by unfold I64; omega) (by unfold I64; omega)).mono ?_
  rintro e w2 ⟨v2, rfl, h2, x2⟩
  have b2 := b1.trans (x2.below h1 (Nat.le_refl _) b1.size)
  have hr2 := hr.below b2
  have hs2 := b2.size
  have hln := numE_length 2 k
  have hll : (head ++ numE 2 k).length + (x.take k).length ≤ big := by unfold big; simp; omega
  have hkl : k = (x.take k).length := by simp; omega
  have HKL := Lib.hid hkl
  clear hkl
  go_wp2_with (at_builtin; refine wpList_appB rfl (.tmp 14) (.tmp 15) rfl w.heap.size v2 (head ++ numE 2 k) rfl h2 D' A' _ _ (x.take k) rfl HKL.out hr2 hll hs2 ?_; intro v' w' h3 h4)
  go_ret
  exact ⟨v', rfl, by rw [hx.out]; exact h3, b2.trans (h4.below h2 (Nat.le_refl _) hs2)⟩

def numsE (width : Int) (l : List Int) : List UInt8 := numE 1 (min l.length 255 : Nat) ++ (l.take (min l.length 255)).flatMap (numE width)
theorem flatMap_len (width : Int) (l : List Int) : (l.flatMap (numE width)).length ≤ 7 * l.length := by
  induction l with
  | nil => simp
  | cons x l ih => have := numE_length width x; simp only [List.flatMap_cons, List.length_append, List.length_cons]; omega
theorem flatMap_take (width : Int) (l : List Int) (j : Nat) (h : j < l.length) : (l.take (j + 1)).flatMap (numE width) = (l.take j).flatMap (numE width) ++ numE width l[j] := by
  rw [List.take_succ_eq_append_getElem h, List.flatMap_append]; simp

end Go.Proofs.YthpmmnpjdpgamaaDoor
