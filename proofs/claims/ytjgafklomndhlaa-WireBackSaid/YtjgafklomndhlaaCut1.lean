/- Bytes of something that was put, cut short anywhere, end in ErrShort: plain. -/
import Derived.Test.YtjgafklomndhlaaBack1
namespace Go.Proofs.Ytjgafklomndhlaa
open Go.RowKit

theorem rTake_bad (n : Nat) (e : Int) (he : e ≠ 0) (bs : List UInt8) : rTake n (bs, e) = ([], (bs, e)) := by unfold rTake; rw [if_neg he]
theorem rNum_bad (width e : Int) (he : e ≠ 0) (bs : List UInt8) : rNum width (bs, e) = (0, (bs, e)) := by unfold rNum; rw [rTake_bad _ _ he]; rfl
theorem rBlob_bad (most e : Int) (he : e ≠ 0) (bs : List UInt8) : rBlob most (bs, e) = ([], (bs, e)) := by
  unfold rBlob; rw [rNum_bad _ _ he]; simp only; rw [if_neg (by omega)]; exact rTake_bad _ _ he _
theorem rNums_bad (width most e : Int) (he : e ≠ 0) (bs : List UInt8) : rNums width most (bs, e) = ([], (bs, e)) := by
  unfold rNums; rw [rNum_bad _ _ he]; simp only; rw [if_neg (by omega), rTake_bad _ _ he]; simp [decN]
theorem rTake_short (n : Nat) (bs : List UInt8) (h : bs.length < n) : rTake n (bs, 0) = ([], ([], 10)) := by unfold rTake; rw [if_pos rfl, if_pos h]
theorem rNum_short (width : Int) (bs : List UInt8) (h : bs.length < (wideI width).toNat) : rNum width (bs, 0) = (0, ([], 10)) := by unfold rNum; rw [rTake_short _ _ h]; rfl

theorem flatMap_numE_len (width : Int) (l : List Int) : (l.flatMap (numE width)).length = l.length * (wideI width).toNat := by
  induction l with
  | nil => simp
  | cons x l ih => rw [List.flatMap_cons, List.length_append, ih, numE_len, List.length_cons, Nat.succ_mul]; omega

theorem cut_short (width n : Int) (x : List UInt8) (l : List Int) (k : Nat) (hx : x.length ≤ 1000) (hl : l.length ≤ 200) (hk : k < (numE width n ++ blobE x ++ numsE width l).length) :
    (rNums width 200 (rBlob 1000 (rNum width ((numE width n ++ blobE x ++ numsE width l).take k, 0)).2).2).2 = ([], 10) := by
  have hw := wideI_bd width
  have hn := numE_len width n
  have h2 : (numE 2 (x.length : Nat)).length = 2 := by rw [numE_len]; rfl
  have hb : blobE x = numE 2 (x.length : Nat) ++ x := blobE_small x (by omega)
  have hs : numsE width l = numE 1 (l.length : Nat) ++ l.flatMap (numE width) := by
    unfold numsE
    rw [show min l.length 255 = l.length from by omega, List.take_of_length_le (Nat.le_refl _)]
  have h1 : (numE 1 (l.length : Nat)).length = 1 := by rw [numE_len]; rfl
  have hf := flatMap_numE_len width l
  rw [List.append_assoc] at hk ⊢
  by_cases c1 : k < (numE width n).length
  · rw [List.take_append_of_le_length (by omega), rNum_short width _ (by rw [List.length_take]; omega)]
    simp only
    rw [rBlob_bad _ _ (by decide), rNums_bad _ _ _ (by decide)]
  rw [show k = (numE width n).length + (k - (numE width n).length) from by omega, List.take_length_add_append, rNum_numE]
  simp only
  rw [List.length_append] at hk
  generalize hk2 : k - (numE width n).length = k2 at *
  have hk : k2 < (blobE x ++ numsE width l).length := by omega
  clear hk2
  rw [hb, List.append_assoc] at hk ⊢
  by_cases c2 : k2 < 2
  · have e : rBlob 1000 (((numE 2 (x.length : Nat)) ++ (x ++ numsE width l)).take k2, 0) = ([], ([], 10)) := by
      unfold rBlob
      rw [List.take_append_of_le_length (by omega), rNum_short 2 _ (by rw [List.length_take]; show _ < 2; omega)]
      simp only
      rw [if_neg (by omega)]
      exact rTake_bad _ _ (by decide) _
    rw [e]
    simp only
    rw [rNums_bad _ _ _ (by decide)]
  rw [show k2 = (numE 2 (x.length : Nat)).length + (k2 - 2) from by omega, List.take_length_add_append]
  rw [List.length_append] at hk
  generalize hk3 : k2 - 2 = k3 at *
  have hk : k3 < (x ++ numsE width l).length := by omega
  clear hk3
  have eb : rBlob 1000 (numE 2 (x.length : Nat) ++ (x ++ numsE width l).take k3, 0) = rTake x.length ((x ++ numsE width l).take k3, 0) := by
    unfold rBlob
    rw [rNum_numE' 2 x.length _ (by show _ < 256 ^ 2; omega)]
    simp only
    rw [if_neg (by omega)]
    rfl
  rw [eb]
  by_cases c3 : k3 < x.length
  · rw [rTake_short _ _ (by rw [List.length_take]; omega)]
    simp only
    rw [rNums_bad _ _ _ (by decide)]
  rw [show k3 = x.length + (k3 - x.length) from by omega, List.take_length_add_append, rTake_append]
  simp only
  rw [List.length_append] at hk
  generalize hk4 : k3 - x.length = k4 at *
  have hk : k4 < (numsE width l).length := by omega
  clear hk4
  rw [hs] at hk ⊢
  by_cases c4 : k4 < 1
  · have : k4 = 0 := by omega
    subst this
    unfold rNums
    rw [List.take_zero, rNum_short 1 [] (by decide)]
    simp only
    rw [if_neg (by omega), rTake_bad _ _ (by decide)]
  rw [show k4 = (numE 1 (l.length : Nat)).length + (k4 - 1) from by omega, List.take_length_add_append]
  rw [List.length_append] at hk
  unfold rNums
  rw [rNum_numE' 1 l.length _ (by show _ < 256 ^ 1; omega)]
  simp only
  rw [if_neg (by omega), rTake_short _ _ (by rw [List.length_take, Int.toNat_natCast]; omega)]
end Go.Proofs.Ytjgafklomndhlaa
