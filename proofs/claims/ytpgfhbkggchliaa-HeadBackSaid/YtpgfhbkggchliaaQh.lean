/- Parts of the proof, joined: Wire1 Wire2 Wire3 Wire4 Ref1 Ref2 HdF. -/
import Derived.Test.YtpgfhbkggchliaaQa
import Derived.Test.YtpgfhbkggchliaaQe
import Derived.Test.YtpgfhbkggchliaaQg
namespace Go.Proofs.Ytpgfhbkggchliaa
open Go.RowKit
set_option linter.unusedVariables false

def wideI (n : Int) : Int := min (max n 1) 7
theorem wideI_bd (n : Int) : 1 ≤ wideI n ∧ wideI n ≤ 7 := by unfold wideI; omega
theorem ret_int {k : IntKind} {a b : Int} (h : a = b) : Ending.returned (.int k a) = .returned (.int k b) := by rw [h]

theorem wide_any (n : Int) (w : World) :
    Calls Try.prog 69 #[.int .i64 n] w fun e w' => e = .returned (.int .i64 (wideI n)) ∧ w = w' := by
  go_enter Try.func69, Try.ntmps69
  go_wp2
  go_ret
  exact ⟨rfl, rfl⟩

theorem big_one {a : Nat} {b : UInt8} (h : a ≤ 1000000007) : a + [b].length ≤ big := by unfold big; simp only [List.length_singleton]; omega
theorem le_alloc {B : Nat} {w : World} {o : Obj} (h : B ≤ w.heap.size) : B ≤ (w.alloc o).heap.size := by simp; omega

theorem cloneB_any (D : Nat → Prop) (A : Option Addr) (c : Nat) (bs : List UInt8) (w : World) (h : RdB w D A bs) (hl : bs.length ≤ big) :
    Calls Try.prog 67 #[.slice A bs.length c] w fun e w' => ∃ v, e = .returned v ∧ OwnB w' w.heap.size v bs ∧ Below w.heap.size w w' := by
  rcases A with _ | ad
  · have hz : bs = [] := by
      rcases Nat.eq_zero_or_pos bs.length with h0 | h0
      · exact List.eq_nil_of_length_eq_zero h0
      · obtain ⟨ad, h, _⟩ := h.2 h0
        cases h
    subst hz
    go_enter Try.func67, Try.ntmps67
    go_wp2
    go_ret
    exact ⟨_, rfl, OwnB.nil, Below.refl _ _⟩
  · have hem : OwnB (w.alloc (.cells #[] 5)) w.heap.size (.slice (some ⟨w.heap.size, 0, none⟩) 0 0) [] := own_lit w _ [] _ (Nat.le_refl _) (by simp)
    go_enter Try.func67, Try.ntmps67
    go_wp2_with (at_builtin; refine wpList_appB rfl (.tmp 5) (.tmp 6) rfl w.heap.size (.slice (some ⟨w.heap.size, 0, none⟩) 0 0) [] rfl hem D _ _ c bs rfl rfl (Rd.alloc h _) (by simpa using hl) (by simp) ?_; intro v' w' h1 h2)
    go_ret
    exact ⟨_, rfl, h1, below_app ((Below.refl _ _).alloc (Nat.le_refl _) _) hem h2.grown (Nat.le_refl _) (by simp)⟩

def clampN (k : Nat) (n : Int) : Nat := min n.toNat (256 ^ k - 1)
def encN (k m : Nat) : List UInt8 := (List.range k).map fun i => UInt8.ofNat (m / 256 ^ (k - 1 - i) % 256)
/-- The bytes of a number of a width. -/
def numE (width n : Int) : List UInt8 := encN (wideI width).toNat (clampN (wideI width).toNat n)
theorem encN_length (k m : Nat) : (encN k m).length = k := by simp [encN]
theorem pow_wide {k : Nat} (h : k ≤ 7) : 256 ^ k ≤ 72057594037927936 := by
  have := Nat.pow_le_pow_right (n := 256) (by omega) h
  omega
theorem top_eq (n : Int) (k : Nat) (h1 : 1 ≤ k) (h2 : k ≤ 7) : min (max n 0) (wrap64 (wrap64 (2 ^ (8 * k)) - 1)) = (clampN k n : Int) := by
  have e : wrap64 (wrap64 (2 ^ (8 * k)) - 1) = ((256 ^ k - 1 : Nat) : Int) := by
    have : k = 1 ∨ k = 2 ∨ k = 3 ∨ k = 4 ∨ k = 5 ∨ k = 6 ∨ k = 7 := by omega
    unfold wrap64; rcases this with rfl | rfl | rfl | rfl | rfl | rfl | rfl <;> decide
  rw [e]
  unfold clampN
  omega
theorem clampN_lt (k : Nat) (n : Int) : clampN k n < 256 ^ k := by
  have : 0 < 256 ^ k := Nat.pow_pos (by omega)
  unfold clampN
  omega

def encAt (k m j : Nat) : UInt8 := UInt8.ofNat (m / 256 ^ (k - 1 - j) % 256)
theorem encN_take (k m j : Nat) (h : j < k) : (encN k m).take (j + 1) = (encN k m).take j ++ [encAt k m j] := by
  rw [List.take_succ_eq_append_getElem (by rw [encN_length]; exact h)]
  congr 2
  simp [encN, encAt]
theorem encAt_cell (k m j : Nat) : (m : Int) / 2 ^ (8 * (k - 1 - j)) % 256 = ((encAt k m j).toNat : Int) := by
  unfold encAt
  rw [UInt8.toNat_ofNat', show (256 : Nat) = 2 ^ 8 from rfl, ← Nat.pow_mul]
  rw [Nat.mod_mod, Int.natCast_emod, Int.natCast_ediv, Int.natCast_pow]
  rfl

theorem put_any (base : Nat) (v : Value) (bs : List UInt8) (width n : Int) (w : World) (h : OwnB w base v bs) (hb : base ≤ w.heap.size) (hl : bs.length ≤ 1000000000) (hw : I64 width) (hn : I64 n) :
    Calls Try.prog 77 #[v, .int .i64 width, .int .i64 n] w fun e w' => ∃ v', e = .returned v' ∧ OwnB w' base v' (bs ++ numE width n) ∧ Ext w w' v v' := by
  unfold I64 at hw hn
  have hwd := wideI_bd width
  obtain ⟨k, hk⟩ : ∃ k : Nat, wideI width = (k : Int) := ⟨(wideI width).toNat, by omega⟩
  have hnum : Hid (numE width n = encN k (clampN k n)) := by unfold Hid numE; rw [hk]; rfl
  have hk1 : 1 ≤ k := by omega
  have hk2 : k ≤ 7 := by omega
  go_enter Try.func77, Try.ntmps77
  go_wp2_with fail
  refine (wide_any _ _).mono ?_
  rintro e w1 ⟨rfl, rfl⟩
  rw [hk]
  clear hk hwd
  go_wp2_with fail
  rw [top_eq n k hk1 hk2]
  have hm := clampN_lt k n
  have hp := pow_wide hk2
  generalize clampN k n = m at *
  have hm' : m < 72057594037927936 := by omega
  go_loopw [0, 20] (fun x i wr => ∃ j : Nat, j ≤ k ∧ i = .int .i64 j ∧ OwnB wr base x (bs ++ (encN k m).take j) ∧ Ext w wr v x) (fun _ i _ => k - (intOf i).toNat)
  case atStart => exact ⟨0, Nat.zero_le _, rfl, by simpa using h, Ext.refl _ _⟩
  case round =>
    obtain ⟨j, hj, rfl, hown, hx⟩ := hrel
    by_cases hlt : j < k
    · have hll : (bs ++ (encN k m).take j).length ≤ 1000000007 := by
        have := List.length_take_le j (encN k m)
        simp; omega
      have hbw : base ≤ wr.heap.size := Nat.le_trans hb hx.grown.size
      have h4 : bs ++ (encN k m).take (j + 1) = bs ++ (encN k m).take j ++ [encAt k m j] := by rw [encN_take k m j hlt, List.append_assoc]
      have H4 := Lib.hid h4
      clear h4
      go_wp2_with (at_builtin; refine wpList_appB rfl (.tmp 23) (.tmp 33) rfl base u0 (bs ++ (encN k m).take j) rfl (World.ownsRow.alloc hown _) _ _ _ 1 [encAt k m j] rfl rfl (rd_newB _ _ _ (encAt_cell _ _ _)) (big_one hll) (le_alloc hbw) ?_; intro v' w' h1 h2; rw [← H4.out] at h1; clear H4)
      · go_wp2
        go_roundw
        case rel => refine ⟨j + 1, by omega, by go_num, h1, hx.trans h2.preAlloc⟩
        case measure => simp [intOf]; omega
    · go_wp2
      go_ret
      have hjk : j = k := by omega
      subst hjk
      rw [List.take_of_length_le (by rw [encN_length]; exact Nat.le_refl _)] at hown
      exact ⟨_, rfl, by rw [hnum.out]; exact hown, hx⟩
end Go.Proofs.Ytpgfhbkggchliaa

namespace Go.Proofs.Ytpgfhbkggchliaa
open Go.RowKit
set_option linter.unusedVariables false

theorem numE_length (width n : Int) : (numE width n).length ≤ 7 := by
  unfold numE; rw [encN_length]; have := wideI_bd width; omega

theorem Num_any (D : Nat → Prop) (A : Option Addr) (c : Nat) (head : List UInt8) (width n : Int) (w : World) (h : RdB w D A head) (hl : head.length ≤ 1000000000) (hw : I64 width) (hn : I64 n) :
    Calls Try.prog 49 #[.slice A head.length c, .int .i64 width, .int .i64 n] w fun e w' => ∃ v, e = .returned v ∧ OwnB w' w.heap.size v (head ++ numE width n) ∧ Below w.heap.size w w' := by
  go_enter Try.func49, Try.ntmps49
  go_wp2_with fail
  with_reducible refine (cloneB_any D A c head w h (by unfold big; omega)).mono ?_
  rintro e w1 ⟨v1, rfl, h1, b1⟩
  go_wp2_with fail
  with_reducible refine (put_any w.heap.size v1 head width n w1 h1 b1.size hl hw hn).mono ?_
  rintro e w2 ⟨v2, rfl, h2, x2⟩
  go_wp2_with fail
  go_ret
  exact ⟨v2, rfl, h2, b1.trans (x2.below h1 (Nat.le_refl _) b1.size)⟩

def blobE (x : List UInt8) : List UInt8 := numE 2 (min x.length 65535 : Nat) ++ x.take (min x.length 65535)
theorem min_nat (n : Nat) (m : Int) (hm : 0 ≤ m) : ∃ k : Nat, min (n : Int) m = (k : Int) ∧ k ≤ n ∧ (k : Int) ≤ m ∧ k = min n m.toNat := ⟨min n m.toNat, by omega, by omega, by omega, rfl⟩

theorem Blob_any (D D' : Nat → Prop) (A A' : Option Addr) (c c' : Nat) (head x : List UInt8) (w : World) (h : RdB w D A head) (h' : RdB w D' A' x) (hl : head.length ≤ 1000000000) (hc : x.length ≤ c') (hm : c' ≤ 9223372036854775807) :
    Calls Try.prog 50 #[.slice A head.length c, .slice A' x.length c'] w fun e w' => ∃ v, e = .returned v ∧ OwnB w' w.heap.size v (head ++ blobE x) ∧ Below w.heap.size w w' := by
  obtain ⟨k, hk, hk1, hk2, hk3⟩ := min_nat x.length 65535 (by omega)
  have hx : Hid (head ++ blobE x = head ++ numE 2 k ++ x.take k) := by unfold Hid blobE; rw [show min x.length 65535 = k from hk3.symm, List.append_assoc]
  clear hk3
  have hr := RdB.take h' hk1
  have hkk : k ≤ c' := by omega
  go_enter Try.func50, Try.ntmps50
  go_wp2_with fail
  with_reducible refine (cloneB_any D A c head w h (by unfold big; omega)).mono ?_
  rintro e w1 ⟨v1, rfl, h1, b1⟩
  go_wp2_with fail
  with_reducible refine (put_any w.heap.size v1 head 2 k w1 h1 b1.size hl (by unfold I64; omega) (by unfold I64; omega)).mono ?_
  rintro e w2 ⟨v2, rfl, h2, x2⟩
  have b2 := b1.trans (x2.below h1 (Nat.le_refl _) b1.size)
  have hr2 := hr.below b2
  have hs2 := b2.size
  have hln := numE_length 2 k
  have hll : (head ++ numE 2 k).length + (x.take k).length ≤ big := by unfold big; simp; omega
  have hkl : k = (x.take k).length := by simp; omega
  have HKL := Lib.hid hkl
  clear hkl
  go_wp2_with (at_builtin; refine wpList_appB rfl (.tmp 14) (.tmp 15) rfl w.heap.size v2 (head ++ numE 2 k) rfl h2 D' A' _ _ (x.take k) rfl HKL.out hr2 hll hs2 ?_; intro v' w' h3 h4)
  go_ret
  exact ⟨v', rfl, by rw [hx.out]; exact h3, b2.trans (h4.below h2 (Nat.le_refl _) hs2)⟩

def numsE (width : Int) (l : List Int) : List UInt8 := numE 1 (min l.length 255 : Nat) ++ (l.take (min l.length 255)).flatMap (numE width)
theorem flatMap_len (width : Int) (l : List Int) : (l.flatMap (numE width)).length ≤ 7 * l.length := by
  induction l with
  | nil => simp
  | cons x l ih => have := numE_length width x; simp only [List.flatMap_cons, List.length_append, List.length_cons]; omega
theorem flatMap_take (width : Int) (l : List Int) (j : Nat) (h : j < l.length) : (l.take (j + 1)).flatMap (numE width) = (l.take j).flatMap (numE width) ++ numE width l[j] := by
  rw [List.take_succ_eq_append_getElem h, List.flatMap_append]; simp

end Go.Proofs.Ytpgfhbkggchliaa

namespace Go.Proofs.Ytpgfhbkggchliaa
open Go.RowKit
set_option linter.unusedVariables false

/-! ### a block known whole -/
section
variable {w w' : World} {g : Nat} {t : TypeId} {cs : Array Value}
end

/-! ### the reader -/
abbrev St := List UInt8 × Int
def rFail (x : Int) (s : St) : St := if s.2 = 0 ∧ x ≠ 0 then ([], x) else s
def rTake (n : Nat) (s : St) : List UInt8 × St := if s.2 = 0 then (if s.1.length < n then ([], ([], 10)) else (s.1.take n, (s.1.drop n, 0))) else ([], s)
def bigNat (l : List UInt8) : Nat := l.foldl (fun n c => n * 256 + c.toNat) 0
theorem bigNat_snoc (l : List UInt8) (c : UInt8) : bigNat (l ++ [c]) = bigNat l * 256 + c.toNat := by simp [bigNat]
theorem bigNat_lt (l : List UInt8) : bigNat l < 256 ^ l.length := by
  have : ∀ l : List UInt8, bigNat l.reverse < 256 ^ l.length := by
    intro l
    induction l with
    | nil => simp [bigNat]
    | cons c l ih =>
      rw [List.reverse_cons, bigNat_snoc, List.length_cons, Nat.pow_succ]
      have := c.toNat_lt
      omega
  have h := this l.reverse
  simpa using h
theorem bigNat_take (l : List UInt8) (j : Nat) (h : j < l.length) : bigNat (l.take (j + 1)) = bigNat (l.take j) * 256 + l[j].toNat := by
  rw [List.take_succ_eq_append_getElem h, bigNat_snoc]
theorem ofInt64 (a : Nat) (ha : a < 9223372036854775808) : (BitVec.ofInt 64 (a : Int)).toNat = a := by
  rw [BitVec.ofInt_natCast, BitVec.toNat_ofNat]; exact Nat.mod_eq_of_lt (by omega)
theorem or64 (a b : Nat) (ha : a < 9223372036854775808) (hb : b < 9223372036854775808) : bits .or .i64 (a : Int) (b : Int) = ((a ||| b : Nat) : Int) := by
  have hx : a ||| b < 2 ^ 63 := Nat.or_lt_two_pow (by omega) (by omega)
  show IntKind.i64.wrap ((BitVec.ofInt 64 (a : Int) ||| BitVec.ofInt 64 (b : Int)).toNat : Int) = _
  rw [BitVec.toNat_or, ofInt64 a ha, ofInt64 b hb, IntKind.wrap_i64]
  omega
theorem and64 (a b : Nat) (ha : a < 9223372036854775808) (hb : b < 9223372036854775808) : bits .and .i64 (a : Int) (b : Int) = ((a &&& b : Nat) : Int) := by
  have hx : a &&& b < 2 ^ 63 := Nat.and_lt_two_pow _ (by omega)
  show IntKind.i64.wrap ((BitVec.ofInt 64 (a : Int) &&& BitVec.ofInt 64 (b : Int)).toNat : Int) = _
  rw [BitVec.toNat_and, ofInt64 a ha, ofInt64 b hb, IntKind.wrap_i64]
  omega
theorem or_byte (a c : Nat) (ha : a * 256 ≤ 72057594037927936) (hc : c < 2 ^ 8) : bits .or .i64 ((a : Int) * 256) (c : Int) = ((a * 256 + c : Nat) : Int) := by
  have e : (a : Int) * 256 = ((a * 256 : Nat) : Int) := by omega
  rw [e, or64 _ _ (by omega) (by omega)]
  have h := Nat.two_pow_add_eq_or_of_lt (i := 8) hc a
  rw [Nat.mul_comm a 256]
  exact congrArg _ h.symm
def bigN (l : List UInt8) : Int := (bigNat l : Int)
def rNum (width : Int) (s : St) : Int × St := let t := rTake (wideI width).toNat s; (bigN t.1, t.2)
def rBlob (most : Int) (s : St) : List UInt8 × St :=
  let t := rNum 2 s
  if t.1 > max most 0 then ([], rFail 11 t.2) else rTake t.1.toNat t.2

def Rdr (w : World) (g : Nat) (D : Nat → Prop) (s : St) : Prop :=
  ∃ A c, Blk w g 82 #[.slice A s.1.length c, .int .i64 s.2] ∧ RdB w D A s.1 ∧ s.1.length ≤ c ∧ c ≤ 9223372036854775807 ∧ ¬ D g
theorem Rdr.mod {w w' : World} {g : Nat} {D X : Nat → Prop} {s : St} (h : Rdr w g D s) (hb : Mod X w w') (hg : ¬ X g) (hd : ∀ b, D b → ¬ X b) : Rdr w' g D s := by
  obtain ⟨A, c, h1, h2, h3⟩ := h
  exact ⟨A, c, h1.mod hb hg, Rd.mod h2 hb hd, h3⟩
theorem Rdr.below {w w' : World} {g : Nat} {D : Nat → Prop} {s : St} (h : Rdr w g D s) (hb : Below w.heap.size w w') : Rdr w' g D s :=
  h.mod (Mod.of_below hb (fun _ => False)) id (fun _ _ => id)
theorem Rdr.lt {w : World} {g : Nat} {D : Nat → Prop} {s : St} (h : Rdr w g D s) : g < w.heap.size := by
  obtain ⟨A, c, h1, _⟩ := h
  exact h1.lt

theorem Fail_any (g : Nat) (D : Nat → Prop) (s : St) (x : Int) (w : World) (h : Rdr w g D s) :
    Calls Try.prog 42 #[.pointer (some ⟨g, 0, none⟩), .int .i64 x] w fun e w' => e = .returned (.tuple #[]) ∧ Rdr w' g D (rFail x s) ∧ Mod (· = g) w w' := by
  obtain ⟨A, c, h1, h2, h3, h4, h5⟩ := h
  have c0 := h1.cell 0
  have c1 := h1.cell 1
  have f0 := h1.frozen 0
  have f1 := h1.frozen 1
  simp at c0 c1
  by_cases hs : s.2 = 0
  · by_cases hx : x = 0
    · have e : Hid (rFail x s = s) := by unfold Hid rFail; rw [if_neg]; simp [hx]
      have hb1 : (s.2 == 0) = true := by simp [hs]
      have hb2 : (x != 0) = false := by simp [hx]
      clear hs hx
      go_enter Try.func42, Try.ntmps42
      go_wp2
      go_end0
      exact ⟨rfl, by rw [e.out]; exact ⟨A, c, h1, h2, h3, h4, h5⟩, Mod.refl _ _⟩
    · have e : Hid (rFail x s = ([], x)) := by unfold Hid rFail; rw [if_pos ⟨hs, hx⟩]
      have hb1 : (s.2 == 0) = true := by simp [hs]
      have hb2 : (x != 0) = true := by simp [hx]
      clear hs hx
      go_enter Try.func42, Try.ntmps42
      go_wp2
      go_end0
      refine ⟨rfl, by rw [e.out]; exact ⟨none, 0, (h1.set_ 1 _).set_ 0 _, RdB.nil, by simp, by omega, h5⟩, ?_⟩
      exact ((Mod.refl _ _).setG _ _).setG _ _
  · have e : Hid (rFail x s = s) := by unfold Hid rFail; rw [if_neg]; simp [hs]
    have hb1 : (s.2 == 0) = false := by simp [hs]
    clear hs
    go_enter Try.func42, Try.ntmps42
    go_wp2
    go_end0
    exact ⟨rfl, by rw [e.out]; exact ⟨A, c, h1, h2, h3, h4, h5⟩, Mod.refl _ _⟩

theorem Left_any (g : Nat) (D : Nat → Prop) (s : St) (w : World) (h : Rdr w g D s) :
    Calls Try.prog 72 #[.pointer (some ⟨g, 0, none⟩)] w fun e w' => e = .returned (.int .i64 (s.1.length : Int)) ∧ w = w' := by
  obtain ⟨A, c, h1, h2, h3, h4, h5⟩ := h
  have c0 := h1.cell 0
  simp at c0
  go_enter Try.func72, Try.ntmps72
  go_wp2
  go_ret
  exact ⟨rfl, rfl⟩
theorem Err_any (g : Nat) (D : Nat → Prop) (s : St) (w : World) (h : Rdr w g D s) :
    Calls Try.prog 43 #[.pointer (some ⟨g, 0, none⟩)] w fun e w' => e = .returned (.int .i64 s.2) ∧ w = w' := by
  obtain ⟨A, c, h1, h2, h3, h4, h5⟩ := h
  have c1 := h1.cell 1
  simp at c1
  go_enter Try.func43, Try.ntmps43
  go_wp2
  go_ret
  exact ⟨rfl, rfl⟩
def rEnd (s : St) : St := if s.1.length = 0 then s else rFail 11 s
theorem End_any (g : Nat) (D : Nat → Prop) (s : St) (w : World) (h : Rdr w g D s) :
    Calls Try.prog 44 #[.pointer (some ⟨g, 0, none⟩)] w fun e w' => e = .returned (.int .i64 (rEnd s).2) ∧ Rdr w' g D (rEnd s) ∧ Mod (· = g) w w' := by
  by_cases hs : s.1.length = 0
  · have e : Hid (rEnd s = s) := by unfold Hid rEnd; rw [if_pos hs]
    have hs' : ¬ 0 < s.1.length := by omega
    clear hs
    go_enter Try.func44, Try.ntmps44
    go_wp2_with fail
    refine (Left_any g D s w h).mono ?_
    rintro e w' ⟨rfl, rfl⟩
    go_wp2_with fail
    refine (Err_any g D s w h).mono ?_
    rintro e w' ⟨rfl, rfl⟩
    go_wp2_with fail
    go_ret
    exact ⟨by rw [e.out]; rfl, by rw [e.out]; exact h, Mod.refl _ _⟩
  · have e : Hid (rEnd s = rFail 11 s) := by unfold Hid rEnd; rw [if_neg hs]
    have hs' : 0 < s.1.length := by omega
    clear hs
    go_enter Try.func44, Try.ntmps44
    go_wp2_with fail
    refine (Left_any g D s w h).mono ?_
    rintro e w' ⟨rfl, rfl⟩
    go_wp2_with fail
    refine (Fail_any g D s 11 w h).mono ?_
    rintro e w1 ⟨rfl, h1, m1⟩
    go_wp2_with fail
    refine (Err_any g D _ w1 h1).mono ?_
    rintro e w' ⟨rfl, rfl⟩
    go_wp2_with fail
    go_ret
    exact ⟨by rw [e.out]; rfl, by rw [e.out]; exact h1, m1⟩

theorem Read_any (D : Nat → Prop) (A : Option Addr) (c : Nat) (bs : List UInt8) (w : World) (h : RdB w D A bs) (hl : bs.length ≤ big) :
    Calls Try.prog 39 #[.slice A bs.length c] w fun e w' => ∃ g, e = .returned (.pointer (some ⟨g, 0, none⟩)) ∧ Rdr w' g (fun b => w.heap.size ≤ b ∧ b ≠ g) (bs, 0) ∧ w.heap.size ≤ g ∧ Below w.heap.size w w' := by
  go_enter Try.func39, Try.ntmps39
  go_wp2_with fail
  refine (cloneB_any D A c bs w h hl).mono ?_
  rintro e w1 ⟨v1, rfl, h1, b1⟩
  obtain ⟨A1, c1, rfl, hc1, hc2⟩ := h1.form
  go_wp2_with fail
  go_ret
  refine ⟨_, rfl, ⟨A1, c1, Blk.new _ _ _, Rd.alloc (Rd.imp h1.rd (fun b hb hd => ⟨hd.1, by omega⟩) (by omega)) _, hc1, hc2, by simp⟩, b1.size, b1.alloc b1.size _⟩

theorem sub_str_len {n : Nat} {s : List UInt8} (h : n ≤ s.length) : s.length - n = (s.drop n).length := by simp

theorem take_any (g : Nat) (D : Nat → Prop) (s : St) (n : Nat) (w : World) (h : Rdr w g D s) (hn : n ≤ big) :
    Calls Try.prog 68 #[.pointer (some ⟨g, 0, none⟩), .int .i64 (n : Int), .func (.func 42) #[.pointer (some ⟨g, 0, none⟩)] #[]] w
      fun e w' => ∃ v, e = .returned v ∧ OwnB w' w.heap.size v (rTake n s).1 ∧ Rdr w' g D (rTake n s).2 ∧ Mod (· = g) w w' := by
  obtain ⟨A, c, h1, h2, h3, h4, h5⟩ := id h
  have c0 := h1.cell 0
  have c1 := h1.cell 1
  have f0 := h1.frozen 0
  simp at c0 c1
  have hn' : n ≤ 9223372036854775807 := by unfold big at hn; omega
  by_cases hs : s.2 = 0
  · have hb1 : (s.2 != 0) = false := by simp [hs]
    have HS := Lib.hid hs
    by_cases hl : s.1.length < n
    · have e : Hid (rTake n s = ([], ([], 10))) := by unfold Hid rTake; rw [if_pos hs, if_pos hl]
      have e2 : Hid (rFail 10 s = ([], 10)) := by unfold Hid rFail; rw [if_pos ⟨hs, by omega⟩]
      clear hs
      go_enter Try.func68, Try.ntmps68
      go_wp2_with fail
      with_reducible refine (Fail_any g D s 10 w h).mono ?_
      rintro e w1 ⟨rfl, h1', m1⟩
      go_wp2_with fail
      go_ret
      exact ⟨_, rfl, by rw [e.out]; exact OwnB.nil, by rw [e.out]; rw [e2.out] at h1'; exact h1', m1⟩
    · have e : Hid (rTake n s = (s.1.take n, (s.1.drop n, 0))) := by unfold Hid rTake; rw [if_pos hs, if_neg hl]
      clear hs
      have hnl : n ≤ s.1.length := by omega
      have hcn : n ≤ c := by omega
      have hd := h2.drop hnl h3
      have hsl := sub_str_len hnl
      have HSL := Lib.hid hsl
      clear hsl hl
      go_enter Try.func68, Try.ntmps68
      have hgs := h1.lt
      have hne : Hid ((w.heap.size : Nat) ≠ g) := by unfold Hid; omega
      go_wp2_with first | (at_make; refine wpList_makeB rfl (.tmp 26) (.tmp 26) rfl w.heap.size n rfl rfl hn (Nat.le_refl _) ?_; intro w1 o1 b1; have h1' := h1.below b1; have c0 := h1'.cell 0; have f0 := h1'.frozen 0; simp at c0) | (with_reducible show wpList _ _ _ _ _ _; refine wpList_copyB rfl (.tmp 28) (.tmp 32) rfl w.heap.size (.slice (some ⟨w.heap.size, 0, none⟩) n n) (List.replicate n 0) rfl o1 D A _ c s.1 rfl rfl (h2.below b1) ?_; intro w2 o2 g2; have h2' := h1'.grownS g2 hne.out; have c0 := h2'.cell 0; have f0 := h2'.frozen 0; simp at c0)
      go_ret
      have m2 : Mod (· = g) w w2 := (Mod.of_below b1 _).then_ (Mod.of_grown (X := fun k => k = w.heap.size) g2 (fun k hk => .inl (by simpa [Value.ownBlock] using hk.symm))) (fun i hi hx => by omega)
      refine ⟨_, rfl, ?_, ?_, m2.setG _ _⟩
      · rw [e.out]
        have : s.1.take (List.replicate n (0 : UInt8)).length ++ (List.replicate n (0 : UInt8)).drop s.1.length = s.1.take n := by simp; omega
        rw [this] at o2
        exact ownsRow_setCell_below o2 hgs _
      · rw [e.out]
        have hb := h2'.set_ 0 (.slice (cutA A n c 1) (s.1.length - n) (c - n))
        refine ⟨cutA A n c 1, c - n, ?_, ?_, ?_, ?_, h5⟩
        · rw [← HSL.out, ← HS.out]; exact hb
        · exact Rd.mod hd (m2.setG _ _) (fun b hb hx => h5 (hx ▸ hb))
        · rw [← HSL.out]; omega
        · omega
  · have e : Hid (rTake n s = ([], s)) := by unfold Hid rTake; rw [if_neg hs]
    have hb1 : (s.2 != 0) = true := by simp [hs]
    clear hs
    go_enter Try.func68, Try.ntmps68
    go_wp2_with fail
    go_ret
    exact ⟨_, rfl, by rw [e.out]; exact OwnB.nil, by rw [e.out]; exact h, Mod.refl _ _⟩

theorem Num_any' (g : Nat) (D : Nat → Prop) (s : St) (width : Int) (w : World) (h : Rdr w g D s) :
    Calls Try.prog 40 #[.pointer (some ⟨g, 0, none⟩), .int .i64 width] w
      fun e w' => e = .returned (.int .i64 (rNum width s).1) ∧ Rdr w' g D (rNum width s).2 ∧ Mod (· = g) w w' := by
  have hwd := wideI_bd width
  obtain ⟨k, hk⟩ : ∃ k : Nat, wideI width = (k : Int) := ⟨(wideI width).toNat, by omega⟩
  have hk2 : k ≤ 7 := by omega
  have e : Hid (rNum width s = (bigN (rTake k s).1, (rTake k s).2)) := by unfold Hid rNum; rw [hk]; rfl
  have hlen : (rTake k s).1.length ≤ k := by unfold rTake; split <;> (try split) <;> simp <;> omega
  go_enter Try.func40, Try.ntmps40
  go_wp2_with fail
  with_reducible refine (wide_any _ _).mono ?_
  rintro e w1 ⟨rfl, rfl⟩
  rw [hk]
  clear hk hwd
  go_wp2_with fail
  with_reducible refine (take_any g D s k w h (by unfold big; omega)).mono ?_
  rintro e w1 ⟨v1, rfl, o1, r1, m1⟩
  obtain ⟨A1, c1, rfl, hc1, hc2⟩ := o1.form
  have hr := o1.rd
  generalize (rTake k s).1 = t at *
  generalize (rTake k s).2 = s' at *
  have hk63 : (256 : Nat) ^ t.length ≤ 72057594037927936 := pow_wide (by omega)
  go_wp2_with fail
  go_loopw [5, 15] (fun n i wr => ∃ j : Nat, j ≤ t.length ∧ i = .int .i64 j ∧ n = .int .i64 (bigNat (t.take j)) ∧ w1 = wr) (fun _ i _ => t.length - (intOf i).toNat)
  case atStart => exact ⟨0, Nat.zero_le _, rfl, rfl, rfl⟩
  case round =>
    obtain ⟨j, hj, rfl, rfl, rfl⟩ := hrel
    by_cases hlt : j < t.length
    · obtain ⟨ad, rfl, _, hcell⟩ := hr.at_ hlt
      have hb := bigNat_lt (t.take j)
      have hp : 256 ^ (t.take j).length * 256 ≤ 72057594037927936 := by
        have : 256 ^ ((t.take j).length + 1) ≤ 256 ^ t.length := Nat.pow_le_pow_right (by omega) (by simp; omega)
        rw [Nat.pow_succ] at this
        omega
      have hb' : bigNat (t.take j) * 256 ≤ 72057594037927936 := Nat.le_of_lt (Nat.lt_of_lt_of_le (Nat.mul_lt_mul_of_pos_right hb (by decide)) hp)
      have hu := t[j].toNat_lt
      clear hb hp
      go_wp2
      go_roundw
      case rel => exact ⟨j + 1, by omega, by go_num, congrArg (Value.int .i64) ((or_byte (bigNat (t.take j)) t[j].toNat hb' hu).trans (congrArg Int.ofNat (bigNat_take t j hlt).symm)), trivial⟩
      case measure => simp [intOf]; omega
    · go_wp2
      go_ret
      obtain rfl : j = t.length := by omega
      refine ⟨by rw [e.out]; simp [bigN], by rw [e.out]; exact r1, m1⟩

theorem rNum_bd (width : Int) (s : St) : 0 ≤ (rNum width s).1 ∧ (rNum width s).1 < 72057594037927936 := by
  have hwd := wideI_bd width
  have h1 := bigNat_lt (rTake (wideI width).toNat s).1
  have h2 : (rTake (wideI width).toNat s).1.length ≤ 7 := by unfold rTake; split <;> (try split) <;> simp <;> omega
  have h3 := pow_wide h2
  unfold rNum bigN
  simp only
  omega

theorem Blob_any' (g : Nat) (D : Nat → Prop) (s : St) (most : Int) (w : World) (h : Rdr w g D s) :
    Calls Try.prog 70 #[.pointer (some ⟨g, 0, none⟩), .int .i64 most] w
      fun e w' => ∃ v, e = .returned v ∧ OwnB w' w.heap.size v (rBlob most s).1 ∧ Rdr w' g D (rBlob most s).2 ∧ Mod (· = g) w w' := by
  have hbd : 0 ≤ (rNum 2 s).1 ∧ (rNum 2 s).1 ≤ 65535 := by
    have h1 := bigNat_lt (rTake (wideI 2).toNat s).1
    have h2 : (rTake (wideI 2).toNat s).1.length ≤ 2 := by unfold rTake; split <;> (try split) <;> simp [wideI] <;> omega
    have h3 : 256 ^ (rTake (wideI 2).toNat s).1.length ≤ 256 ^ 2 := Nat.pow_le_pow_right (by omega) h2
    unfold rNum bigN
    simp only
    omega
  obtain ⟨n, hn⟩ : ∃ n : Nat, (rNum 2 s).1 = (n : Int) := ⟨_, (Int.toNat_of_nonneg hbd.1).symm⟩
  have hn63 : n ≤ 65535 := by omega
  clear hbd
  by_cases hm : (rNum 2 s).1 > max most 0
  · have e : Hid (rBlob most s = ([], rFail 11 (rNum 2 s).2)) := by unfold Hid rBlob; simp only; rw [if_pos hm]
    have hne : Hid ((rFail 11 (rNum 2 s).2).2 ≠ 0) := by
      unfold Hid rFail; split
      · simp
      · rename_i h; simpa using h
    rw [hn] at hm
    go_enter Try.func70, Try.ntmps70
    go_wp2_with fail
    with_reducible refine (Num_any' g D s 2 w h).mono ?_
    rintro e w1 ⟨rfl, r1, m1⟩
    rw [hn]
    clear hn
    go_wp2_with fail
    with_reducible refine (Fail_any g D _ 11 w1 r1).mono ?_
    rintro e w2 ⟨rfl, r2, m2⟩
    go_wp2_with fail
    with_reducible refine (take_any g D _ n w2 r2 (by unfold big; omega)).mono ?_
    rintro e w3 ⟨v3, rfl, o3, r3, m3⟩
    go_wp2_with fail
    go_ret
    have e4 : rTake n (rFail 11 (rNum 2 s).2) = ([], rFail 11 (rNum 2 s).2) := by unfold rTake; rw [if_neg hne.out]
    rw [e4] at o3 r3
    exact ⟨_, rfl, by rw [e.out]; exact o3.low (by have := m1.size; have := m2.size; omega), by rw [e.out]; exact r3, (m1.trans m2).trans m3⟩
  · have e : Hid (rBlob most s = rTake n (rNum 2 s).2) := by unfold Hid rBlob; simp only; rw [if_neg hm, hn]; rfl
    rw [hn] at hm
    go_enter Try.func70, Try.ntmps70
    go_wp2_with fail
    with_reducible refine (Num_any' g D s 2 w h).mono ?_
    rintro e w1 ⟨rfl, r1, m1⟩
    rw [hn]
    clear hn
    go_wp2_with fail
    with_reducible refine (take_any g D _ n w1 r1 (by unfold big; omega)).mono ?_
    rintro e w3 ⟨v3, rfl, o3, r3, m3⟩
    go_wp2_with fail
    go_ret
    exact ⟨_, rfl, by rw [e.out]; exact o3.low m1.size, by rw [e.out]; exact r3, m1.trans m3⟩
end Go.Proofs.Ytpgfhbkggchliaa

namespace Go.Proofs.Ytpgfhbkggchliaa
open Go.RowKit
set_option linter.unusedVariables false

def decN (w k : Nat) (bs : List UInt8) : List Int := (List.range k).map fun i => bigN ((bs.drop (i * w)).take w)
theorem decN_succ (w k : Nat) (bs : List UInt8) : decN w (k + 1) bs = decN w k bs ++ [bigN ((bs.drop (k * w)).take w)] := by simp [decN, List.range_succ]
theorem decN_length (w k : Nat) (bs : List UInt8) : (decN w k bs).length = k := by simp [decN]
def rNums (width most : Int) (s : St) : List Int × St :=
  let t := rNum 1 s
  if t.1 > max most 0 then ([], rFail 11 t.2) else
    let u := rTake (t.1.toNat * (wideI width).toNat) t.2
    (decN (wideI width).toNat (u.1.length / (wideI width).toNat) u.1, u.2)

theorem rNum_one (w : Nat) (h1 : 1 ≤ w) (h2 : w ≤ 7) (bs : List UInt8) (hl : bs.length = w) : (rNum w (bs, 0)).1 = bigN bs := by
  unfold rNum rTake wideI
  simp only [if_true]
  rw [show (min (max (w : Int) 1) 7).toNat = w from by omega, if_neg (by omega), List.take_of_length_le (by omega)]

theorem bigI_one {a : Nat} {b : Int} (h : a ≤ 1785) : a + [b].length ≤ big := by unfold big; simp only [List.length_singleton]; omega

end Go.Proofs.Ytpgfhbkggchliaa

namespace Go.Proofs.Ytpgfhbkggchliaa
open Go.RowKit
set_option linter.unusedVariables false

section
variable {w : World} {base g c : Nat} {bs : List UInt8} {zs : List Int}
theorem OwnB.at_ (h : OwnB w base (.slice (some ⟨g, 0, none⟩) bs.length c) bs) {i : Nat} (hi : i < bs.length) : w.cell? ⟨g, i, none⟩ = some (.int .u8 ((bs[i]).toNat : Int)) := by
  rw [World.ownsRow.cellAt h i (by omega)]
  simp [hi, cB]
theorem OwnB.free (h : OwnB w base (.slice (some ⟨g, 0, none⟩) bs.length c) bs) (i : Nat) : w.frozen? ⟨g, i, none⟩ = false := World.ownsRow.frozenAt h i
theorem OwnB.store (h : OwnB w base (.slice (some ⟨g, 0, none⟩) bs.length c) bs) (i : Nat) (b : UInt8) : OwnB (w.setCell ⟨g, i, none⟩ (.int .u8 (b.toNat : Int))) base (.slice (some ⟨g, 0, none⟩) bs.length c) (bs.set i b) := by
  have := (World.ownsRow.stored h i (cB b)).1
  unfold OwnB
  rw [List.length_set, List.map_set]
  exact this
theorem OwnI.at_ (h : OwnI w base (.slice (some ⟨g, 0, none⟩) zs.length c) zs) {i : Nat} (hi : i < zs.length) : w.cell? ⟨g, i, none⟩ = some (.int .i64 (zs[i])) := by
  rw [World.ownsRow.cellAt h i (by omega)]
  simp [hi, cI]
theorem OwnI.free (h : OwnI w base (.slice (some ⟨g, 0, none⟩) zs.length c) zs) (i : Nat) : w.frozen? ⟨g, i, none⟩ = false := World.ownsRow.frozenAt h i
theorem OwnI.store (h : OwnI w base (.slice (some ⟨g, 0, none⟩) zs.length c) zs) (i : Nat) (b : Int) : OwnI (w.setCell ⟨g, i, none⟩ (.int .i64 b)) base (.slice (some ⟨g, 0, none⟩) zs.length c) (zs.set i b) := by
  have := (World.ownsRow.stored h i (cI b)).1
  unfold OwnI
  rw [List.length_set, List.map_set]
  exact this
end

theorem rwide_any (n : Int) (w : World) :
    Calls Try.prog 74 #[.int .i64 n] w fun e w' => e = .returned (.int .i64 (wideI n)) ∧ w = w' := by
  go_enter Try.func74, Try.ntmps74
  go_wp2
  go_ret
  exact ⟨rfl, rfl⟩

theorem rmost_any (k : Nat) (w : World) (h2 : k ≤ 7) :
    Calls Try.prog 79 #[.int .i64 (k : Int)] w fun e w' => e = .returned (.int .i64 ((256 ^ k - 1 : Nat) : Int)) ∧ w = w' := by
  have hp := pow_wide h2
  go_enter Try.func79, Try.ntmps79
  go_wp2
  go_loop [3, 4] (fun n i => ∃ j : Nat, j ≤ k ∧ i = .int .i64 (j : Int) ∧ n = .int .i64 ((256 ^ j : Nat) : Int)) (fun _ i => k - (intOf i).toNat)
  case atStart => exact ⟨0, Nat.zero_le _, rfl, rfl⟩
  case round =>
    obtain ⟨j, hj, rfl, rfl⟩ := hrel
    by_cases hlt : j < k
    · have hq : 256 ^ j * 256 ≤ 72057594037927936 := by
        rw [← Nat.pow_succ]
        exact Nat.le_trans (Nat.pow_le_pow_right (by omega) hlt) hp
      have H4 : Hid (256 ^ (j + 1) = 256 ^ j * 256) := Nat.pow_succ ..
      generalize 256 ^ j = q at *
      clear hp
      go_wp2
      go_round
      case rel => exact ⟨j + 1, by omega, by go_num, by rw [H4.out]; go_num⟩
      case measure => first | (simp [intOf]; omega) | simp [intOf]
    · obtain rfl : j = k := by omega
      have hq : 0 < 256 ^ j := Nat.pow_pos (by omega)
      generalize hQ : 256 ^ j = q at *
      have HQ := Lib.hid hQ
      clear hQ
      go_wp2
      go_ret
      exact ⟨ret_int (by rw [HQ.out]; omega), rfl⟩

theorem clamp_eq (n : Int) (k : Nat) : min (max n 0) (((256 ^ k - 1 : Nat) : Int)) = (clampN k n : Int) := by unfold clampN; omega
theorem div_pow_succ (m j : Nat) : m / 256 ^ j / 256 = m / 256 ^ (j + 1) := by rw [Nat.div_div_eq_div_mul, Nat.pow_succ]
theorem encN_getElem (k m i : Nat) (h : i < k) : (encN k m)[i]'(by rw [encN_length]; exact h) = encAt k m i := by simp [encN, encAt]
theorem byte_cell (q : Nat) : (q : Int) % 256 = ((UInt8.ofNat (q % 256)).toNat : Int) := by
  rw [UInt8.toNat_ofNat']
  have : q % 256 % 2 ^ 8 = q % 256 := Nat.mod_mod _ _
  rw [this]; rfl

theorem rNumE_any (width n : Int) (w : World) (hn : I64 n) :
    Calls Try.prog 52 #[.int .i64 width, .int .i64 n] w fun e w' => ∃ v, e = .returned v ∧ OwnB w' w.heap.size v (numE width n) ∧ Below w.heap.size w w' := by
  unfold I64 at hn
  have hwd := wideI_bd width
  obtain ⟨k, hk⟩ : ∃ k : Nat, wideI width = (k : Int) := ⟨(wideI width).toNat, by omega⟩
  have hnum : Hid (numE width n = encN k (clampN k n)) := by unfold Hid numE; rw [hk]; rfl
  have hk1 : 1 ≤ k := by omega
  have hk2 : k ≤ 7 := by omega
  have hm := clampN_lt k n
  have hp := pow_wide hk2
  have hm' : clampN k n < 72057594037927936 := Nat.lt_of_lt_of_le hm hp
  clear hm hp
  go_enter Try.func52, Try.ntmps52
  go_wp2_with fail
  with_reducible refine (rwide_any _ _).mono ?_
  rintro e w1 ⟨rfl, rfl⟩
  rw [hk]
  clear hk hwd
  go_wp2_with fail
  with_reducible refine (rmost_any k _ hk2).mono ?_
  rintro e w1 ⟨rfl, rfl⟩
  have hcl := clamp_eq n k
  generalize 256 ^ k - 1 = top at *
  generalize clampN k n = m at *
  go_wp2_with (at_make; refine wpList_makeB rfl (.tmp 15) (.tmp 15) rfl w.heap.size k rfl rfl (by unfold big; omega) (Nat.le_refl _) ?_; intro w1 o1 b1)
  go_loopw [1, 7] (fun x i wr => ∃ (j q : Nat) (bs : List UInt8), j ≤ k ∧ i = .int .i64 ((k : Int) - 1 - j) ∧ x = .int .i64 (q : Int) ∧ q < 72057594037927936 ∧ bs.length = k ∧ OwnB wr w.heap.size (.slice (some ⟨w.heap.size, 0, none⟩) k k) bs ∧ Below w.heap.size w wr ∧ Hid (q = m / 256 ^ j ∧ ∀ i, k - j ≤ i → i < k → bs[i]? = some (encAt k m i))) (fun _ i _ => (intOf i + 1).toNat)
  case atStart => exact ⟨0, m, _, Nat.zero_le _, by simp, rfl, hm', by simp, o1, b1, ⟨by simp, fun i h1 h2 => by omega⟩⟩
  case round =>
    obtain ⟨j, q, bs, hj, rfl, rfl, hq, hbl, hown, hb, HH⟩ := hrel
    have HL := Lib.hid hbl
    by_cases hlt : j < k
    · have hi : k - 1 - j < bs.length := by omega
      obtain ⟨p, hp⟩ : ∃ p : Nat, (k : Int) - 1 - j = (p : Int) := ⟨k - 1 - j, by omega⟩
      have hpk : p = k - 1 - j := by omega
      rw [hp]
      have HP := Lib.hid hpk
      have hp1 : p < k := by omega
      rw [← hpk] at hi
      clear hpk hp
      rw [← HL.out] at hown
      have c0 := hown.at_ hi
      have f0 := hown.free p
      clear hbl
      go_wp2
      go_roundw
      case rel =>
        refine ⟨j + 1, q / 256, bs.set p (UInt8.ofNat (q % 256)), by omega, congrArg _ (by have := HP.out; omega), by go_num, by omega, by rw [List.length_set]; exact HL.out, ?_, hb.setCell (Nat.le_refl _) _, ?_, ?_⟩
        · have := hown.store p (UInt8.ofNat (q % 256))
          rw [← byte_cell] at this
          rw [HL.out] at this
          exact this
        · rw [HH.out.1, div_pow_succ]
        · intro i h1 h2
          have hpk := HP.out
          by_cases he : i = p
          · subst he
            rw [List.getElem?_set_self (by have := HL.out; omega)]
            congr 1
            unfold encAt
            rw [HH.out.1]
            have : k - 1 - i = j := by omega
            rw [this]
          · rw [List.getElem?_set_ne (by omega)]
            exact HH.out.2 i (by omega) h2
      case measure => first | (simp [intOf]; omega) | simp [intOf]
    · obtain rfl : j = k := by omega
      clear hbl
      have hz : ((j : Int) - 1 - j) = -1 := by omega
      rw [hz]
      clear hz
      go_wp2
      go_ret
      refine ⟨_, rfl, ?_, hb⟩
      rw [hnum.out]
      have hbs : bs = encN j m := by
        apply List.ext_getElem?
        intro i
        by_cases hi : i < j
        · rw [HH.out.2 i (by omega) hi, List.getElem?_eq_getElem (by rw [encN_length]; exact hi), encN_getElem _ _ _ hi]
        · rw [List.getElem?_eq_none (by have := HL.out; omega), List.getElem?_eq_none (by rw [encN_length]; omega)]
      rw [← hbs]
      exact hown

theorem i64_small {z : Int} (h1 : 0 ≤ z) (h2 : z ≤ 72057594037927936) : I64 z := ⟨by omega, by omega⟩

set_option maxRecDepth 100000 in
theorem rBlobE_any (D : Nat → Prop) (A : Option Addr) (c : Nat) (x : List UInt8) (w : World) (h : RdB w D A x) (hc : x.length ≤ c) (hm : c ≤ 9223372036854775807) :
    Calls Try.prog 53 #[.slice A x.length c] w fun e w' => ∃ v, e = .returned v ∧ OwnB w' w.heap.size v (blobE x) ∧ Below w.heap.size w w' := by
  obtain ⟨k, hk⟩ : ∃ k : Nat, min x.length 65535 = k := ⟨_, rfl⟩
  have hx : Hid (blobE x = numE 2 k ++ x.take k) := by unfold Hid blobE; rw [hk]
  have hr := RdB.take h (k := k) (by omega)
  have hln := numE_length 2 k
  by_cases hl : 65535 < x.length
  · obtain rfl : k = 65535 := by omega
    have hkl : Hid ((65535 : Nat) = (x.take 65535).length) := by unfold Hid; rw [List.length_take]; omega
    have hll : (numE 2 (65535 : Nat)).length + (x.take 65535).length ≤ big := Nat.le_trans (Nat.add_le_add hln (List.length_take_le _ _)) (by decide)
    clear hk h
    generalize x.take 65535 = y at *
    go_enter Try.func53, Try.ntmps53
    go_wp2_with fail
    with_reducible refine (rNumE_any 2 65535 w (i64_small (by omega) (by omega))).mono ?_
    rintro e w1 ⟨v1, rfl, o1, b1⟩
    have hr1 := hr.below b1
    have hs1 := b1.size
    go_wp2_with (at_builtin; refine wpList_appB rfl (.tmp 12) (.tmp 13) rfl w.heap.size v1 (numE 2 (65535 : Nat)) rfl o1 D A _ _ y rfl hkl.out hr1 hll hs1 ?_; intro v' w' h3 h4)
    go_ret
    exact ⟨_, rfl, by rw [hx.out]; exact h3, b1.trans (h4.below o1 (Nat.le_refl _) hs1)⟩
  · obtain rfl : k = x.length := by omega
    have hll : (numE 2 x.length).length + x.length ≤ big := by unfold big; omega
    have hx2 : Hid (blobE x = numE 2 x.length ++ x) := by unfold Hid; rw [hx.out, List.take_of_length_le (Nat.le_refl _)]
    clear hk hr hx
    go_enter Try.func53, Try.ntmps53
    go_wp2_with fail
    with_reducible refine (rNumE_any 2 x.length w (i64_small (by omega) (by omega))).mono ?_
    rintro e w1 ⟨v1, rfl, o1, b1⟩
    have hr1 := h.below b1
    have hs1 := b1.size
    go_wp2_with (at_builtin; refine wpList_appB rfl (.tmp 12) (.tmp 13) rfl w.heap.size v1 (numE 2 x.length) rfl o1 D A _ _ x rfl rfl hr1 hll hs1 ?_; intro v' w' h3 h4)
    go_ret
    exact ⟨_, rfl, by rw [hx2.out]; exact h3, b1.trans (h4.below o1 (Nat.le_refl _) hs1)⟩

end Go.Proofs.Ytpgfhbkggchliaa

namespace Go.Proofs.Ytpgfhbkggchliaa
open Go.RowKit
set_option linter.unusedVariables false

section
variable {w w' : World} {X : Nat → Prop} {base : Nat} {v : Value}
theorem own_mod {e : TypeId} {size n : Nat} {xs : List Value} (h : w.ownsRow base e size v n xs) (hb : Mod X w w') (hx : ∀ k, base ≤ k → ¬ X k) : w'.ownsRow base e size v n xs := by
  refine ⟨h.1, ?_⟩
  rcases h.2 with h0 | ⟨g, cap, cur, hv, hg, hh, r⟩
  · exact .inl h0
  · exact .inr ⟨g, cap, cur, hv, hg, by rw [hb.block g (Array.getElem?_eq_some_iff.1 hh).1 (hx g hg)]; exact hh, r⟩
theorem OwnB.mod {bs : List UInt8} (h : OwnB w base v bs) (hb : Mod X w w') (hx : ∀ k, base ≤ k → ¬ X k) : OwnB w' base v bs := own_mod h hb hx
theorem OwnI.mod {zs : List Int} (h : OwnI w base v zs) (hb : Mod X w w') (hx : ∀ k, base ≤ k → ¬ X k) : OwnI w' base v zs := own_mod h hb hx
end

/-! ### the reference's reader -/
def RdR (w : World) (g : Nat) (D : Nat → Prop) (s : St) : Prop :=
  ∃ A c, Blk w g 66 #[.slice A s.1.length c, .int .i64 s.2] ∧ RdB w D A s.1 ∧ s.1.length ≤ c ∧ c ≤ 9223372036854775807 ∧ ¬ D g
theorem RdR.mod {w w' : World} {g : Nat} {D X : Nat → Prop} {s : St} (h : RdR w g D s) (hb : Mod X w w') (hg : ¬ X g) (hd : ∀ b, D b → ¬ X b) : RdR w' g D s := by
  obtain ⟨A, c, h1, h2, h3⟩ := h
  exact ⟨A, c, h1.mod hb hg, Rd.mod h2 hb hd, h3⟩
theorem RdR.below {w w' : World} {g : Nat} {D : Nat → Prop} {s : St} (h : RdR w g D s) (hb : Below w.heap.size w w') : RdR w' g D s :=
  h.mod (Mod.of_below hb (fun _ => False)) id (fun _ _ => id)
theorem RdR.lt {w : World} {g : Nat} {D : Nat → Prop} {s : St} (h : RdR w g D s) : g < w.heap.size := by
  obtain ⟨A, c, h1, _⟩ := h
  exact h1.lt

theorem rFail_any (g : Nat) (D : Nat → Prop) (s : St) (x : Int) (w : World) (h : RdR w g D s) :
    Calls Try.prog 47 #[.pointer (some ⟨g, 0, none⟩), .int .i64 x] w fun e w' => e = .returned (.tuple #[]) ∧ RdR w' g D (rFail x s) ∧ Mod (· = g) w w' := by
  obtain ⟨A, c, h1, h2, h3, h4, h5⟩ := h
  have c0 := h1.cell 0
  have c1 := h1.cell 1
  have f0 := h1.frozen 0
  have f1 := h1.frozen 1
  simp at c0 c1
  by_cases hs : s.2 = 0
  · by_cases hx : x = 0
    · have e : Hid (rFail x s = s) := by unfold Hid rFail; rw [if_neg]; simp [hx]
      have hb1 : (s.2 == 0) = true := by simp [hs]
      have hb2 : (x != 0) = false := by simp [hx]
      clear hs hx
      go_enter Try.func47, Try.ntmps47
      go_wp2
      go_end0
      exact ⟨rfl, by rw [e.out]; exact ⟨A, c, h1, h2, h3, h4, h5⟩, Mod.refl _ _⟩
    · have e : Hid (rFail x s = ([], x)) := by unfold Hid rFail; rw [if_pos ⟨hs, hx⟩]
      have hb1 : (s.2 == 0) = true := by simp [hs]
      have hb2 : (x != 0) = true := by simp [hx]
      clear hs hx
      go_enter Try.func47, Try.ntmps47
      go_wp2
      go_end0
      exact ⟨rfl, by rw [e.out]; exact ⟨none, 0, (h1.set_ 1 _).set_ 0 _, RdB.nil, by simp, by omega, h5⟩, ((Mod.refl _ _).setG _ _).setG _ _⟩
  · have e : Hid (rFail x s = s) := by unfold Hid rFail; rw [if_neg]; simp [hs]
    have hb1 : (s.2 == 0) = false := by simp [hs]
    clear hs
    go_enter Try.func47, Try.ntmps47
    go_wp2
    go_end0
    exact ⟨rfl, by rw [e.out]; exact ⟨A, c, h1, h2, h3, h4, h5⟩, Mod.refl _ _⟩

theorem rEnd_any (g : Nat) (D : Nat → Prop) (s : St) (w : World) (h : RdR w g D s) :
    Calls Try.prog 48 #[.pointer (some ⟨g, 0, none⟩)] w fun e w' => e = .returned (.int .i64 (rEnd s).2) ∧ RdR w' g D (rEnd s) ∧ Mod (· = g) w w' := by
  obtain ⟨A, c, h1, h2, h3, h4, h5⟩ := id h
  have c0 := h1.cell 0
  have c1 := h1.cell 1
  simp at c0 c1
  by_cases hs : s.1.length = 0
  · have e : Hid (rEnd s = s) := by unfold Hid rEnd; rw [if_pos hs]
    have hs' : ¬ 0 < s.1.length := by omega
    clear hs
    go_enter Try.func48, Try.ntmps48
    go_wp2_with fail
    go_ret
    exact ⟨by rw [e.out]; rfl, by rw [e.out]; exact h, Mod.refl _ _⟩
  · have e : Hid (rEnd s = rFail 11 s) := by unfold Hid rEnd; rw [if_neg hs]
    have hs' : 0 < s.1.length := by omega
    clear hs
    go_enter Try.func48, Try.ntmps48
    go_wp2_with fail
    with_reducible refine (rFail_any g D s 11 w h).mono ?_
    rintro e w1 ⟨rfl, r1, m1⟩
    obtain ⟨A', c', h1', _⟩ := id r1
    have c1' := h1'.cell 1
    simp at c1'
    go_wp2_with fail
    go_ret
    exact ⟨by rw [e.out]; rfl, by rw [e.out]; exact r1, m1⟩

theorem rtake_any (g : Nat) (D : Nat → Prop) (s : St) (n : Nat) (w : World) (h : RdR w g D s) (hn : n ≤ big) :
    Calls Try.prog 73 #[.pointer (some ⟨g, 0, none⟩), .int .i64 (n : Int)] w
      fun e w' => ∃ A c, e = .returned (.slice A (rTake n s).1.length c) ∧ RdB w' D A (rTake n s).1 ∧ (rTake n s).1.length ≤ c ∧ c ≤ 9223372036854775807 ∧ RdR w' g D (rTake n s).2 ∧ Mod (· = g) w w' := by
  obtain ⟨A, c, h1, h2, h3, h4, h5⟩ := id h
  have c0 := h1.cell 0
  have c1 := h1.cell 1
  have f0 := h1.frozen 0
  simp at c0 c1
  have hn' : n ≤ 9223372036854775807 := by unfold big at hn; omega
  by_cases hs : s.2 = 0
  · have hb1 : (s.2 != 0) = false := by simp [hs]
    have HS := Lib.hid hs
    by_cases hl : s.1.length < n
    · have e : Hid (rTake n s = ([], ([], 10))) := by unfold Hid rTake; rw [if_pos hs, if_pos hl]
      have e2 : Hid (rFail 10 s = ([], 10)) := by unfold Hid rFail; rw [if_pos ⟨hs, by omega⟩]
      clear hs
      go_enter Try.func73, Try.ntmps73
      go_wp2_with fail
      with_reducible refine (rFail_any g D s 10 w h).mono ?_
      rintro e w1 ⟨rfl, h1', m1⟩
      go_wp2_with fail
      go_ret
      rw [e2.out] at h1'
      rw [e.out]
      exact ⟨none, 0, rfl, RdB.nil, by simp, by omega, h1', m1⟩
    · have e : Hid (rTake n s = (s.1.take n, (s.1.drop n, 0))) := by unfold Hid rTake; rw [if_pos hs, if_neg hl]
      clear hs
      have hnl : n ≤ s.1.length := by omega
      have hcn : n ≤ c := by omega
      have hd := h2.drop hnl h3
      have ht := h2.take hnl
      have hsl := sub_str_len hnl
      have HSL := Lib.hid hsl
      clear hsl hl
      go_enter Try.func73, Try.ntmps73
      go_wp2_with fail
      go_ret
      have hX : ∀ b, D b → ¬ (b = g) := fun b hb hx => h5 (hx ▸ hb)
      have m2 : Mod (· = g) w (w.setCell ⟨g, 0, none⟩ (.slice (cutA A n c 1) (s.1.length - n) (c - n))) := (Mod.refl _ _).setG _ _
      have hl : (s.1.take n).length = n := by simp; omega
      rw [e.out]
      refine ⟨A, c, by rw [hl]; rfl, Rd.mod ht m2 hX, by simp only [hl]; omega, h4, ?_, m2⟩
      refine ⟨cutA A n c 1, c - n, ?_, Rd.mod hd m2 hX, by rw [← HSL.out]; omega, by omega, h5⟩
      rw [← HSL.out, ← HS.out]; exact h1.set_ 0 _
  · have e : Hid (rTake n s = ([], s)) := by unfold Hid rTake; rw [if_neg hs]
    have hb1 : (s.2 != 0) = true := by simp [hs]
    clear hs
    go_enter Try.func73, Try.ntmps73
    go_wp2_with fail
    go_ret
    rw [e.out]
    exact ⟨none, 0, rfl, RdB.nil, by simp, by omega, h, Mod.refl _ _⟩

theorem rNum_any (g : Nat) (D : Nat → Prop) (s : St) (width : Int) (w : World) (h : RdR w g D s) :
    Calls Try.prog 45 #[.pointer (some ⟨g, 0, none⟩), .int .i64 width] w
      fun e w' => e = .returned (.int .i64 (rNum width s).1) ∧ RdR w' g D (rNum width s).2 ∧ Mod (· = g) w w' := by
  have hwd := wideI_bd width
  obtain ⟨k, hk⟩ : ∃ k : Nat, wideI width = (k : Int) := ⟨(wideI width).toNat, by omega⟩
  have hk2 : k ≤ 7 := by omega
  have e : Hid (rNum width s = (bigN (rTake k s).1, (rTake k s).2)) := by unfold Hid rNum; rw [hk]; rfl
  have hlen : (rTake k s).1.length ≤ k := by unfold rTake; split <;> (try split) <;> simp <;> omega
  go_enter Try.func45, Try.ntmps45
  go_wp2_with fail
  with_reducible refine (rwide_any _ _).mono ?_
  rintro e w1 ⟨rfl, rfl⟩
  rw [hk]
  clear hk hwd
  go_wp2_with fail
  with_reducible refine (rtake_any g D s k w h (by unfold big; omega)).mono ?_
  rintro e w1 ⟨A1, c1, rfl, hr, hc1, hc2, r1, m1⟩
  generalize (rTake k s).1 = t at *
  generalize (rTake k s).2 = s' at *
  have hk63 : (256 : Nat) ^ t.length ≤ 72057594037927936 := pow_wide (by omega)
  go_wp2_with fail
  go_loopw [6, 7] (fun n i wr => ∃ j : Nat, j ≤ t.length ∧ i = .int .i64 j ∧ n = .int .i64 (bigNat (t.take j)) ∧ w1 = wr) (fun _ i _ => t.length - (intOf i).toNat)
  case atStart => exact ⟨0, Nat.zero_le _, rfl, rfl, rfl⟩
  case round =>
    obtain ⟨j, hj, rfl, rfl, rfl⟩ := hrel
    by_cases hlt : j < t.length
    · obtain ⟨ad, rfl, _, hcell⟩ := hr.at_ hlt
      have hb := bigNat_lt (t.take j)
      have hp : 256 ^ (t.take j).length * 256 ≤ 72057594037927936 := by
        have : 256 ^ ((t.take j).length + 1) ≤ 256 ^ t.length := Nat.pow_le_pow_right (by omega) (by simp; omega)
        rw [Nat.pow_succ] at this
        omega
      have hb' : bigNat (t.take j) * 256 ≤ 72057594037927936 := Nat.le_of_lt (Nat.lt_of_lt_of_le (Nat.mul_lt_mul_of_pos_right hb (by decide)) hp)
      have hu := t[j].toNat_lt
      clear hb hp
      go_wp2
      go_roundw
      case rel => exact ⟨j + 1, by omega, by go_num, congrArg (Value.int .i64) (congrArg Int.ofNat (bigNat_take t j hlt).symm), trivial⟩
      case measure => simp [intOf]; omega
    · go_wp2
      go_ret
      obtain rfl : j = t.length := by omega
      refine ⟨by rw [e.out]; simp [bigN], by rw [e.out]; exact r1, m1⟩

theorem rNum2_bd (s : St) : 0 ≤ (rNum 2 s).1 ∧ (rNum 2 s).1 ≤ 65535 := by
  have h1 := bigNat_lt (rTake (wideI 2).toNat s).1
  have h2 : (rTake (wideI 2).toNat s).1.length ≤ 2 := by unfold rTake; split <;> (try split) <;> simp [wideI] <;> omega
  have h3 : 256 ^ (rTake (wideI 2).toNat s).1.length ≤ 256 ^ 2 := Nat.pow_le_pow_right (by omega) h2
  unfold rNum bigN
  simp only
  omega
theorem rNum1_bd (s : St) : 0 ≤ (rNum 1 s).1 ∧ (rNum 1 s).1 ≤ 255 := by
  have h1 := bigNat_lt (rTake (wideI 1).toNat s).1
  have h2 : (rTake (wideI 1).toNat s).1.length ≤ 1 := by unfold rTake; split <;> (try split) <;> simp [wideI] <;> omega
  have h3 : 256 ^ (rTake (wideI 1).toNat s).1.length ≤ 256 ^ 1 := Nat.pow_le_pow_right (by omega) h2
  unfold rNum bigN
  simp only
  omega

theorem rBlob_any (g : Nat) (D : Nat → Prop) (s : St) (most : Int) (w : World) (h : RdR w g D s) :
    Calls Try.prog 75 #[.pointer (some ⟨g, 0, none⟩), .int .i64 most] w
      fun e w' => ∃ A c, e = .returned (.slice A (rBlob most s).1.length c) ∧ RdB w' D A (rBlob most s).1 ∧ (rBlob most s).1.length ≤ c ∧ c ≤ 9223372036854775807 ∧ RdR w' g D (rBlob most s).2 ∧ Mod (· = g) w w' := by
  have hbd := rNum2_bd s
  obtain ⟨n, hn⟩ : ∃ n : Nat, (rNum 2 s).1 = (n : Int) := ⟨_, (Int.toNat_of_nonneg hbd.1).symm⟩
  have hn63 : n ≤ 65535 := by omega
  clear hbd
  by_cases hm : (rNum 2 s).1 > max most 0
  · have e : Hid (rBlob most s = ([], rFail 11 (rNum 2 s).2)) := by unfold Hid rBlob; simp only; rw [if_pos hm]
    rw [hn] at hm
    go_enter Try.func75, Try.ntmps75
    go_wp2_with fail
    with_reducible refine (rNum_any g D s 2 w h).mono ?_
    rintro e w1 ⟨rfl, r1, m1⟩
    rw [hn]
    clear hn
    go_wp2_with fail
    with_reducible refine (rFail_any g D _ 11 w1 r1).mono ?_
    rintro e w2 ⟨rfl, r2, m2⟩
    go_wp2_with fail
    go_ret
    rw [e.out]
    exact ⟨none, 0, rfl, RdB.nil, by simp, by omega, r2, m1.trans m2⟩
  · have e : Hid (rBlob most s = rTake n (rNum 2 s).2) := by unfold Hid rBlob; simp only; rw [if_neg hm, hn]; rfl
    rw [hn] at hm
    go_enter Try.func75, Try.ntmps75
    go_wp2_with fail
    with_reducible refine (rNum_any g D s 2 w h).mono ?_
    rintro e w1 ⟨rfl, r1, m1⟩
    rw [hn]
    clear hn
    go_wp2_with fail
    with_reducible refine (rtake_any g D _ n w1 r1 (by unfold big; omega)).mono ?_
    rintro e w3 ⟨A3, c3, rfl, hr, h1, h2, r3, m3⟩
    go_wp2_with fail
    go_ret
    rw [e.out]
    exact ⟨_, _, rfl, hr, h1, h2, r3, m1.trans m3⟩

theorem quiet_left {P : Program} {f : FuncId} {args : Array Value} {w : World} {n : Nat} {v : Value}
    (h : Calls P f args (w.drewN n) fun e w' => e = .returned v ∧ w.drewN n = w') : Calls P f args (w.drewN n) fun e w'' => e = .returned v ∧ ∃ m, w'' = w.drewN m :=
  h.mono fun _ _ ⟨he, hm⟩ => ⟨he, n, hm.symm⟩

theorem rNum_step (w : Nat) (h1 : 1 ≤ w) (h2 : w ≤ 7) (width : Int) (hw : wideI width = w) (bs : List UInt8) (p : Nat) (hl : p + w ≤ bs.length) : rNum width (bs.drop p, 0) = (bigN ((bs.drop p).take w), (bs.drop (p + w), 0)) := by
  unfold rNum rTake
  rw [hw]
  simp only [if_true, Int.toNat_natCast]
  rw [if_neg (by simp; omega)]
  simp [List.drop_drop]

theorem RdR.imp {w : World} {g : Nat} {D D' : Nat → Prop} {s : St} (h : RdR w g D s) (hd : ∀ b, b < w.heap.size → D b → D' b) (hg : ¬ D' g) : RdR w g D' s := by
  obtain ⟨A, c, h1, h2, h3, h4, h5⟩ := h
  exact ⟨A, c, h1, Rd.imp h2 hd (by omega), h3, h4, hg⟩
theorem RdR.old {w : World} {g : Nat} {D : Nat → Prop} {s : St} (h : RdR w g D s) : RdR w g (fun b => D b ∧ b < w.heap.size) s := by
  obtain ⟨A, c, h1, h2, h3, h4, h5⟩ := h
  exact ⟨A, c, h1, Rd.imp h2 (fun b hb hd => ⟨hd, hb⟩) (by omega), h3, h4, fun hx => h5 hx.1⟩
theorem RdR.not {w : World} {g : Nat} {D : Nat → Prop} {s : St} (h : RdR w g D s) : ¬ D g := h.choose_spec.choose_spec.2.2.2.2
theorem decN_take (k n : Nat) (l : List UInt8) (h : n * k ≤ l.length) : decN k n (l.take (n * k)) = decN k n l := by
  unfold decN
  apply List.map_congr_left
  intro i hi
  have hi' : i < n := by simpa using hi
  have hik : (i + 1) * k ≤ n * k := Nat.mul_le_mul_right k hi'
  rw [Nat.succ_mul] at hik
  congr 1
  rw [List.drop_take, List.take_take, Nat.min_eq_left (by omega)]

end Go.Proofs.Ytpgfhbkggchliaa

/- A map taken from a reader: the code and the document. -/
namespace Go.Proofs.Ytpgfhbkggchliaa
open Go.RowKit
set_option linter.unusedVariables false

def tabO (s : St) : List Int × St :=
  let t := rBlob 200 s
  if t.2.2 = 0 then (if (unpO t.1).isSome then ((unpO t.1).getD [], t.2) else ((unpO t.1).getD [], rFail 11 t.2)) else ([], t.2)
theorem unpO_len (b : List UInt8) : ((unpO b).getD []).length ≤ 512 := by
  match h : unpO b with
  | none => simp
  | some y =>
    have := (unp_some b y h).1
    unfold mayO at this
    simp only [Bool.and_eq_true, decide_eq_true_eq] at this
    exact this.1.1
theorem rBlob_len (most : Int) (s : St) : (rBlob most s).1.length ≤ 65535 := by
  have h3 := rNum2_bd s
  unfold rBlob
  simp only
  split
  · simp
  · unfold rTake; split <;> (try split) <;> simp <;> omega

set_option maxHeartbeats 1000000 in
set_option maxRecDepth 100000 in
theorem table_any (g : Nat) (D : Nat → Prop) (s : St) (w : World) (h : Rdr w g D s) :
    Calls Try.prog 41 #[.pointer (some ⟨g, 0, none⟩), .func (.func 42) #[.pointer (some ⟨g, 0, none⟩)] #[]] w
      fun e w' => ∃ A c, e = .returned (.slice A (tabO s).1.length c) ∧ RdI w' (w.heap.size ≤ ·) A (tabO s).1 ∧ (tabO s).1.length ≤ c ∧ c ≤ 9223372036854775807 ∧ Rdr w' g D (tabO s).2 ∧ Mod (· = g) w w' := by
  have hlen := rBlob_len 200 s
  by_cases hs : (rBlob 200 s).2.2 = 0
  · have hb : ((rBlob 200 s).2.2 != 0) = false := by simp [hs]
    cases hu : (unpO (rBlob 200 s).1).isSome
    all_goals
      have e : Hid (tabO s = ((unpO (rBlob 200 s).1).getD [], if (unpO (rBlob 200 s).1).isSome then (rBlob 200 s).2 else rFail 11 (rBlob 200 s).2)) := by
        unfold Hid tabO
        simp only
        rw [if_pos hs, hu]
        rfl
      clear hs
      go_enter Try.func41, Try.ntmps41
      go_wp2_with fail
      refine (Blob_any' g D s 200 w h).mono ?_
      rintro ev w1 ⟨v1, rfl, o1, r1, m1⟩
      obtain ⟨A1, c1, rfl, hc1, hc2⟩ := o1.form
      have hr := o1.rdG
      generalize rBlob 200 s = t at *
      go_wp2_with fail
      refine (Err_any g D _ w1 r1).mono ?_
      rintro ev w' ⟨rfl, rfl⟩
      go_wp2_with fail
      refine (Unpack_any _ A1 c1 t.1 w1 hr hc1 (by unfold maxLen at hc2; omega)).mono ?_
      rintro ev w2 ⟨A', n, rfl, hn, hrow, b2⟩
      rw [hu]
      go_wp2_with fail
    focus
      refine (Fail_any g D _ 11 w2 (r1.below b2)).mono ?_
      rintro ev w3 ⟨rfl, r3, m3⟩
      go_wp2_with fail
      go_ret
      rw [e.out, hu, ← hn]
      have hg := h.lt
      have hsz := m1.size
      refine ⟨A', n, rfl, ?_, Nat.le_refl _, ?_, r3, (m1.thenB b2).trans m3⟩
      · exact Rd.mod (Rd.imp hrow.rd (fun b _ hb => Nat.le_trans hsz hb) (by omega)) m3 (fun b hb e => by omega)
      · rw [hn]
        have := unpO_len t.1
        omega
    focus
      go_ret
      rw [e.out, hu, ← hn]
      have hsz := m1.size
      refine ⟨A', n, rfl, ?_, Nat.le_refl _, ?_, r1.below b2, m1.thenB b2⟩
      · exact Rd.imp hrow.rd (fun b _ hb => Nat.le_trans hsz hb) (by omega)
      · rw [hn]
        have := unpO_len t.1
        omega
  · have hb : ((rBlob 200 s).2.2 != 0) = true := by simp [hs]
    have e : Hid (tabO s = ([], (rBlob 200 s).2)) := by
      unfold Hid tabO
      simp only
      rw [if_neg hs]
    clear hs
    go_enter Try.func41, Try.ntmps41
    go_wp2_with fail
    refine (Blob_any' g D s 200 w h).mono ?_
    rintro ev w1 ⟨v1, rfl, o1, r1, m1⟩
    obtain ⟨A1, c1, rfl, hc1, hc2⟩ := o1.form
    generalize rBlob 200 s = t at *
    go_wp2_with fail
    refine (Err_any g D _ w1 r1).mono ?_
    rintro ev w' ⟨rfl, rfl⟩
    go_wp2_with fail
    go_ret
    rw [e.out]
    exact ⟨none, 0, rfl, RdI.nil, Nat.le_refl _, by omega, r1, m1⟩

set_option maxHeartbeats 1000000 in
set_option maxRecDepth 100000 in
theorem rtable_any (g : Nat) (D : Nat → Prop) (s : St) (w : World) (h : RdR w g D s) :
    Calls Try.prog 46 #[.pointer (some ⟨g, 0, none⟩)] w
      fun e w' => ∃ A c, e = .returned (.slice A (tabO s).1.length c) ∧ RdI w' (w.heap.size ≤ ·) A (tabO s).1 ∧ (tabO s).1.length ≤ c ∧ c ≤ 9223372036854775807 ∧ RdR w' g D (tabO s).2 ∧ Mod (· = g) w w' := by
  have hlen := rBlob_len 200 s
  by_cases hs : (rBlob 200 s).2.2 = 0
  · have hb : ((rBlob 200 s).2.2 != 0) = false := by simp [hs]
    cases hu : (unpO (rBlob 200 s).1).isSome
    all_goals
      have e : Hid (tabO s = ((unpO (rBlob 200 s).1).getD [], if (unpO (rBlob 200 s).1).isSome then (rBlob 200 s).2 else rFail 11 (rBlob 200 s).2)) := by
        unfold Hid tabO
        simp only
        rw [if_pos hs, hu]
        rfl
      clear hs
      go_enter Try.func46, Try.ntmps46
      go_wp2_with fail
      refine (rBlob_any g D s 200 w h).mono ?_
      rintro ev w1 ⟨A1, c1, rfl, hr, hc1, hc2, r1, m1⟩
      generalize rBlob 200 s = t at *
      obtain ⟨A0, c0, hB, _⟩ := id r1
      have d1 := hB.cell 1
      simp at d1
      go_wp2_with fail
      refine (rUnpack_any _ A1 c1 t.1 w1 hr hc1 hc2 (by omega)).mono ?_
      rintro ev w2 ⟨v2, rfl, o2, b2⟩
      obtain ⟨A', c', rfl, hc3, hc4⟩ := o2.form
      rw [hu]
      go_wp2_with fail
    focus
      refine (rFail_any g D _ 11 w2 (r1.below b2)).mono ?_
      rintro ev w3 ⟨rfl, r3, m3⟩
      go_wp2_with fail
      go_ret
      rw [e.out, hu]
      have hg := h.lt
      have hsz := m1.size
      refine ⟨A', c', rfl, ?_, hc3, by unfold maxLen at hc4; omega, r3, (m1.thenB b2).trans m3⟩
      exact Rd.mod (Rd.imp o2.rdG (fun b _ hb => Nat.le_trans hsz hb) (by omega)) m3 (fun b hb e => by omega)
    focus
      go_ret
      rw [e.out, hu]
      have hsz := m1.size
      refine ⟨A', c', rfl, ?_, hc3, by unfold maxLen at hc4; omega, r1.below b2, m1.thenB b2⟩
      exact Rd.imp o2.rdG (fun b _ hb => Nat.le_trans hsz hb) (by omega)
  · have hb : ((rBlob 200 s).2.2 != 0) = true := by simp [hs]
    have e : Hid (tabO s = ([], (rBlob 200 s).2)) := by
      unfold Hid tabO
      simp only
      rw [if_neg hs]
    clear hs
    go_enter Try.func46, Try.ntmps46
    go_wp2_with fail
    refine (rBlob_any g D s 200 w h).mono ?_
    rintro ev w1 ⟨A1, c1, rfl, hr, hc1, hc2, r1, m1⟩
    generalize rBlob 200 s = t at *
    obtain ⟨A0, c0, hB, _⟩ := id r1
    have d1 := hB.cell 1
    simp at d1
    go_wp2_with fail
    go_ret
    rw [e.out]
    exact ⟨none, 0, rfl, RdI.nil, Nat.le_refl _, by omega, r1, m1⟩
end Go.Proofs.Ytpgfhbkggchliaa
