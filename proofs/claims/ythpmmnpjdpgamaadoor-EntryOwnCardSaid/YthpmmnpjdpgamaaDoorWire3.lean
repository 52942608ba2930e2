import Derived.Test.YthpmmnpjdpgamaaDoorBlks
import Derived.Test.YthpmmnpjdpgamaaDoorWire2
namespace Go.Proofs.YthpmmnpjdpgamaaDoor
open Go.RowKit
set_option linter.unusedVariables false

/-! ### a block known whole -/
section
variable {w w' : World} {g : Nat} {t : TypeId} {cs : Array Value}
end

/-! ### the reader -/
abbrev St := List UInt8 × Int
def rFail (x : Int) (s : St) : St := if s.2 = 0 ∧ x ≠ 0 then ([], x) else s
def rTake (n : Nat) (s : St) : List UInt8 × St := if s.2 = 0 then (if s.1.length < n then ([], ([], 10)) else (s.1.take n, (s.1.drop n, 0))) else ([], s)
def bigNat (l : List UInt8) : Nat := l.foldl (fun n c => n * 256 + c.toNat) 0
theorem bigNat_snoc (l : List UInt8) (c : UInt8) : bigNat (l ++ [c]) = bigNat l * 256 + c.toNat := by simp [bigNat]
theorem bigNat_lt (l : List UInt8) : bigNat l < 256 ^ l.length := by
  have : ∀ l : List UInt8, bigNat l.reverse < 256 ^ l.length := by
    intro l
    induction l with
    | nil => simp [bigNat]
    | cons c l ih =>
      rw [List.reverse_cons, bigNat_snoc, List.length_cons, Nat.pow_succ]
      have := c.toNat_lt
      omega
  have h := this l.reverse
  simpa using h
theorem bigNat_take (l : List UInt8) (j : Nat) (h : j < l.length) : bigNat (l.take (j + 1)) = bigNat (l.take j) * 256 + l[j].toNat := by
  rw [List.take_succ_eq_append_getElem h, bigNat_snoc]
theorem ofInt64 (a : Nat) (ha : a < 9223372036854775808) : (BitVec.ofInt 64 (a : Int)).toNat = a := by
  rw [BitVec.ofInt_natCast, BitVec.toNat_ofNat]; exact Nat.mod_eq_of_lt (by omega)
theorem or64 (a b : Nat) (ha : a < 9223372036854775808) (hb : b < 9223372036854775808) : bits .or .i64 (a : Int) (b : Int) = ((a ||| b : Nat) : Int) := by
  have hx : a ||| b < 2 ^ 63 := Nat.or_lt_two_pow (by omega) (by omega)
  show IntKind.i64.wrap ((BitVec.ofInt 64 (a : Int) ||| BitVec.ofInt 64 (b : Int)).toNat : Int) = _
  rw [BitVec.toNat_or, ofInt64 a ha, ofInt64 b hb, IntKind.wrap_i64]
  omega
theorem and64 (a b : Nat) (ha : a < 9223372036854775808) (hb : b < 9223372036854775808) : bits .and .i64 (a : Int) (b : Int) = ((a &&& b : Nat) : Int) := by
  have hx : a &&& b < 2 ^ 63 := Nat.and_lt_two_pow _ (by omega)
  show IntKind.i64.wrap ((BitVec.ofInt 64 (a : Int) &&& BitVec.ofInt 64 (b : Int)).toNat : Int) = _
  rw [BitVec.toNat_and, ofInt64 a ha, ofInt64 b hb, IntKind.wrap_i64]
  omega
theorem or_byte (a c : Nat) (ha : a * 256 ≤ 72057594037927936) (hc : c < 2 ^ 8) : bits .or .i64 ((a : Int) * 256) (c : Int) = ((a * 256 + c : Nat) : Int) := by
  have e : (a : Int) * 256 = ((a * 256 : Nat) : Int) := by omega
  rw [e, or64 _ _ (by omega) (by omega)]
  have h := Nat.two_pow_add_eq_or_of_lt (i := 8) hc a
  rw [Nat.mul_comm a 256]
  exact congrArg _ h.symm
def bigN (l : List UInt8) : Int := (bigNat l : Int)
def rNum (width : Int) (s : St) : Int × St := let t := rTake (wideI width).toNat s; (bigN t.1, t.2)
def rBlob (most : Int) (s : St) : List UInt8 × St :=
  let t := rNum 2 s
  if t.1 > max most 0 then ([], rFail 11 t.2) else rTake t.1.toNat t.2

def Rdr (w : World) (g : Nat) (D : Nat → Prop) (s : St) : Prop :=
  ∃ A c, Blk w g 64 #[.slice A s.1.length c, .int .i64 s.2] ∧ RdB w D A s.1 ∧ s.1.length ≤ c ∧ c ≤ 9223372036854775807 ∧ ¬ D g
theorem Rdr.mod {w w' : World} {g : Nat} {D X : Nat → Prop} {s : St} (h : Rdr w g D s) (hb : Mod X w w') (hg : ¬ X g) (hd : ∀ b, D b → ¬ X b) : Rdr w' g D s := by
  obtain ⟨A, c, h1, h2, h3⟩ := h
  exact ⟨A, c, h1.mod hb hg, Rd.mod h2 hb hd, h3⟩
theorem Rdr.below {w w' : World} {g : Nat} {D : Nat → Prop} {s : St} (h : Rdr w g D s) (hb : Below w.heap.size w w') : Rdr w' g D s :=
  h.mod (Mod.of_below hb (fun _ => False)) id (fun _ _ => id)
theorem Rdr.lt {w : World} {g : Nat} {D : Nat → Prop} {s : St} (h : Rdr w g D s) : g < w.heap.size := by
  obtain ⟨A, c, h1, _⟩ := h
  exact h1.lt

theorem Fail_any (g : Nat) (D : Nat → Prop) (s : St) (x : Int) (w : World) (h : Rdr w g D s) :
    Calls Tryd.prog 45 #[.pointer (some ⟨g, 0, none⟩), .int .i64 x] w fun e w' => e = .returned (.tuple #[]) ∧ Rdr w' g D (rFail x s) ∧ Mod (· = g) w w' := by
  obtain ⟨A, c, h1, h2, h3, h4, h5⟩ := h
  have c0 := h1.cell 0
  have c1 := h1.cell 1
  have f0 := h1.frozen 0
  have f1 := h1.frozen 1
  simp at c0 c1
  by_cases hs : s.2 = 0
  · by_cases hx : x = 0
    · have e : Hid (rFail x s = s) := by unfold Hid rFail; rw [if_neg]; simp [hx]
      have hb1 : (s.2 == 0) = true := by simp [hs]
      have hb2 : (x != 0) = false := by simp [hx]
      clear hs hx
      go_enter Tryd.func45, Tryd.ntmps45
      go_wp2
      go_end0
      exact ⟨rfl, by rw [e.out]; exact ⟨A, c, h1, h2, h3, h4, h5⟩, Mod.refl _ _⟩
    · have e : Hid (rFail x s = ([], x)) := by unfold Hid rFail; rw [if_pos ⟨hs, hx⟩]
      have hb1 : (s.2 == 0) = true := by simp [hs]
      have hb2 : (x != 0) = true := by simp [hx]
      clear hs hx
      go_enter Tryd.func45, Tryd.ntmps45
      go_wp2
      go_end0
      refine ⟨rfl, by rw [e.out]; exact ⟨none, 0, (h1.set_ 1 _).set_ 0 _, RdB.nil, by simp, by omega, h5⟩, ?_⟩
      exact ((Mod.refl _ _).setG _ _).setG _ _
  · have e : Hid (rFail x s = s) := by unfold Hid rFail; rw [if_neg]; simp [hs]
    have hb1 : (s.2 == 0) = false := by simp [hs]
    clear hs
    go_enter Tryd.func45, Tryd.ntmps45
    go_wp2
    go_end0
    exact ⟨rfl, by rw [e.out]; exact ⟨A, c, h1, h2, h3, h4, h5⟩, Mod.refl _ _⟩

theorem Left_any (g : Nat) (D : Nat → Prop) (s : St) (w : World) (h : Rdr w g D s) :
    Calls Tryd.prog 46 #[.pointer (some ⟨g, 0, none⟩)] w fun e w' => e = .returned (.int .i64 (s.1.length : Int)) ∧ w = w' := by
  obtain ⟨A, c, h1, h2, h3, h4, h5⟩ := h
  have c0 := h1.cell 0
  simp at c0
  go_enter Tryd.func46, Tryd.ntmps46
  go_wp2
  go_ret
  exact ⟨rfl, rfl⟩
theorem Err_any (g : Nat) (D : Nat → Prop) (s : St) (w : World) (h : Rdr w g D s) :
    Calls Tryd.prog 47 #[.pointer (some ⟨g, 0, none⟩)] w fun e w' => e = .returned (.int .i64 s.2) ∧ w = w' := by
  obtain ⟨A, c, h1, h2, h3, h4, h5⟩ := h
  have c1 := h1.cell 1
  simp at c1
  go_enter Tryd.func47, Tryd.ntmps47
  go_wp2
  go_ret
  exact ⟨rfl, rfl⟩
def rEnd (s : St) : St := if s.1.length = 0 then s else rFail 11 s
theorem End_any (g : Nat) (D : Nat → Prop) (s : St) (w : World) (h : Rdr w g D s) :
    Calls Tryd.prog 28 #[.pointer (some ⟨g, 0, none⟩)] w fun e w' => e = .returned (.int .i64 (rEnd s).2) ∧ Rdr w' g D (rEnd s) ∧ Mod (· = g) w w' := by
  by_cases hs : s.1.length = 0
  · have e : Hid (rEnd s = s) := by unfold Hid rEnd; rw [if_pos hs]
    have hs' : ¬ 0 < s.1.length := by omega
    clear hs
    go_enter Tryd.func28, Tryd.ntmps28
    go_wp2_with fail
    refine (Left_any g D s w h).mono ?_
    rintro e w' ⟨rfl, rfl⟩
    go_wp2_with fail
    refine (Err_any g D s w h).mono ?_
    rintro e w' ⟨rfl, rfl⟩
    go_wp2_with fail
    go_ret
    exact ⟨by rw [e.out]; rfl, by rw [e.out]; exact h, Mod.refl _ _⟩
  · have e : Hid (rEnd s = rFail 11 s) := by unfold Hid rEnd; rw [if_neg hs]
    have hs' : 0 < s.1.length := by omega
    clear hs
    go_enter Tryd.func28, Tryd.ntmps28
    go_wp2_with fail
    refine (Left_any g D s w h).mono ?_
    rintro e w' ⟨rfl, rfl⟩
    go_wp2_with fail
    refine (Fail_any g D s 11 w h).mono ?_
    rintro e w1 ⟨rfl, h1, m1⟩
    go_wp2_with fail
    refine (Err_any g D _ w1 h1).mono ?_
    rintro e w' ⟨rfl, rfl⟩
    go_wp2_with fail
    go_ret
    exact ⟨by rw [e.out]; rfl, by rw [e.out]; exact h1, m1⟩

theorem Read_any (D : Nat → Prop) (A : Option Addr) (c : Nat) (bs : List UInt8) (w : World) (h : RdB w D A bs) (hl : bs.length ≤ big) :
    Calls Tryd.prog 25 #[.slice A bs.length c] w fun e w' => ∃ g, e = .returned (.pointer (some ⟨g, 0, none⟩)) ∧ Rdr w' g (fun b => w.heap.size ≤ b ∧ b ≠ g) (bs, 0) ∧ w.heap.size ≤ g ∧ Below w.heap.size w w' := by
  go_enter Tryd.func25, Tryd.ntmps25
  go_wp2_with fail
  refine (cloneB_any D A c bs w h hl).mono ?_
  rintro e w1 ⟨v1, rfl, h1, b1⟩
  obtain ⟨A1, c1, rfl, hc1, hc2⟩ := h1.form
  go_wp2_with fail
  go_ret
  refine ⟨_, rfl, ⟨A1, c1, Blk.new _ _ _, Rd.alloc (Rd.imp h1.rd (fun b hb hd => ⟨hd.1, by omega⟩) (by omega)) _, hc1, hc2, by simp⟩, b1.size, b1.alloc b1.size _⟩

theorem sub_str_len {n : Nat} {s : List UInt8} (h : n ≤ s.length) : s.length - n = (s.drop n).length := by simp

theorem take_any (g : Nat) (D : Nat → Prop) (s : St) (n : Nat) (w : World) (h : Rdr w g D s) (hn : n ≤ big) :
    Calls Tryd.prog 43 #[.pointer (some ⟨g, 0, none⟩), .int .i64 (n : Int), .func (.func 45) #[.pointer (some ⟨g, 0, none⟩)] #[]] w
      fun e w' => ∃ v, e = .returned v ∧ OwnB w' w.heap.size v (rTake n s).1 ∧ Rdr w' g D (rTake n s).2 ∧ Mod (· = g) w w' := by
  obtain ⟨A, c, h1, h2, h3, h4, h5⟩ := id h
  have c0 := h1.cell 0
  have c1 := h1.cell 1
  have f0 := h1.frozen 0
  simp at c0 c1
  have hn' : n ≤ 9223372036854775807 := by unfold big at hn; omega
  by_cases hs : s.2 = 0
  · have hb1 : (s.2 != 0) = false := by simp [hs]
    have HS := Lib.hid hs
    by_cases hl : s.1.length < n
    · have e : Hid (rTake n s = ([], ([], 10))) := by unfold Hid rTake; rw [if_pos hs, if_pos hl]
      have e2 : Hid (rFail 10 s = ([], 10)) := by unfold Hid rFail; rw [if_pos ⟨hs, by omega⟩]
      clear hs
      go_enter Tryd.func43, Tryd.ntmps43
      go_wp2_with fail
      with_reducible refine (Fail_any g D s 10 w h).mono ?_
      rintro e w1 ⟨rfl, h1', m1⟩
      go_wp2_with fail
      go_ret
      exact ⟨_, rfl, by rw [e.out]; exact OwnB.nil, by rw [e.out]; rw [e2.out] at h1'; exact h1', m1⟩
    · have e : Hid (rTake n s = (s.1.take n, (s.1.drop n, 0))) := by unfold Hid rTake; rw [if_pos hs, if_neg hl]
      clear hs
      have hnl : n ≤ s.1.length := by omega
      have hcn : n ≤ c := by omega
      have hd := h2.drop hnl h3
      have hsl := sub_str_len hnl
      have HSL := Lib.hid hsl
      clear hsl hl
      go_enter Tryd.func43, Tryd.ntmps43
      have hgs := h1.lt
      have hne : Hid ((w.heap.size : Nat) ≠ g) := by unfold Hid; omega
      go_wp2_with first | (at_make; refine wpList_makeB rfl (.tmp 26) (.tmp 26) rfl w.heap.size n rfl rfl hn (Nat.le_refl _) ?_; intro w1 o1 b1; have h1' := h1.below b1; have c0 := h1'.cell 0; have f0 := h1'.frozen 0; simp at c0) | (with_reducible show wpList _ _ _ _ _ _; refine wpList_copyB rfl (.tmp 28) (.tmp 32) rfl w.heap.size (.slice (some ⟨w.heap.size, 0, none⟩) n n) (List.replicate n 0) rfl o1 D A _ c s.1 rfl rfl (h2.below b1) ?_; intro w2 o2 g2; have h2' := h1'.grownS g2 hne.out; have c0 := h2'.cell 0; have f0 := h2'.frozen 0; simp at c0)
      go_ret
      have m2 : Mod (· = g) w w2 := (Mod.of_below b1 _).then_ (Mod.of_grown (X := fun k => k = w.heap.size) g2 (fun k hk => .inl (by simpa [Value.ownBlock] using hk.symm))) (fun i hi hx => by omega)
      refine ⟨_, rfl, ?_, ?_, m2.setG _ _⟩
      · rw [e.out]
        have : s.1.take (List.replicate n (0 : UInt8)).length ++ (List.replicate n (0 : UInt8)).drop s.1.length = s.1.take n := by simp; omega
        rw [this] at o2
        exact ownsRow_setCell_below o2 hgs _
      · rw [e.out]
        have hb := h2'.set_ 0 (.slice (cutA A n c 1) (s.1.length - n) (c - n))
        refine ⟨cutA A n c 1, c - n, ?_, ?_, ?_, ?_, h5⟩
        · rw [← HSL.out, ← HS.out]; exact hb
        · exact Rd.mod hd (m2.setG _ _) (fun b hb hx => h5 (hx ▸ hb))
        · rw [← HSL.out]; omega
        · omega
  · have e : Hid (rTake n s = ([], s)) := by unfold Hid rTake; rw [if_neg hs]
    have hb1 : (s.2 != 0) = true := by simp [hs]
    clear hs
    go_enter Tryd.func43, Tryd.ntmps43
    go_wp2_with fail
    go_ret
    exact ⟨_, rfl, by rw [e.out]; exact OwnB.nil, by rw [e.out]; exact h, Mod.refl _ _⟩

theorem Num_any' (g : Nat) (D : Nat → Prop) (s : St) (width : Int) (w : World) (h : Rdr w g D s) :
    Calls Tryd.prog 26 #[.pointer (some ⟨g, 0, none⟩), .int .i64 width] w
      fun e w' => e = .returned (.int .i64 (rNum width s).1) ∧ Rdr w' g D (rNum width s).2 ∧ Mod (· = g) w w' := by
  have hwd := wideI_bd width
  obtain ⟨k, hk⟩ : ∃ k : Nat, wideI width = (k : Int) := ⟨(wideI width).toNat, by omega⟩
  have hk2 : k ≤ 7 := by omega
  have e : Hid (rNum width s = (bigN (rTake k s).1, (rTake k s).2)) := by unfold Hid rNum; rw [hk]; rfl
  have hlen : (rTake k s).1.length ≤ k := by unfold rTake; split <;> (try split) <;> simp <;> omega
  go_enter Tryd.func26, Tryd.ntmps26
  go_wp2_with fail
  with_reducible refine (wide_any _ _).mono ?_
  rintro e w1 ⟨rfl, rfl⟩
  rw [hk]
  clear hk hwd
  go_wp2_with fail
  with_reducible refine (take_any g D s k w h (by unfold big; omega)).mono ?_
  rintro e w1 ⟨v1, rfl, o1, r1, m1⟩
  obtain ⟨A1, c1, rfl, hc1, hc2⟩ := o1.form
  have hr := o1.rd
  generalize (rTake k s).1 = t at *
  generalize (rTake k s).2 = s' at *
  have hk63 : (256 : Nat) ^ t.length ≤ 72057594037927936 := pow_wide (by omega)
  go_wp2_with fail
  go_loopw [5, 15] (fun n i wr => ∃ j : Nat, j ≤ t.length ∧ i = .int .i64 j ∧ n = .int .i64 (bigNat (t.take j)) ∧ w1 = wr) (fun _ i _ => t.length - (intOf i).toNat)
  case atStart => exact ⟨0, Nat.zero_le _, rfl, rfl, rfl⟩
  case round =>
    obtain ⟨j, hj, rfl, rfl, rfl⟩ := hrel
    by_cases hlt : j < t.length
    · obtain ⟨ad, rfl, _, hcell⟩ := hr.at_ hlt
      have hb := bigNat_lt (t.take j)
      have hp : 256 ^ (t.take j).length * 256 ≤ 72057594037927936 := by
        have : 256 ^ ((t.take j).length + 1) ≤ 256 ^ t.length := Nat.pow_le_pow_right (by omega) (by simp; omega)
        rw [Nat.pow_succ] at this
        omega
      have hb' : bigNat (t.take j) * 256 ≤ 72057594037927936 := Nat.le_of_lt (Nat.lt_of_lt_of_le (Nat.mul_lt_mul_of_pos_right hb (by decide)) hp)
      have hu := t[j].toNat_lt
      clear hb hp
      go_wp2
      go_roundw
      case rel => exact ⟨j + 1, by omega, by go_num, congrArg (Value.int .i64) ((or_byte (bigNat (t.take j)) t[j].toNat hb' hu).trans (congrArg Int.ofNat (bigNat_take t j hlt).symm)), trivial⟩
      case measure => simp [intOf]; omega
    · go_wp2
      go_ret
      obtain rfl : j = t.length := by omega
      refine ⟨by rw [e.out]; simp [bigN], by rw [e.out]; exact r1, m1⟩

theorem rNum_bd (width : Int) (s : St) : 0 ≤ (rNum width s).1 ∧ (rNum width s).1 < 72057594037927936 := by
  have hwd := wideI_bd width
  have h1 := bigNat_lt (rTake (wideI width).toNat s).1
  have h2 : (rTake (wideI width).toNat s).1.length ≤ 7 := by unfold rTake; split <;> (try split) <;> simp <;> omega
  have h3 := pow_wide h2
  unfold rNum bigN
  simp only
  omega

theorem Blob_any' (g : Nat) (D : Nat → Prop) (s : St) (most : Int) (w : World) (h : Rdr w g D s) :
    Calls Tryd.prog 27 #[.pointer (some ⟨g, 0, none⟩), .int .i64 most] w
      fun e w' => ∃ v, e = .returned v ∧ OwnB w' w.heap.size v (rBlob most s).1 ∧ Rdr w' g D (rBlob most s).2 ∧ Mod (· = g) w w' := by
  have hbd : 0 ≤ (rNum 2 s).1 ∧ (rNum 2 s).1 ≤ 65535 := by
    have h1 := bigNat_lt (rTake (wideI 2).toNat s).1
    have h2 : (rTake (wideI 2).toNat s).1.length ≤ 2 := by unfold rTake; split <;> (try split) <;> simp [wideI] <;> omega
    have h3 : 256 ^ (rTake (wideI 2).toNat s).1.length ≤ 256 ^ 2 := Nat.pow_le_pow_right (by omega) h2
    unfold rNum bigN
    simp only
    omega
  obtain ⟨n, hn⟩ : ∃ n : Nat, (rNum 2 s).1 = (n : Int) := ⟨_, (Int.toNat_of_nonneg hbd.1).symm⟩
  have hn63 : n ≤ 65535 := by omega
  clear hbd
  by_cases hm : (rNum 2 s).1 > max most 0
  · have e : Hid (rBlob most s = ([], rFail 11 (rNum 2 s).2)) := by unfold Hid rBlob; simp only; rw [if_pos hm]
    have hne : Hid ((rFail 11 (rNum 2 s).2).2 ≠ 0) := by
      unfold Hid rFail; split
      · simp
      · rename_i h; simpa using h
    rw [hn] at hm
    go_enter Tryd.func27, Tryd.ntmps27
    go_wp2_with fail
    with_reducible refine (Num_any' g D s 2 w h).mono ?_
    rintro e w1 ⟨rfl, r1, m1⟩
    rw [hn]
    clear hn
    go_wp2_with fail
    with_reducible refine (Fail_any g D _ 11 w1 r1).mono ?_
    rintro e w2 ⟨rfl, r2, m2⟩
    go_wp2_with fail
    with_reducible refine (take_any g D _ n w2 r2 (by unfold big; omega)).mono ?_
    rintro e w3 ⟨v3, rfl, o3, r3, m3⟩
    go_wp2_with fail
    go_ret
    have e4 : rTake n (rFail 11 (rNum 2 s).2) = ([], rFail 11 (rNum 2 s).2) := by unfold rTake; rw [if_neg hne.out]
    rw [e4] at o3 r3
    exact ⟨_, rfl, by rw [e.out]; exact o3.low (by have := m1.size; have := m2.size; omega), by rw [e.out]; exact r3, (m1.trans m2).trans m3⟩
  · have e : Hid (rBlob most s = rTake n (rNum 2 s).2) := by unfold Hid rBlob; simp only; rw [if_neg hm, hn]; rfl
    rw [hn] at hm
    go_enter Tryd.func27, Tryd.ntmps27
    go_wp2_with fail
    with_reducible refine (Num_any' g D s 2 w h).mono ?_
    rintro e w1 ⟨rfl, r1, m1⟩
    rw [hn]
    clear hn
    go_wp2_with fail
    with_reducible refine (take_any g D _ n w1 r1 (by unfold big; omega)).mono ?_
    rintro e w3 ⟨v3, rfl, o3, r3, m3⟩
    go_wp2_with fail
    go_ret
    exact ⟨_, rfl, by rw [e.out]; exact o3.low m1.size, by rw [e.out]; exact r3, m1.trans m3⟩
end Go.Proofs.YthpmmnpjdpgamaaDoor
