import Derived.Test.YthpmmnpjdpgamaaDoorLaws
namespace Go.Proofs.YthpmmnpjdpgamaaDoor
open Go.RowKit
set_option linter.unusedVariables false

def wideI (n : Int) : Int := min (max n 1) 7
theorem wideI_bd (n : Int) : 1 ≤ wideI n ∧ wideI n ≤ 7 := by unfold wideI; omega
theorem ret_int {k : IntKind} {a b : Int} (h : a = b) : Ending.returned (.int k a) = .returned (.int k b) := by rw [h]

theorem wide_any (n : Int) (w : World) :
    Calls Tryd.prog 44 #[.int .i64 n] w fun e w' => e = .returned (.int .i64 (wideI n)) ∧ w = w' := by
  go_enter Tryd.func44, Tryd.ntmps44
  go_wp2
  go_ret
  exact ⟨rfl, rfl⟩

theorem big_one {a : Nat} {b : UInt8} (h : a ≤ 1000000007) : a + [b].length ≤ big := by unfold big; simp only [List.length_singleton]; omega
theorem le_alloc {B : Nat} {w : World} {o : Obj} (h : B ≤ w.heap.size) : B ≤ (w.alloc o).heap.size := by simp; omega

theorem cloneB_any (D : Nat → Prop) (A : Option Addr) (c : Nat) (bs : List UInt8) (w : World) (h : RdB w D A bs) (hl : bs.length ≤ big) :
    Calls Tryd.prog 23 #[.slice A bs.length c] w fun e w' => ∃ v, e = .returned v ∧ OwnB w' w.heap.size v bs ∧ Below w.heap.size w w' := by
  rcases A with _ | ad
  · have hz : bs = [] := by
      rcases Nat.eq_zero_or_pos bs.length with h0 | h0
      · exact List.eq_nil_of_length_eq_zero h0
      · obtain ⟨ad, h, _⟩ := h.2 h0
        cases h
    subst hz
    go_enter Tryd.func23, Tryd.ntmps23
    go_wp2
    go_ret
    exact ⟨_, rfl, OwnB.nil, Below.refl _ _⟩
  · have hem : OwnB (w.alloc (.cells #[] 5)) w.heap.size (.slice (some ⟨w.heap.size, 0, none⟩) 0 0) [] := own_lit w _ [] _ (Nat.le_refl _) (by simp)
    go_enter Tryd.func23, Tryd.ntmps23
    go_wp2_with (at_builtin; refine wpList_appB rfl (.tmp 5) (.tmp 6) rfl w.heap.size (.slice (some ⟨w.heap.size, 0, none⟩) 0 0) [] rfl hem D _ _ c bs rfl rfl (Rd.alloc h _) (by simpa using hl) (by simp) ?_; intro v' w' h1 h2)
    go_ret
    exact ⟨_, rfl, h1, below_app ((Below.refl _ _).alloc (Nat.le_refl _) _) hem h2.grown (Nat.le_refl _) (by simp)⟩

def clampN (k : Nat) (n : Int) : Nat := min n.toNat (256 ^ k - 1)
def encN (k m : Nat) : List UInt8 := (List.range k).map fun i => UInt8.ofNat (m / 256 ^ (k - 1 - i) % 256)
/-- The bytes of a number of a width. -/
def numE (width n : Int) : List UInt8 := encN (wideI width).toNat (clampN (wideI width).toNat n)
theorem encN_length (k m : Nat) : (encN k m).length = k := by simp [encN]
theorem pow_wide {k : Nat} (h : k ≤ 7) : 256 ^ k ≤ 72057594037927936 := by
  have := Nat.pow_le_pow_right (n := 256) (by omega) h
  omega
theorem top_eq (n : Int) (k : Nat) (h1 : 1 ≤ k) (h2 : k ≤ 7) : min (max n 0) (wrap64 (wrap64 (2 ^ (8 * k)) - 1)) = (clampN k n : Int) := by
  have e : wrap64 (wrap64 (2 ^ (8 * k)) - 1) = ((256 ^ k - 1 : Nat) : Int) := by
    have : k = 1 ∨ k = 2 ∨ k = 3 ∨ k = 4 ∨ k = 5 ∨ k = 6 ∨ k = 7 := by omega
    unfold wrap64; rcases this with rfl | rfl | rfl | rfl | rfl | rfl | rfl <;> decide
  rw [e]
  unfold clampN
  omega
theorem clampN_lt (k : Nat) (n : Int) : clampN k n < 256 ^ k := by
  have : 0 < 256 ^ k := Nat.pow_pos (by omega)
  unfold clampN
  omega

def encAt (k m j : Nat) : UInt8 := UInt8.ofNat (m / 256 ^ (k - 1 - j) % 256)
theorem encN_take (k m j : Nat) (h : j < k) : (encN k m).take (j + 1) = (encN k m).take j ++ [encAt k m j] := by
  rw [List.take_succ_eq_append_getElem (by rw [encN_length]; exact h)]
  congr 2
  simp [encN, encAt]
theorem encAt_cell (k m j : Nat) : (m : Int) / 2 ^ (8 * (k - 1 - j)) % 256 = ((encAt k m j).toNat : Int) := by
  unfold encAt
  rw [UInt8.toNat_ofNat', show (256 : Nat) = 2 ^ 8 from rfl, ← Nat.pow_mul]
  rw [Nat.mod_mod, Int.natCast_emod, Int.natCast_ediv, Int.natCast_pow]
  rfl

theorem put_any (base : Nat) (v : Value) (bs : List UInt8) (width n : Int) (w : World) (h : OwnB w base v bs) (hb : base ≤ w.heap.size) (hl : bs.length ≤ 1000000000) (hw : I64 width) (hn : I64 n) :
    Calls Tryd.prog 52 #[v, .int .i64 width, .int .i64 n] w fun e w' => ∃ v', e = .returned v' ∧ OwnB w' base v' (bs ++ numE width n) ∧ Ext w w' v v' := by
  unfold I64 at hw hn
  have hwd := wideI_bd width
  obtain ⟨k, hk⟩ : ∃ k : Nat, wideI width = (k : Int) := ⟨(wideI width).toNat, by omega⟩
  have hnum : Hid (numE width n = encN k (clampN k n)) := by unfold Hid numE; rw [hk]; rfl
  have hk1 : 1 ≤ k := by omega
  have hk2 : k ≤ 7 := by omega
  go_enter Tryd.func52, Tryd.ntmps52
  go_wp2_with fail
  refine (wide_any _ _).mono ?_
  rintro e w1 ⟨rfl, rfl⟩
  rw [hk]
  clear hk hwd
  go_wp2_with fail
  rw [top_eq n k hk1 hk2]
  have hm := clampN_lt k n
  have hp := pow_wide hk2
  generalize clampN k n = m at *
  have hm' : m < 72057594037927936 := by omega
  go_loopw [0, 20] (fun x i wr => ∃ j : Nat, j ≤ k ∧ i = .int .i64 j ∧ OwnB wr base x (bs ++ (encN k m).take j) ∧ Ext w wr v x) (fun _ i _ => k - (intOf i).toNat)
  case atStart => exact ⟨0, Nat.zero_le _, rfl, by simpa using h, Ext.refl _ _⟩
  case round =>
    obtain ⟨j, hj, rfl, hown, hx⟩ := hrel
    by_cases hlt : j < k
    · have hll : (bs ++ (encN k m).take j).length ≤ 1000000007 := by
        have := List.length_take_le j (encN k m)
        simp; omega
      have hbw : base ≤ wr.heap.size := Nat.le_trans hb hx.grown.size
      have h4 : bs ++ (encN k m).take (j + 1) = bs ++ (encN k m).take j ++ [encAt k m j] := by rw [encN_take k m j hlt, List.append_assoc]
      have H4 := Lib.hid h4
      clear h4
      go_wp2_with (at_builtin; refine wpList_appB rfl (.tmp 23) (.tmp 33) rfl base u0 (bs ++ (encN k m).take j) rfl (World.ownsRow.alloc hown _) _ _ _ 1 [encAt k m j] rfl rfl (rd_newB _ _ _ (encAt_cell _ _ _)) (big_one hll) (le_alloc hbw) ?_; intro v' w' h1 h2; rw [← H4.out] at h1; clear H4)
      · go_wp2
        go_roundw
        case rel => refine ⟨j + 1, by omega, by go_num, h1, hx.trans h2.preAlloc⟩
        case measure => simp [intOf]; omega
    · go_wp2
      go_ret
      have hjk : j = k := by omega
      subst hjk
      rw [List.take_of_length_le (by rw [encN_length]; exact Nat.le_refl _)] at hown
      exact ⟨_, rfl, by rw [hnum.out]; exact hown, hx⟩
end Go.Proofs.YthpmmnpjdpgamaaDoor
