/- Make: the code's and the document's. -/
import Derived.Test.YthpmmnpjdpgamaaDoorFr4
namespace Go.Proofs.YthpmmnpjdpgamaaDoor
open Go.RowKit
set_option linter.unusedVariables false

def h4O (k n : Nat) : List UInt8 := [90, UInt8.ofNat k] ++ numE 2 (n : Int)
def headO (k n : Nat) : List UInt8 := h4O k n ++ tailO (h4O k n)
def frameO (k : Nat) (body : List UInt8) : List UInt8 := headO k body.length ++ body ++ tailO body
def makeO (kind : Int) (body : List UInt8) : List UInt8 × Int :=
  if kind < 0 ∨ 255 < kind then ([], 1) else if 8192 < body.length then ([], 2) else (frameO kind.toNat body, 0)
theorem h4O_len (k n : Nat) : (h4O k n).length = 4 := by
  unfold h4O numE; rw [List.length_append, encN_length]; rfl
theorem headO_len (k n : Nat) : (headO k n).length = 8 := by
  unfold headO; rw [List.length_append, h4O_len]; rfl
theorem frameO_len (k : Nat) (body : List UInt8) : (frameO k body).length = body.length + 12 := by
  unfold frameO; rw [List.length_append, List.length_append, headO_len, tailO_len]; omega
theorem makeO_len (kind : Int) (body : List UInt8) : (makeO kind body).1.length ≤ 8204 := by
  unfold makeO
  split
  · simp
  · split
    · simp
    · show (frameO _ body).length ≤ _
      rw [frameO_len]; omega
theorem OwnB.form' {w : World} {base : Nat} {v : Value} {bs : List UInt8} (h : OwnB w base v bs) : ∃ A n c, v = .slice A n c ∧ Hid (n = bs.length) ∧ n ≤ c ∧ c ≤ maxLen := by
  obtain ⟨A, c, rfl, h1, h2⟩ := h.form
  exact ⟨A, _, c, rfl, Lib.hid rfl, h1, h2⟩
theorem OwnB.rd' {w : World} {base n c : Nat} {A : Option Addr} {bs : List UInt8} (h : OwnB w base (.slice A n c) bs) : RdB w (fun b => base ≤ b ∧ b < w.heap.size) A bs := by
  obtain ⟨A', c', e, _, _⟩ := h.form
  injection e with e1 e2 e3
  subst e1; subst e2; subst e3
  exact Rd.imp h.rd (fun b _ hb => ⟨hb.1, hb.2.1⟩) (by decide)
theorem i64n (n : Nat) (h : n ≤ 1000000) : I64 (n : Int) := ⟨by omega, by omega⟩
theorem i64k : I64 2 := ⟨by omega, by omega⟩

set_option maxHeartbeats 1000000 in
set_option maxRecDepth 100000 in
theorem Make_any (D : Nat → Prop) (A : Option Addr) (c : Nat) (kind : Int) (body : List UInt8) (w : World) (h : RdB w D A body) (hl : body.length ≤ 1000000) (ht : Tab w) :
    Calls Tryd.prog 34 #[.int .i64 kind, .slice A body.length c] w fun e w' => ∃ v, e = .returned (.tuple #[v, .int .i64 (makeO kind body).2]) ∧ OwnB w' w.heap.size v (makeO kind body).1 ∧ Below w.heap.size w w' := by
  by_cases h1 : kind < 0 ∨ 255 < kind
  · have e : Hid (makeO kind body = ([], 1)) := by unfold Hid makeO; rw [if_pos h1]
    by_cases h2 : kind < 0
    focus skip
    rotate_left
    focus
      have h3 : 255 < kind := by omega
    all_goals
      clear h1
      go_enter Tryd.func34, Tryd.ntmps34
      go_wp2_with fail
      go_ret2
      exact ⟨_, by rw [e.out] <;> rfl, by rw [e.out]; exact OwnB.nil, Below.refl _ _⟩
  · obtain ⟨k, rfl⟩ : ∃ k : Nat, kind = (k : Int) := ⟨kind.toNat, by omega⟩
    have hk : k ≤ 255 := by omega
    by_cases h2 : 8192 < body.length
    · have e : Hid (makeO (k : Int) body = ([], 2)) := by unfold Hid makeO; rw [if_neg h1, if_pos h2]
      clear h1
      go_enter Tryd.func34, Tryd.ntmps34
      go_wp2_with fail
      go_ret2
      exact ⟨_, by rw [e.out] <;> rfl, by rw [e.out]; exact OwnB.nil, Below.refl _ _⟩
    · have e : Hid (makeO (k : Int) body = (frameO k body, 0)) := by unfold Hid makeO; rw [if_neg h1, if_neg h2, Int.toNat_natCast]
      have EF : Hid (frameO k body = headO k body.length ++ body ++ tailO body) := Lib.hid rfl
      have EH : Hid (headO k body.length = h4O k body.length ++ tailO (h4O k body.length)) := Lib.hid rfl
      have hkl := h4O_len k body.length
      have H4 := Lib.hid hkl
      clear h1 hkl
      have hwk : IntKind.u8.wrap (k : Int) = (k : Int) := by
        simp [IntKind.wrap, IntKind.bits, IntKind.signed]
        omega
      have r : RdB w (fun b => b < w.heap.size) A body := Rd.imp h (fun b hb _ => hb) (by decide)
      have b1 := below_new w (.cells #[.int .u8 90, .int .u8 (k : Int)] 5)
      have o1 : OwnB (w.alloc (.cells #[.int .u8 90, .int .u8 (k : Int)] 5)) w.heap.size (.slice (some ⟨w.heap.size, 0, none⟩) 2 2) [90, UInt8.ofNat k] := by
        refine litB w [90, UInt8.ofNat k] 2 _ rfl ?_ (by unfold big; simp only [List.length_cons, List.length_nil]; omega)
        simp only [List.map_cons, List.map_nil, cB]
        rw [UInt8.toNat_ofNat', Nat.mod_eq_of_lt (by omega : k < 2 ^ 8)]
        rfl
      have hn := Num_any _ (some ⟨w.heap.size, 0, none⟩) 2 [90, UInt8.ofNat k] 2 (body.length : Int) _ o1.rd (by simp only [List.length_cons, List.length_nil]; omega) i64k (i64n _ hl)
      rw [show [90, UInt8.ofNat k] ++ numE 2 (body.length : Int) = h4O k body.length from rfl] at hn
      generalize h4O k body.length = L at *
      go_enter Tryd.func34, Tryd.ntmps34
      go_wp2_with fail
      refine hn.mono ?_
      clear hn
      rintro e2 w2 ⟨v2, rfl, o2, b2⟩
      have b2 := b1.thenB' b2
      have o2 := o2.low b1.size
      obtain ⟨A2, c2, rfl, _, _⟩ := o2.form
      have ht2 := ht.below b2
      go_wp2_with fail
      refine (seal_any w.heap.size _ L _ A2 c2 L w2 o2 b2.size (by have := H4.out; omega) o2.rd (by have := H4.out; omega) ht2).mono ?_
      rintro e3 w3 ⟨v3, rfl, o3, b3⟩
      have b3 := b2.trans b3
      rw [← EH.out] at o3
      have H8 := Lib.hid (headO_len k body.length)
      generalize headO k body.length = M at *
      have r3 : RdB w3 _ A body := Rd.belowB r b3 (fun _ h => h)
      go_wp2_with (at_builtin; refine wpList_appB rfl (.tmp 27) (.tmp 28) rfl w.heap.size _ M rfl o3 _ A body.length c body rfl rfl r3 (by have := H8.out; unfold big; omega) b3.size ?_; intro v4 w4 h1 h2)
      have b4 := b3.trans (h2.below o3 (Nat.le_refl _) b3.size)
      have ht4 := ht.below b4
      have r4 : RdB w4 _ A body := Rd.belowB r b4 (fun _ h => h)
      refine (seal_any w.heap.size _ (M ++ body) _ A c body w4 h1 b4.size (by have := H8.out; rw [List.length_append]; omega) r4 (by omega) ht4).mono ?_
      rintro e5 w5 ⟨v5, rfl, o5, b5⟩
      go_wp2_with fail
      go_ret2
      exact ⟨_, by rw [e.out] <;> rfl, by rw [e.out, EF.out]; exact o5, b4.trans b5⟩
end Go.Proofs.YthpmmnpjdpgamaaDoor
