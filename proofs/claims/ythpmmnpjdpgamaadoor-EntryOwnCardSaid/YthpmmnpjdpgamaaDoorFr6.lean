/- The document's Make. -/
import Derived.Test.YthpmmnpjdpgamaaDoorFr5
namespace Go.Proofs.YthpmmnpjdpgamaaDoor
open Go.RowKit
set_option linter.unusedVariables false

set_option maxHeartbeats 2000000 in
set_option maxRecDepth 100000 in
theorem rMake_any (D : Nat → Prop) (A : Option Addr) (c : Nat) (kind : Int) (body : List UInt8) (w : World) (h : RdB w D A body) (hl : body.length ≤ 1000000) :
    Calls Tryd.prog 38 #[.int .i64 kind, .slice A body.length c] w fun e w' => ∃ v, e = .returned (.tuple #[v, .int .i64 (makeO kind body).2]) ∧ OwnB w' w.heap.size v (makeO kind body).1 ∧ Below w.heap.size w w' := by
  by_cases h1 : kind < 0 ∨ 255 < kind
  · have e : Hid (makeO kind body = ([], 1)) := by unfold Hid makeO; rw [if_pos h1]
    by_cases h2 : kind < 0
    focus skip
    rotate_left
    focus
      have h3 : 255 < kind := by omega
    all_goals
      clear h1
      go_enter Tryd.func38, Tryd.ntmps38
      go_wp2_with fail
      go_ret2
      exact ⟨_, by rw [e.out] <;> rfl, by rw [e.out]; exact OwnB.nil, Below.refl _ _⟩
  · obtain ⟨k, rfl⟩ : ∃ k : Nat, kind = (k : Int) := ⟨kind.toNat, by omega⟩
    have hk : k ≤ 255 := by omega
    by_cases h2 : 8192 < body.length
    · have e : Hid (makeO (k : Int) body = ([], 2)) := by unfold Hid makeO; rw [if_neg h1, if_pos h2]
      clear h1
      go_enter Tryd.func38, Tryd.ntmps38
      go_wp2_with fail
      go_ret2
      exact ⟨_, by rw [e.out] <;> rfl, by rw [e.out]; exact OwnB.nil, Below.refl _ _⟩
    · have e : Hid (makeO (k : Int) body = (frameO k body, 0)) := by unfold Hid makeO; rw [if_neg h1, if_neg h2, Int.toNat_natCast]
      have EF : Hid (frameO k body = headO k body.length ++ body ++ tailO body) := Lib.hid rfl
      have EH : Hid (headO k body.length = h4O k body.length ++ tailO (h4O k body.length)) := Lib.hid rfl
      have E4 : Hid (h4O k body.length = [90, UInt8.ofNat k] ++ numE 2 (body.length : Int)) := Lib.hid rfl
      have hkl := h4O_len k body.length
      have H4 := Lib.hid hkl
      have HNL := Lib.hid (numE_length 2 (body.length : Int))
      clear h1 hkl
      have hwk : IntKind.u8.wrap (k : Int) = (k : Int) := by
        simp [IntKind.wrap, IntKind.bits, IntKind.signed]
        omega
      have r : RdB w (fun b => b < w.heap.size) A body := Rd.imp h (fun b hb _ => hb) (by decide)
      have b1 := below_new w (.cells #[.int .u8 90, .int .u8 (k : Int)] 5)
      have o1 : OwnB (w.alloc (.cells #[.int .u8 90, .int .u8 (k : Int)] 5)) w.heap.size (.slice (some ⟨w.heap.size, 0, none⟩) 2 2) [90, UInt8.ofNat k] := by
        refine litB w [90, UInt8.ofNat k] 2 _ rfl ?_ (by unfold big; simp only [List.length_cons, List.length_nil]; omega)
        simp only [List.map_cons, List.map_nil, cB]
        rw [UInt8.toNat_ofNat', Nat.mod_eq_of_lt (by omega : k < 2 ^ 8)]
        rfl
      go_enter Tryd.func38, Tryd.ntmps38
      go_wp2_with fail
      generalize w.alloc (.cells #[.int .u8 90, .int .u8 (k : Int)] 5) = wn at *
      refine (rNumE_any 2 (body.length : Int) wn (i64n _ hl)).mono ?_
      rintro e2 w2 ⟨v2, rfl, o2, b2⟩
      have o1 := OwnB.below o1 b2
      have b2 := b1.thenB' b2
      obtain ⟨A2, c2, rfl, _, _⟩ := o2.form
      have hlen2 : ([90, UInt8.ofNat k] : List UInt8).length + (numE 2 (body.length : Int)).length ≤ big := by have := HNL.out; unfold big; simp only [List.length_cons, List.length_nil]; omega
      go_wp2_with (at_builtin; refine wpList_appB rfl (.tmp 19) (.tmp 22) rfl w.heap.size _ [90, UInt8.ofNat k] rfl o1 _ A2 _ c2 (numE 2 (body.length : Int)) rfl rfl o2.rd hlen2 b2.size ?_; intro v3 w3 h3 x3)
      have b3 := b2.trans (x3.below o1 (Nat.le_refl _) b2.size)
      rw [← E4.out] at h3
      generalize h4O k body.length = L at *
      obtain ⟨A3, c3, rfl, _, _⟩ := h3.form
      refine (Tail_any _ A3 c3 L w3 h3.rd (by have := H4.out; omega)).mono ?_
      rintro e4 w4 ⟨v4, rfl, o4, b4⟩
      have h3 := OwnB.below h3 b4
      have b4 := b3.thenB' b4
      obtain ⟨A4, n4, c4, rfl, e4, _, _⟩ := OwnB.form' o4
      have hlen4 : L.length + (tailO L).length ≤ big := by rw [tailO_len]; have := H4.out; unfold big; omega
      have r4 := o4.rd'
      go_wp2_with first
        | (at_builtin; refine wpList_appB rfl (.tmp 24) (.tmp 26) rfl w.heap.size _ L rfl h3 _ A4 n4 c4 (tailO L) rfl e4.out r4 hlen4 b4.size ?_; intro v5 w5 h5 x5
           have b5 := b4.trans (x5.below h3 (Nat.le_refl _) b4.size)
           rw [← EH.out] at h5
           have H8 := Lib.hid (headO_len k body.length)
           have r5 : RdB w5 _ A body := Rd.belowB r b5 (fun _ h => h)
           clear r4 x5)
        | (at_builtin; refine wpList_appB rfl (.tmp 28) (.tmp 29) rfl w.heap.size _ (headO k body.length) rfl h5 _ A body.length c body rfl rfl r5 (by have := H8.out; unfold big; omega) b5.size ?_; intro v6 w6 h6 x6)
      have b6 := b5.trans (x6.below h5 (Nat.le_refl _) b5.size)
      have r6 : RdB w6 _ A body := Rd.belowB r b6 (fun _ h => h)
      generalize headO k body.length = M at *
      refine (Tail_any _ A c body w6 r6 (by omega)).mono ?_
      rintro e7 w7 ⟨v7, rfl, o7, b7⟩
      have h6 := OwnB.below h6 b7
      have b7 := b6.thenB' b7
      obtain ⟨A7, n7, c7, rfl, e7, _, _⟩ := OwnB.form' o7
      have hlen7 : (M ++ body).length + (tailO body).length ≤ big := by rw [tailO_len, List.length_append]; have := H8.out; unfold big; omega
      have r7 := o7.rd'
      go_wp2_with (at_builtin; refine wpList_appB rfl (.tmp 31) (.tmp 33) rfl w.heap.size _ (M ++ body) rfl h6 _ A7 n7 c7 (tailO body) rfl e7.out r7 hlen7 b7.size ?_; intro v8 w8 h8 x8)
      have b8 := b7.trans (x8.below h6 (Nat.le_refl _) b7.size)
      go_wp2_with fail
      go_ret2
      exact ⟨_, by rw [e.out] <;> rfl, by rw [e.out, EF.out]; exact h8, b8⟩
end Go.Proofs.YthpmmnpjdpgamaaDoor
