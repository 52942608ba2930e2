/- The document's Whole. -/
import Derived.Test.YtodfejeifbhoeaaDoorFr11
namespace Go.Proofs.YtodfejeifbhoeaaDoor
open Go.RowKit
set_option linter.unusedVariables false

set_option maxHeartbeats 1000000 in
set_option maxRecDepth 100000 in
theorem rWhole_any (D : Nat → Prop) (A : Option Addr) (c : Nat) (b : List UInt8) (w : World) (h : RdB w D A b) (hl : b.length ≤ 1000000) (hc : b.length ≤ c) (hm : c ≤ 9223372036854775807) :
    Calls Tryd.prog 33 #[.slice A b.length c] w fun e w' => ∃ v, e = .returned v ∧ OwnI w' w.heap.size v (wholeO b) ∧ Below w.heap.size w w' := by
  have r0 : RdB w (fun k => k < w.heap.size) A b := Rd.imp h (fun k hk _ => hk) (by decide)
  go_enter Tryd.func33, Tryd.ntmps33
  go_wp2_with fail
  go_loopw [3, 4, 5, 6, 7, 8] (fun out i s5 s6 s7 s8 wr => ∃ (a f : Nat) (pre : List Int), Hid (pre ++ wholeN f b a = wholeO b) ∧ a ≤ b.length ∧ 12 * pre.length ≤ a ∧ Hid (pre.length + f = b.length + 1) ∧ i = .int .i64 (a : Int) ∧ OwnI wr w.heap.size out pre ∧ RdB wr (fun k => k < w.heap.size) A b ∧ Below w.heap.size w wr) (fun _ i _ _ _ _ _ => b.length + 1 - (intOf i).toNat)
  case atStart => exact ⟨0, b.length + 1, [], Lib.hid rfl, Nat.zero_le _, Nat.zero_le _, by unfold Hid; simp, rfl, OwnI.nil, r0, Below.refl _ _⟩
  case round =>
    obtain ⟨a, f, pre, HP, ha, h12, HF, rfl, hown, r, bb⟩ := hrel
    have hac : a ≤ c := by omega
    have hai : (a : Int) ≤ (b.length : Int) := by omega
    have hsz := bb.size
    have rx : RdB wr (fun k => k < w.heap.size) (cutA A a c 1) (b.drop a) := r.drop ha hc
    have lx : (b.drop a).length = b.length - a := by rw [List.length_drop]
    have hcall := rNext_any _ (cutA A a c 1) (c - a) (b.drop a) wr rx (by omega) (by omega) (by omega)
    rw [lx] at hcall
    obtain ⟨f, rfl⟩ : ∃ f', f = f' + 1 := ⟨f - 1, by have := HF.out; omega⟩
    have hstep := Lib.hid (next_ok (b.drop a))
    have HD := Lib.hid lx
    clear lx rx
    by_cases he : (nextO (b.drop a)).e = 0
    · obtain ⟨h1, h2, h3, _⟩ := hstep.out he
      rw [HD.out] at h2
      have HP2 := Lib.hid (wholeN_more f b a he pre)
      have hpl : pre.length ≤ 1000000 := by omega
      have heb : ((nextO (b.drop a)).e != 0) = false := by simp [he]
      clear he hstep h3 HD
      generalize nextO (b.drop a) = N at *
      have ha2 : a + N.fin ≤ b.length := by omega
      have h122 : 12 * (pre.length + 1) ≤ a + N.fin := by omega
      have hai2 : (a : Int) + (N.fin : Int) = ((a + N.fin : Nat) : Int) := by omega
      have hdec : b.length + 1 - (a + N.fin) < b.length + 1 - a := by omega
      clear h1 h2
      go_wp2_with fail
      refine hcall.mono ?_
      clear hcall
      rintro e w3 ⟨A3, n3, c3, rfl, _, _, b3⟩
      have r := r.below b3
      have hown := OwnI.below hown b3
      have bb := bb.thenB' b3
      have hsz := bb.size
      generalize N.e = ne at *
      generalize N.k = nk at *
      generalize N.fin = nf at *
      generalize a + nf = a' at *
      go_wp2_with (at_builtin; refine wpList_appI rfl (.tmp 27) (.tmp 29) rfl w.heap.size _ pre rfl (OwnI.below hown (below_new _ _)) _ (some ⟨w3.heap.size, 0, none⟩) 1 1 [(a' : Int)] rfl rfl (rd_newI w3 _) (by unfold big; simp only [List.length_cons, List.length_nil]; omega) (by simp; omega) ?_; intro v' w' h1 h2)
      have bX : Below w.heap.size w3 w' := ((below_new w3 _).mono (by omega)).trans (h2.below (OwnI.below hown (below_new _ _)) (Nat.le_refl _) (by simp; omega))
      go_roundw
      case rel => exact ⟨a', f, pre ++ [(a' : Int)], Lib.hid (HP2.out.symm.trans HP.out), ha2, by rw [List.length_append]; exact h122, Lib.hid (by have := HF.out; rw [List.length_append, List.length_singleton]; omega), rfl, h1, Rd.belowB r bX (fun k hk => hk), bb.trans bX⟩
      case measure => simp [intOf] <;> omega
    · have HP2 : Hid (pre = wholeO b) := Lib.hid ((wholeN_done f b a he pre).symm.trans HP.out)
      have heb : ((nextO (b.drop a)).e != 0) = true := by simp [he]
      clear he hstep HD
      generalize nextO (b.drop a) = N at *
      go_wp2_with fail
      refine hcall.mono ?_
      clear hcall
      rintro e w3 ⟨A3, n3, c3, rfl, _, _, b3⟩
      have hown := OwnI.below hown b3
      have bb := bb.thenB' b3
      generalize N.e = ne at *
      go_wp2_with fail
      go_ret
      rw [← HP2.out]
      exact ⟨_, rfl, hown, bb⟩
end Go.Proofs.YtodfejeifbhoeaaDoor
