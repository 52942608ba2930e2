/- Whole: where frames end. -/
import Derived.Test.YtodfejeifbhoeaaDoorFr10
import Derived.Shelf.Abstract
namespace Go.Proofs.YtodfejeifbhoeaaDoor
open Go.RowKit
set_option linter.unusedVariables false

section
variable {w w' : World} {X : Nat → Prop} {base : Nat} {v : Value}
theorem own_mod {e : TypeId} {size n : Nat} {xs : List Value} (h : w.ownsRow base e size v n xs) (hb : Mod X w w') (hx : ∀ k, base ≤ k → ¬ X k) : w'.ownsRow base e size v n xs := by
  refine ⟨h.1, ?_⟩
  rcases h.2 with h0 | ⟨g, cap, cur, hv, hg, hh, r⟩
  · exact .inl h0
  · exact .inr ⟨g, cap, cur, hv, hg, by rw [hb.block g (Array.getElem?_eq_some_iff.1 hh).1 (hx g hg)]; exact hh, r⟩
theorem OwnB.mod {bs : List UInt8} (h : OwnB w base v bs) (hb : Mod X w w') (hx : ∀ k, base ≤ k → ¬ X k) : OwnB w' base v bs := own_mod h hb hx
theorem OwnI.mod {zs : List Int} (h : OwnI w base v zs) (hb : Mod X w w') (hx : ∀ k, base ≤ k → ¬ X k) : OwnI w' base v zs := own_mod h hb hx
end

theorem next_ok (x : List UInt8) (h : (nextO x).e = 0) : 12 ≤ (nextO x).fin ∧ (nextO x).fin ≤ x.length ∧ (nextO x).fin = 12 + (nextO x).body.length ∧ (nextO x).rest = x.drop (nextO x).fin := by
  unfold nextO at h ⊢
  split at h
  · cases h
  · split at h
    · cases h
    · split at h
      · cases h
      · split at h
        · cases h
        · split at h
          · cases h
          · split at h
            · cases h
            · rename_i h1 h2 h3 h4 h5 h6
              rw [if_neg h1, if_neg h2, if_neg h3, if_neg h4, if_neg h5, if_neg h6]
              refine ⟨by show 12 ≤ 12 + _; omega, by show 12 + _ ≤ _; omega, ?_, rfl⟩
              show 12 + _ = 12 + _
              rw [bodyF_len _ _ (by omega)]
theorem next_bad (x : List UInt8) (h : (nextO x).e ≠ 0) : ∃ e, nextO x = .bad e := by
  unfold nextO at h ⊢
  repeat' split
  all_goals first | exact ⟨_, rfl⟩ | skip
  rename_i h1 h2 h3 h4 h5 h6
  rw [if_neg h1, if_neg h2, if_neg h3, if_neg h4, if_neg h5, if_neg h6] at h
  exact absurd rfl h
theorem next_body (x : List UInt8) : (nextO x).body.length ≤ x.length := by
  by_cases h : (nextO x).e = 0
  · have := next_ok x h; omega
  · obtain ⟨e, h⟩ := next_bad x h
    rw [h]; exact Nat.zero_le _
/-- The ends of frames, from a place on. -/
def wholeN : Nat → List UInt8 → Nat → List Int
  | 0, _, _ => []
  | f + 1, b, at_ => if (nextO (b.drop at_)).e = 0 then ((at_ + (nextO (b.drop at_)).fin : Nat) : Int) :: wholeN f b (at_ + (nextO (b.drop at_)).fin) else []
def wholeO (b : List UInt8) : List Int := wholeN (b.length + 1) b 0
theorem wholeN_len : ∀ f b a, (wholeN f b a).length ≤ f
  | 0, _, _ => Nat.le_refl _
  | f + 1, b, a => by
    unfold wholeN
    split
    · exact Nat.succ_le_succ (wholeN_len f b _)
    · exact Nat.zero_le _
theorem wholeN_more (f : Nat) (b : List UInt8) (a : Nat) (h : (nextO (b.drop a)).e = 0) (pre : List Int) : pre ++ wholeN (f + 1) b a = (pre ++ [((a + (nextO (b.drop a)).fin : Nat) : Int)]) ++ wholeN f b (a + (nextO (b.drop a)).fin) := by
  rw [wholeN, if_pos h, List.append_assoc]; rfl
theorem wholeN_done (f : Nat) (b : List UInt8) (a : Nat) (h : (nextO (b.drop a)).e ≠ 0) (pre : List Int) : pre ++ wholeN (f + 1) b a = pre := by
  rw [wholeN, if_neg h, List.append_nil]

set_option maxHeartbeats 1000000 in
set_option maxRecDepth 100000 in
theorem on_any (bx ba : Nat) (D : Nat → Prop) (A : Option Addr) (c : Nat) (b : List UInt8) (a : Nat) (w : World) (hB : Blk w bx 28 #[.slice A b.length c]) (hA : Blk w ba 3 #[.int .i64 (a : Int)]) (h : RdB w D A b) (hl : b.length ≤ 1000000) (hc : b.length ≤ c) (hm : c ≤ 9223372036854775807) (ha : a ≤ b.length) (ht : Tab w) :
    Calls Tryd.prog 43 #[.pointer (some ⟨bx, 0, none⟩), .pointer (some ⟨ba, 0, none⟩)] w fun e w' => e = .returned (.bool ((nextO (b.drop a)).e == 0)) ∧ Blk w' ba 3 #[.int .i64 (a + (12 + (nextO (b.drop a)).body.length : Nat) : Int)] ∧ Mod (· = ba) w w' := by
  have c0 := hB.cell 0
  have a0 := hA.cell 0
  simp at c0 a0
  have hac : a ≤ c := by omega
  have hai : (a : Int) ≤ (b.length : Int) := by omega
  have rx : RdB w D (cutA A a c 1) (b.drop a) := h.drop ha hc
  have lx : (b.drop a).length = b.length - a := by rw [List.length_drop]
  have hcall := Next_any D (cutA A a c 1) (c - a) (b.drop a) w rx (by omega) (by omega) (by omega) ht
  have HB := Lib.hid (next_body (b.drop a))
  rw [lx] at hcall HB
  clear lx rx
  generalize nextO (b.drop a) = N at *
  go_enter Tryd.func43, Tryd.ntmps43
  go_wp2_with fail
  refine hcall.mono ?_
  clear hcall
  rintro e w1 ⟨v1, v2, rfl, o1, o2, b1⟩
  obtain ⟨A1, n, c1, rfl, HN, _, _⟩ := o1.form'
  have hA1 := hA.below b1
  have a1 := hA1.cell 0
  have f1 := hA1.frozen 0
  simp at a1
  have hb : n ≤ b.length - a := by rw [HN.out]; exact HB.out
  clear a0 c0
  go_wp2_with fail
  go_ret
  refine ⟨rfl, ?_, (Mod.of_below b1 (· = ba)).setG 0 _⟩
  have hs := hA1.set_ 0 (.int .i64 ((a : Int) + (8 + (n : Int) + 4)))
  rw [show (a : Int) + ((12 + N.body.length : Nat) : Int) = (a : Int) + (8 + (n : Int) + 4) by rw [← HN.out]; omega]
  exact hs

def lenV : Value → Nat
  | .slice _ n _ => n
  | _ => 0
set_option maxHeartbeats 1000000 in
set_option maxRecDepth 100000 in
theorem Whole_any (D : Nat → Prop) (A : Option Addr) (c : Nat) (b : List UInt8) (w : World) (h : RdB w D A b) (hl : b.length ≤ 1000000) (hc : b.length ≤ c) (hm : c ≤ 9223372036854775807) (ht : Tab w) :
    Calls Tryd.prog 35 #[.slice A b.length c] w fun e w' => ∃ v, e = .returned v ∧ OwnI w' w.heap.size v (wholeO b) ∧ Below w.heap.size w w' := by
  have r0 : RdB w (fun k => k < w.heap.size) A b := Rd.imp h (fun k hk _ => hk) (by decide)
  have hmf : ∀ (fn : Fn) (first cap : Array Value) (w : World), (Instr.makeFunc fn first cap).run Tryd.prog w = .ok (.func fn first cap) w := fun _ _ _ _ => rfl
  have n1 := below_new w (.cells #[.slice A b.length c] 28)
  have hB := Blk.new w 28 #[.slice A b.length c]
  have s1 : (w.alloc (.cells #[.slice A b.length c] 28)).heap.size = w.heap.size + 1 := by simp
  have n2 := below_new (w.alloc (.cells #[.slice A b.length c] 28)) (.cells #[.int .i64 0] 3)
  have hA := Blk.new (w.alloc (.cells #[.slice A b.length c] 28)) 3 #[.int .i64 0]
  have hB := hB.below n2
  have s2 : ((w.alloc (.cells #[.slice A b.length c] 28)).alloc (.cells #[.int .i64 0] 3)).heap.size = w.heap.size + 2 := by simp
  rw [s1] at hA
  have bb := n1.thenB' n2
  have r2 := (r0.below n1).below n2
  have ht2 := (ht.below n1).below n2
  have hw0 := ht.lt
  obtain ⟨g, hg⟩ : ∃ g, g = w.heap.size := ⟨_, rfl⟩
  rw [← hg] at hB hA bb r2 s2 hw0
  have HG := Lib.hid hg
  have hmf : ∀ (fn : Fn) (first cap : Array Value) (w : World), (Instr.makeFunc fn first cap).run Tryd.prog w = .ok (.func fn first cap) w := fun _ _ _ _ => rfl
  clear s1 n1 n2 r0 hg
  go_enter Tryd.func35, Tryd.ntmps35
  go_wp2_with fail
  rw [← HG.out]
  generalize (w.alloc (.cells #[.slice A b.length c] 28)).alloc (.cells #[.int .i64 0] 3) = w2 at *
  go_loopw [3] (fun out wr => ∃ (a f : Nat) (pre : List Int), Hid (pre ++ wholeN f b a = wholeO b) ∧ a ≤ b.length ∧ 12 * pre.length ≤ a ∧ Hid (pre.length + f = b.length + 1) ∧ OwnI wr (g + 2) out pre ∧ Blk wr g 28 #[.slice A b.length c] ∧ Blk wr (g + 1) 3 #[.int .i64 (a : Int)] ∧ RdB wr (fun k => k < g) A b ∧ Tab wr ∧ g + 2 ≤ wr.heap.size ∧ Below g w wr) (fun out _ => b.length + 1 - lenV out)
  case atStart => exact ⟨0, b.length + 1, [], Lib.hid rfl, Nat.zero_le _, Nat.zero_le _, by unfold Hid; simp, OwnI.nil, hB, hA, r2, ht2, by omega, bb⟩
  case round =>
    clear hB hA r2 ht2 bb
    obtain ⟨a, f, pre, HP, ha, h12, HF, hown, hB, hA, r, ht, hsz, bb⟩ := hrel
    have hcall := on_any g (g + 1) _ A c b a wr hB hA r hl hc hm ha ht
    obtain ⟨f, rfl⟩ : ∃ f', f = f' + 1 := ⟨f - 1, by have := HF.out; omega⟩
    obtain ⟨A1, c1, rfl, _, _⟩ := own_form hown
    have hstep := Lib.hid (next_ok (b.drop a))
    have HD : Hid ((b.drop a).length = b.length - a) := by unfold Hid; rw [List.length_drop]
    by_cases he : (nextO (b.drop a)).e = 0
    · obtain ⟨h1, h2, h3, _⟩ := hstep.out he
      rw [HD.out] at h2
      have HP2 := Lib.hid (wholeN_more f b a he pre)
      have heb : ((nextO (b.drop a)).e == 0) = true := by simp [he]
      rw [heb] at hcall
      have hrew : (a : Int) + ((12 + (nextO (b.drop a)).body.length : Nat) : Int) = ((a + (nextO (b.drop a)).fin : Nat) : Int) := by rw [← h3]; omega
      rw [hrew] at hcall
      have ha2 : a + (nextO (b.drop a)).fin ≤ b.length := by omega
      have h122 : 12 * (pre.length + 1) ≤ a + (nextO (b.drop a)).fin := by omega
      clear he heb hrew hstep h1 h2 h3
      generalize a + (nextO (b.drop a)).fin = a' at *
      go_wp2_with fail
      refine hcall.mono ?_
      clear hcall
      rintro e w3 ⟨rfl, hA3, m3⟩
      have hown := OwnI.mod hown m3 (fun k hk e => by omega)
      have hB := hB.mod m3 (by omega)
      have r := Rd.mod r m3 (fun k hk e => by omega)
      have bm : Below g wr w3 := m3.below (by omega) (fun k hk e => by omega)
      have ht := ht.belowB hw0 bm
      have bb := bb.trans bm
      have hs3 := m3.size
      have a0 := hA3.cell 0
      simp at a0
      clear hA m3
      have hpl : pre.length ≤ 1000000 := by omega
      go_wp2_with (at_builtin; refine wpList_appI rfl (.tmp 9) (.tmp 11) rfl (g + 2) _ pre rfl (OwnI.below hown (below_new _ _)) _ (some ⟨w3.heap.size, 0, none⟩) 1 1 [(a' : Int)] rfl rfl (rd_newI w3 _) (by unfold big; simp only [List.length_cons, List.length_nil]; omega) (by simp only [World.alloc]; simp; omega) ?_; intro v' w' h1 h2)
      have bX : Below (g + 2) w3 w' := ((below_new w3 _).mono (by omega)).trans (h2.below (OwnI.below hown (below_new _ _)) (Nat.le_refl _) (by simp; omega))
      have hl2 : lenV v' = pre.length + 1 := by
        obtain ⟨A2, c2, hv, _, _⟩ := own_form h1
        rw [hv]
        show (pre ++ [(a' : Int)]).length = _
        simp
      go_roundw
      case rel => exact ⟨a', f, pre ++ [(a' : Int)], Lib.hid (HP2.out.symm.trans HP.out), ha2, by rw [List.length_append]; exact h122, Lib.hid (by have := HF.out; rw [List.length_append, List.length_singleton]; omega), h1, (bX.block g (by omega)).trans hB, (bX.block (g + 1) (by omega)).trans hA3, Rd.belowB r bX (fun k hk => by omega), ht.belowB (by omega) bX, by have := bX.size; omega, bb.trans (bX.mono (by omega))⟩
      case measure =>
        rw [hl2]
        show _ < b.length + 1 - pre.length
        omega
    · have HP2 : Hid (pre = wholeO b) := Lib.hid ((wholeN_done f b a he pre).symm.trans HP.out)
      have heb : ((nextO (b.drop a)).e == 0) = false := by simp [he]
      rw [heb] at hcall
      clear he heb hstep
      go_wp2_with fail
      refine hcall.mono ?_
      clear hcall
      rintro e w3 ⟨rfl, hA3, m3⟩
      have hown := OwnI.mod hown m3 (fun k hk e => by omega)
      have bm : Below g wr w3 := m3.below (by omega) (fun k hk e => by omega)
      have bb := bb.trans bm
      go_wp2_with fail
      go_ret
      rw [← HP2.out]
      rw [← HG.out]
      exact ⟨_, rfl, OwnI.low hown (by omega), bb⟩
end Go.Proofs.YtodfejeifbhoeaaDoor
