/- The document's Spoil of a medium. -/
import Derived.Test.YtodfejeifbhoeaaDoorMdB
import Derived.Test.YtodfejeifbhoeaaDoorMdH
namespace Go.Proofs.YtodfejeifbhoeaaDoor
open Go.RowKit
set_option linter.unusedVariables false

/-- What the document's medium is behind a step. -/
def RefS (D : Nat → Prop) (w : World) (s : MS) (e : Ending) (w' : World) : Prop :=
  ∃ A' n' c', e = .returned (mW s A' n' c') ∧ Hid (n' = s.b.length) ∧ n' ≤ c' ∧ c' ≤ 9223372036854775807 ∧ RdB w' (fun k => D k ∨ w.heap.size ≤ k) A' s.b ∧ Below w.heap.size w w'
theorem RefS.same {D : Nat → Prop} {w w' : World} {s : MS} {A : Option Addr} {c : Nat} (hc : s.b.length ≤ c) (hm : c ≤ 9223372036854775807) (h : RdB w D A s.b) (b : Below w.heap.size w w') :
    RefS D w s (.returned (.agg #[.slice A s.b.length c, .int .i64 s.room, .bool s.up, .int .i64 (cutI s.cut)])) w' :=
  ⟨A, _, c, rfl, Lib.hid rfl, hc, hm, Rd.imp (RdB.below h b) (fun _ _ h => .inl h) (by decide), b⟩
def MS.spoilR (s : MS) (at_ : Int) (bt : UInt8) : MS := if at_ < 0 ∨ s.b.length = 0 then s else s.spoil (at_.toNat % s.b.length) (maskO bt)

set_option maxHeartbeats 8000000 in
set_option maxRecDepth 100000 in
theorem rSpoil_none (D : Nat → Prop) (A : Option Addr) (c : Nat) (s : MS) (at_ : Int) (bt : UInt8) (w : World) (h : RdB w D A s.b) (hc : s.b.length ≤ c) (hm : c ≤ 9223372036854775807) (hz : at_ < 0 ∨ s.b.length = 0) :
    Calls Tryd.prog 26 #[mW s A s.b.length c, .int .i64 at_, .int .u8 (bt.toNat : Int)] w (RefS D w s) := by
  unfold mW
  have n1 := below_two w (.cells #[.slice A s.b.length c, .int .i64 s.room, .bool s.up, .int .i64 (cutI s.cut)] 43) (.cells #[.slice none 0 0, .int .i64 0, .bool false, .int .i64 0] 43)
  have g1 := (Blk.new w 43 #[.slice A s.b.length c, .int .i64 s.room, .bool s.up, .int .i64 (cutI s.cut)]).below (below_new _ (.cells #[.slice none 0 0, .int .i64 0, .bool false, .int .i64 0] 43))
  have g2 : Blk _ (w.heap.size + 1) _ _ := heap_alloc2_new w (.cells #[.slice A s.b.length c, .int .i64 s.room, .bool s.up, .int .i64 (cutI s.cut)] 43) (.cells #[.slice none 0 0, .int .i64 0, .bool false, .int .i64 0] 43)
  have FIN := fun w' b => RefS.same (w' := w') hc hm h b
  have hcases : decide (at_ < 0) = true ∨ decide (at_ < 0) = false ∧ (((s.b.length : Int)) == 0) = true := by
    by_cases h0 : at_ < 0
    · exact .inl (by simp [h0])
    · exact .inr ⟨by simp; omega, by simp; rcases hz with h | h; exact absurd h h0; exact List.length_eq_zero_iff.1 h⟩
  clear hz
  rcases hcases with hd | ⟨hd, he⟩
  all_goals
    go_enter Tryd.func26, Tryd.ntmps26
    go_wp2_with fail
    refine bodyPost_ret (results_cell_row rfl _ _ (w.heap.size + 1) _ _ (0, 0) _ rfl (heap_alloc2_new w _ _) Tryd.underlying43 rfl infoW) rfl ?_
    exact FIN _ (below_two _ _ _)

set_option maxHeartbeats 8000000 in
set_option maxRecDepth 100000 in
theorem rSpoil_one (D : Nat → Prop) (A : Option Addr) (c : Nat) (s : MS) (at_ : Nat) (bt : UInt8) (w : World) (h : RdB w D A s.b) (hl : s.b.length ≤ 1000000) (hc : s.b.length ≤ c) (hm : c ≤ 9223372036854775807) (hn : 0 < s.b.length) (hat : at_ ≤ 9223372036854775807) :
    Calls Tryd.prog 26 #[mW s A s.b.length c, .int .i64 (at_ : Int), .int .u8 (bt.toNat : Int)] w (RefS D w (s.spoil (at_ % s.b.length) (maskO bt))) := by
  unfold mW
  have n1 := below_two w (.cells #[.slice A s.b.length c, .int .i64 s.room, .bool s.up, .int .i64 (cutI s.cut)] 43) (.cells #[.slice none 0 0, .int .i64 0, .bool false, .int .i64 0] 43)
  have r1 := h.below n1
  have g1 := (Blk.new w 43 #[.slice A s.b.length c, .int .i64 s.room, .bool s.up, .int .i64 (cutI s.cut)]).below (below_new _ (.cells #[.slice none 0 0, .int .i64 0, .bool false, .int .i64 0] 43))
  have g2 : Blk _ (w.heap.size + 1) _ _ := heap_alloc2_new w (.cells #[.slice A s.b.length c, .int .i64 s.room, .bool s.up, .int .i64 (cutI s.cut)] 43) (.cells #[.slice none 0 0, .int .i64 0, .bool false, .int .i64 0] 43)
  have hN : s.b.length ≤ c := hc
  obtain ⟨n, en⟩ : ∃ n, n = s.b.length := ⟨_, rfl⟩
  have hn0 : 0 < n := by rw [en]; exact hn
  obtain ⟨k, hk⟩ : ∃ k, k = at_ % n := ⟨_, rfl⟩
  have hkn : k < n := by rw [hk]; exact Nat.mod_lt _ hn0
  have HK : Hid (at_ % s.b.length = k) := by unfold Hid; rw [← en, hk]
  have hk1 : (at_ : Int).tmod (n : Int) = (k : Int) := by rw [hk]; rfl
  have hk2 : (at_ : Int) % (n : Int) = (k : Int) := by rw [hk]; rfl
  have hkb : k < s.b.length := by rw [← en]; exact hkn
  have hnz : (n : Int) ≠ 0 := by omega
  have hnzb : ((n : Int) == 0) = false := by simp; omega
  have hki : (k : Int) < (n : Int) := by omega
  have hnn : ¬ n = 0 := by omega
  have hgd : s.b.getD k 0 = s.b[k] := gd s.b k hkb
  obtain ⟨x, hx⟩ : ∃ x, x = s.b[k] := ⟨_, rfl⟩
  have HX : Hid (∀ h : k < s.b.length, s.b[k] = x) := fun _ => hx.symm
  have HGD : Hid (s.b.getD k 0 = x) := by unfold Hid; rw [hgd, hx]
  obtain ⟨tt, htt⟩ : ∃ tt, tt = bt.toNat % 8 := ⟨_, rfl⟩
  have ht1 : (bt.toNat : Int).tmod 8 = (tt : Int) := by rw [htt]; rfl
  have ht2 : (bt.toNat : Int) % 8 = (tt : Int) := by rw [htt]; rfl
  have ht8 : tt < 8 := by omega
  have hx8 := fun m => xor8 x m
  have HTT := Lib.hid htt
  have hlen1 : ([] : List UInt8).length + s.b.length ≤ big := by unfold big; simpa using (show s.b.length ≤ _ by omega)
  have hn1 : n ≤ 1000000 := by omega
  have HKB := Lib.hid hkb
  have HN := Lib.hid en
  have ht9 : tt = 0 ∨ tt = 1 ∨ tt = 2 ∨ tt = 3 ∨ tt = 4 ∨ tt = 5 ∨ tt = 6 ∨ tt = 7 := by omega
  rw [← en] at g1 g2 n1 r1 ⊢
  have hd : decide ((at_ : Int) < 0) = false := by simp
  have hbs : w.heap.size + 2 ≤ ((w.alloc (.cells #[.slice A n c, .int .i64 s.room, .bool s.up, .int .i64 (cutI s.cut)] 43)).alloc (.cells #[.slice none 0 0, .int .i64 0, .bool false, .int .i64 0] 43)).heap.size := Nat.le_of_eq (by show _ = ((w.heap.push _).push _).size; rw [Array.size_push, Array.size_push])
  clear hk htt hgd hx ht8 hkb hl en hn0 hn hc
  rcases ht9 with rfl | rfl | rfl | rfl | rfl | rfl | rfl | rfl
  focus
    have ew : IntKind.u8.wrap 1 = 1 := by decide
    obtain ⟨y, hmk, e8⟩ : ∃ y : UInt8, Hid (y = x ^^^ maskO bt) ∧ bits .xor .u8 (x.toNat : Int) 1 = (y.toNat : Int) := ⟨x ^^^ 1, by unfold Hid maskO; rw [← HTT.out]; rfl, hx8 1⟩
  rotate_left
  focus
    have ew : IntKind.u8.wrap 2 = 2 := by decide
    obtain ⟨y, hmk, e8⟩ : ∃ y : UInt8, Hid (y = x ^^^ maskO bt) ∧ bits .xor .u8 (x.toNat : Int) 2 = (y.toNat : Int) := ⟨x ^^^ 2, by unfold Hid maskO; rw [← HTT.out]; rfl, hx8 2⟩
  rotate_left
  focus
    have ew : IntKind.u8.wrap 4 = 4 := by decide
    obtain ⟨y, hmk, e8⟩ : ∃ y : UInt8, Hid (y = x ^^^ maskO bt) ∧ bits .xor .u8 (x.toNat : Int) 4 = (y.toNat : Int) := ⟨x ^^^ 4, by unfold Hid maskO; rw [← HTT.out]; rfl, hx8 4⟩
  rotate_left
  focus
    have ew : IntKind.u8.wrap 8 = 8 := by decide
    obtain ⟨y, hmk, e8⟩ : ∃ y : UInt8, Hid (y = x ^^^ maskO bt) ∧ bits .xor .u8 (x.toNat : Int) 8 = (y.toNat : Int) := ⟨x ^^^ 8, by unfold Hid maskO; rw [← HTT.out]; rfl, hx8 8⟩
  rotate_left
  focus
    have ew : IntKind.u8.wrap 16 = 16 := by decide
    obtain ⟨y, hmk, e8⟩ : ∃ y : UInt8, Hid (y = x ^^^ maskO bt) ∧ bits .xor .u8 (x.toNat : Int) 16 = (y.toNat : Int) := ⟨x ^^^ 16, by unfold Hid maskO; rw [← HTT.out]; rfl, hx8 16⟩
  rotate_left
  focus
    have ew : IntKind.u8.wrap 32 = 32 := by decide
    obtain ⟨y, hmk, e8⟩ : ∃ y : UInt8, Hid (y = x ^^^ maskO bt) ∧ bits .xor .u8 (x.toNat : Int) 32 = (y.toNat : Int) := ⟨x ^^^ 32, by unfold Hid maskO; rw [← HTT.out]; rfl, hx8 32⟩
  rotate_left
  focus
    have ew : IntKind.u8.wrap 64 = 64 := by decide
    obtain ⟨y, hmk, e8⟩ : ∃ y : UInt8, Hid (y = x ^^^ maskO bt) ∧ bits .xor .u8 (x.toNat : Int) 64 = (y.toNat : Int) := ⟨x ^^^ 64, by unfold Hid maskO; rw [← HTT.out]; rfl, hx8 64⟩
  rotate_left
  focus
    have ew : IntKind.u8.wrap 128 = 128 := by decide
    obtain ⟨y, hmk, e8⟩ : ∃ y : UInt8, Hid (y = x ^^^ maskO bt) ∧ bits .xor .u8 (x.toNat : Int) 128 = (y.toNat : Int) := ⟨x ^^^ 128, by unfold Hid maskO; rw [← HTT.out]; rfl, hx8 128⟩
  rotate_left
  all_goals
    clear hx8
    go_enter Tryd.func26, Tryd.ntmps26
    go_wp2_with first
      | (at_builtin
         refine wpList_appB rfl (.tmp 18) (.tmp 20) rfl (w.heap.size + 2) _ [] rfl OwnB.nil D A n c s.b rfl HN.out r1 hlen1 hbs ?_
         intro v4 w4 h4 x4
         have b4 := Ext.of_nil x4
         replace g1 := g1.below b4
         replace g2 := g2.below b4
         have bb := n1.thenB' b4
         rw [List.nil_append] at h4
         clear x4 b4
         generalize hgw : w.heap.size = g at *
         have HGW := Lib.hid hgw
         clear hgw
         have k0 := g1.cell 0
         simp at k0
         obtain ⟨A4, n4, c4, rfl, e4, hc4, hm4⟩ := OwnB.form' h4
         obtain rfl : n4 = n := e4.out.trans HN.out.symm
         obtain ⟨q, hq, hq1, hq2, hcell, hfr, hst⟩ := (RowB.of_own h4).store HKB.out
         subst hq
         rw [HX.out HKB.out] at hcell
         clear hst
         have f1 := g1.mod ((Mod.refl (· = q) w4).setG k (.int .u8 (y.toNat : Int))) (by omega)
         have f2 := g2.mod ((Mod.refl (· = q) w4).setG k (.int .u8 (y.toNat : Int))) (by omega)
         have bb2 := below_store (k := k) bb (show g ≤ q by omega) (.int .u8 (y.toNat : Int))
         have k0 := f1.cell 0
         simp at k0
         have f0 := f1.frozen 0
         have g6 : Blk ((w4.setCell ⟨q, k, none⟩ (.int .u8 (y.toNat : Int))).setCell ⟨g, 0, none⟩ (.slice (some ⟨q, 0, none⟩) n4 c4)) g _ #[.slice (some ⟨q, 0, none⟩) n4 c4, .int .i64 s.room, .bool s.up, .int .i64 (cutI s.cut)] := f1.set_ 0 (.slice (some ⟨q, 0, none⟩) n4 c4)
         have z6 := f2.mod ((Mod.refl (· = g) _).setG 0 (.slice (some ⟨q, 0, none⟩) n4 c4)) (by omega)
         have bb3 := below_store (k := 0) bb2 (Nat.le_refl g) (.slice (some ⟨q, 0, none⟩) n4 c4))
      | (with_reducible show wpList _ _ _ _ _ _
         refine wpList_load_row rfl 43 (.tmp 3) rfl g rfl 43 _ (0, 0) _ g6 Tryd.underlying43 rfl infoW ?_)
      | (with_reducible show wpList _ _ _ _ _ _
         refine wpList_store_row rfl 43 (.tmp 6) (.tmp 39) rfl (g + 1) _ rfl rfl 43 _ z6 infoW rfl (one4_ok _ _ _ _ _ _) ?_)
    (try simp only [Exit.inBlock, Exit.then])
    refine bodyPost_ret (results_cell_row rfl _ _ (g + 1) _ _ (0, 0) _ rfl (setRow_heap _ _ _ _ _ _ z6) Tryd.underlying43 rfl infoW) rfl ?_
    have ho : OwnB (w4.setCell ⟨q, k, none⟩ (.int .u8 (y.toNat : Int))) (g + 2) (.slice (some ⟨q, 0, none⟩) n4 c4) (s.b.set k y) := by
      obtain rfl := HN.out
      exact OwnB.store h4 k y
    have hr := OwnB.rd' ho
    have e1 : s.spoil k (maskO bt) = { s with b := s.b.set k y } := by unfold MS.spoil; rw [HGD.out, hmk.out]
    have r7 := Rd.mod hr ((Mod.refl (· = g) _).setG 0 (.slice (some ⟨q, 0, none⟩) n4 c4)) (fun b hb e => by have := hb.1; have := HGW.out; omega)
    have r8 := Rd.keep r7 (w' := ((w4.setCell ⟨q, k, none⟩ (.int .u8 (y.toNat : Int))).setCell ⟨g, 0, none⟩ (.slice (some ⟨q, 0, none⟩) n4 c4)).setRow (g + 1) #[.slice (some ⟨q, 0, none⟩) n4 c4, .int .i64 s.room, .bool s.up, .int .i64 (cutI s.cut)]) (fun b _ hb => setRow_other _ _ _ _ (by have := hb.1; have := HGW.out; omega))
    have e2 : at_ % n4 = k := by rw [HN.out]; exact HK.out
    rw [e2, e1]
    unfold RefS
    rw [HGW.out]
    refine ⟨some ⟨q, 0, none⟩, n4, c4, rfl, Lib.hid (by rw [List.length_set]; exact HN.out), hc4, hm4, ?_, below_setRow bb3 (by omega) _⟩
    exact Rd.imp r8 (fun b _ hb => .inr (by have := hb.1; have := HGW.out; omega)) (by decide)
end Go.Proofs.YtodfejeifbhoeaaDoor
