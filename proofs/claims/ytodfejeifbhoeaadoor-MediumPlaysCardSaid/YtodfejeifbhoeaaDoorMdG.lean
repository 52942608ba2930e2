/- The document's Boot. -/
import Derived.Test.YtodfejeifbhoeaaDoorMdF
namespace Go.Proofs.YtodfejeifbhoeaaDoor
open Go.RowKit
set_option linter.unusedVariables false

set_option maxHeartbeats 4000000 in
set_option maxRecDepth 100000 in
theorem rBoot_any (D : Nat → Prop) (A : Option Addr) (c : Nat) (s : MS) (w : World) (h : RdB w D A s.b) (hl : s.b.length ≤ 1000000) (hc : s.b.length ≤ c) (hm : c ≤ 9223372036854775807) :
    Calls Tryd.prog 24 #[mW s A s.b.length c] w fun e w' => ∃ n', e = .returned (mW s.boot A n' c) ∧ Hid (n' = s.boot.b.length) ∧ n' ≤ c ∧ RdB w' D A s.boot.b ∧ Below w.heap.size w w' := by
  obtain ⟨t, ht⟩ : ∃ t, t = lastO (wholeO s.b) := ⟨_, rfl⟩
  have hbd := last_bd s.b
  rw [← ht] at hbd
  have HB : Hid (s.boot.b = s.b.take t) := by unfold Hid; rw [ht]; rfl
  have E : Hid (mW s.boot A t c = .agg #[.slice A t c, .int .i64 s.room, .bool true, .int .i64 (-1)]) := Lib.hid rfl
  have HT := Lib.hid ht
  have hlast := last_at (wholeO s.b)
  have hnn := fun z hz => (wholeN_bd (s.b.length + 1) s.b 0 (Nat.zero_le _) z hz).1
  have HLA : Hid (∀ h : 0 < (wholeO s.b).length, (wholeO s.b)[(wholeO s.b).length - 1] = (t : Int)) := fun h => by rw [ht]; exact hlast h hnn
  have HZ : Hid ((wholeO s.b).length = 0 → t = 0) := fun h => by rw [ht]; unfold lastO; rw [List.eq_nil_of_length_eq_zero h]; rfl
  have HWL : Hid ((wholeO s.b).length ≤ 1000001) := by
    have := wholeN_len (s.b.length + 1) s.b 0
    unfold Hid wholeO
    omega
  clear ht hlast hnn
  unfold mW at E ⊢
  have n1 := below_two w (.cells #[.slice A s.b.length c, .int .i64 s.room, .bool s.up, .int .i64 (cutI s.cut)] 43) (.cells #[.slice none 0 0, .int .i64 0, .bool false, .int .i64 0] 43)
  have r1 := h.below n1
  have g1 := (Blk.new w 43 #[.slice A s.b.length c, .int .i64 s.room, .bool s.up, .int .i64 (cutI s.cut)]).below (below_new _ (.cells #[.slice none 0 0, .int .i64 0, .bool false, .int .i64 0] 43))
  have g2 : Blk _ (w.heap.size + 1) _ _ := heap_alloc2_new w (.cells #[.slice A s.b.length c, .int .i64 s.room, .bool s.up, .int .i64 (cutI s.cut)] 43) (.cells #[.slice none 0 0, .int .i64 0, .bool false, .int .i64 0] 43)
  have hwh := rWhole_any D A c s.b _ r1 hl hc hm
  go_enter Tryd.func24, Tryd.ntmps24
  go_wp2_with fail
  refine hwh.mono ?_
  clear hwh
  rintro e w3 ⟨v3, rfl, o3, b3⟩
  have g1 := g1.below b3
  have g2 := g2.below b3
  have r3 := r1.below b3
  have bb := n1.thenB' b3
  obtain ⟨A3, c3, rfl, _, _⟩ := own_form o3
  clear n1 r1 b3
  generalize hgw : w.heap.size = g at *
  have HGW := Lib.hid hgw
  clear hgw
  have k0 := g1.cell 0
  have k2 := g1.cell 2
  have k3 := g1.cell 3
  have f0 := g1.frozen 0
  have f2 := g1.frozen 2
  have f3 := g1.frozen 3
  simp at k0 k2 k3
  have m6 := (((Mod.refl (· = g) w3).setG 0 (.slice A t c)).setG 2 (.bool true)).setG 3 (.int .i64 (-1))
  have h6 : Blk _ g _ #[.slice A t c, .int .i64 s.room, .bool true, .int .i64 (-1)] := ((g1.set_ 0 (.slice A t c)).set_ 2 (.bool true)).set_ 3 (.int .i64 (-1))
  have g6 := g2.mod m6 (by omega)
  have b6 := below_store (k := 3) (below_store (k := 2) (below_store (k := 0) bb (Nat.le_refl _) (.slice A t c)) (Nat.le_refl _) (.bool true)) (Nat.le_refl _) (.int .i64 (-1))
  have htc : t ≤ c := by omega
  have htci : (t : Int) ≤ (c : Int) := by omega
  by_cases h0 : (wholeO s.b).length = 0
  · have hb0 : decide (0 < (wholeO s.b).length) = false := by simp [h0]
    have ht0 : t = 0 := HZ.out h0
    subst ht0
    clear h0 HLA HZ
    have hz0 : (0 : Int) ≤ (c : Int) := by omega
    have hone : (#[.slice A 0 c, .int .i64 s.room, .bool true, .int .i64 (-1)] : Array Value).all (·.oneCell') = true := by simp [Value.oneCell']
    go_wp2_with first
      | (with_reducible show wpList _ _ _ _ _ _
         refine wpList_load_row rfl 43 (.tmp 1) rfl g rfl 43 _ (0, 0) _ h6 Tryd.underlying43 rfl infoW ?_)
      | (with_reducible show wpList _ _ _ _ _ _
         refine wpList_store_row rfl 43 (.tmp 2) (.tmp 24) rfl (g+1) #[.slice A 0 c, .int .i64 s.room, .bool true, .int .i64 (-1)] rfl rfl 43 _ g6 infoW rfl hone ?_)
    refine bodyPost_ret (results_cell_row rfl _ _ (g + 1) _ #[.slice A 0 c, .int .i64 s.room, .bool true, .int .i64 (-1)] (0, 0) _ rfl (setRow_heap _ _ _ _ _ _ g6) Tryd.underlying43 rfl infoW) rfl ?_
    rw [HGW.out]
    exact ⟨0, rfl, by unfold Hid; rw [HB.out, List.length_take]; omega, by omega, by rw [HB.out]; exact RdB.take (RdB.below h (by rw [HGW.out]; exact below_setRow b6 (by omega) _)) (by omega), below_setRow b6 (by omega) _⟩
  · have hb0 : decide (0 < (wholeO s.b).length) = true := by simp; omega
    obtain ⟨q, hq⟩ : ∃ q, (wholeO s.b).length = q + 1 := ⟨(wholeO s.b).length - 1, by omega⟩
    obtain ⟨ad, rfl, _, hcell⟩ := (OwnI.rd o3).at_ (show q < (wholeO s.b).length by omega)
    have hla := HLA.out (by omega)
    have hx : (wholeO s.b)[q]'(by omega) = (t : Int) := by rw [← hla]; congr 1; omega
    rw [hx] at hcell
    have hsub : ((wholeO s.b).length : Int) - 1 = (q : Int) := by omega
    have hq6 : (q : Int) < ((wholeO s.b).length : Int) := by omega
    have hqn : q < (wholeO s.b).length := by omega
    have hw1 := HWL.out
    clear hx hla hq h0 HLA HZ
    have hone : (#[.slice A t c, .int .i64 s.room, .bool true, .int .i64 (-1)] : Array Value).all (·.oneCell') = true := by simp [Value.oneCell']
    go_wp2_with first
      | (with_reducible show wpList _ _ _ _ _ _
         refine wpList_load_row rfl 43 (.tmp 1) rfl g rfl 43 _ (0, 0) _ h6 Tryd.underlying43 rfl infoW ?_)
      | (with_reducible show wpList _ _ _ _ _ _
         refine wpList_store_row rfl 43 (.tmp 2) (.tmp 24) rfl (g+1) #[.slice A t c, .int .i64 s.room, .bool true, .int .i64 (-1)] rfl rfl 43 _ g6 infoW rfl hone ?_)
    refine bodyPost_ret (results_cell_row rfl _ _ (g + 1) _ #[.slice A t c, .int .i64 s.room, .bool true, .int .i64 (-1)] (0, 0) _ rfl (setRow_heap _ _ _ _ _ _ g6) Tryd.underlying43 rfl infoW) rfl ?_
    rw [HGW.out]
    exact ⟨t, rfl, by unfold Hid; rw [HB.out, List.length_take]; omega, by omega, by rw [HB.out]; exact RdB.take (RdB.below h (by rw [HGW.out]; exact below_setRow b6 (by omega) _)) (by omega), below_setRow b6 (by omega) _⟩
end Go.Proofs.YtodfejeifbhoeaaDoor
