/- The document's Records of a medium. -/
import Derived.Test.YtodfejeifbhoeaaDoorMdF
namespace Go.Proofs.YtodfejeifbhoeaaDoor
open Go.RowKit
set_option linter.unusedVariables false

set_option maxHeartbeats 4000000 in
set_option maxRecDepth 100000 in
theorem rRecords_any (D : Nat → Prop) (A0 : Option Addr) (c0 : Nat) (s : MS) (w : World) (h : RdB w D A0 s.b) (hsl : s.b.length ≤ 1000000) (hc0 : s.b.length ≤ c0) (hm0 : c0 ≤ 9223372036854775807) :
    Calls Tryd.prog 27 #[mW s A0 s.b.length c0] w fun e w' => ∃ (v1 v2 : Value) (L : List BV), e = .returned (.tuple #[v1, v2]) ∧ OwnI w' w.heap.size v1 ((recO s.b).map (·.1)) ∧ OwnS w' w.heap.size v2 (L.map cS) ∧ L.map (·.l) = (recO s.b).map (·.2) ∧ (∀ t : BV, t ∈ L → RdB w' D t.A t.l) ∧ Below w.heap.size w w' := by
  have hn1 := below_new w (.cells #[.slice A0 s.b.length c0, .int .i64 s.room, .bool s.up, .int .i64 (cutI s.cut)] 43)
  have r1 : RdB (w.alloc (.cells #[.slice A0 s.b.length c0, .int .i64 s.room, .bool s.up, .int .i64 (cutI s.cut)] 43)) (fun k => D k ∧ k < w.heap.size) A0 s.b := RdB.below (Rd.imp h (fun b hb hD => ⟨hD, hb⟩) (by decide)) hn1
  obtain ⟨n, en⟩ : ∃ n, n = s.b.length := ⟨_, rfl⟩
  have EN := Lib.hid en
  have hnc : n ≤ c0 := by omega
  rw [← en] at hn1 r1
  unfold mW
  rw [← en]
  clear en hc0
  go_enter Tryd.func27, Tryd.ntmps27
  go_wp2_with fail
  go_loopw [4, 5, 6, 7, 8, 9, 10] (fun ks bs b s7 s8 s9 s10 wr => ∃ (f m cc : Nat) (pre : List (Int × List UInt8)) (cur : List UInt8) (L : List BV) (Ac : Option Addr), Hid (pre ++ recN f cur = recO s.b) ∧ b = .slice Ac m cc ∧ Hid (m = cur.length) ∧ m ≤ cc ∧ cc ≤ 9223372036854775807 ∧ Hid (12 * pre.length + cur.length ≤ s.b.length) ∧ Hid (pre.length + f = s.b.length + 1) ∧ RdB wr (fun k => D k ∧ k < w.heap.size) Ac cur ∧ OwnI wr w.heap.size ks (pre.map (·.1)) ∧ OwnS wr w.heap.size bs (L.map cS) ∧ Sep ks bs ∧ Hid (L.map (·.l) = pre.map (·.2)) ∧ (∀ t : BV, t ∈ L → RdB wr (fun k => D k ∧ k < w.heap.size) t.A t.l) ∧ Below w.heap.size w wr) (fun _ _ b _ _ _ _ _ => lenV b)
  case atStart => exact ⟨s.b.length + 1, n, c0, [], s.b, [], A0, Lib.hid rfl, rfl, EN, hnc, hm0, by unfold Hid; simp, by unfold Hid; simp, r1, OwnI.nil, World.ownsRow_nil _ _ _ _, fun k hk => by simp [Value.ownBlock] at hk, Lib.hid rfl, fun t ht => by simp at ht, hn1⟩
  case round =>
    clear r1 hn1
    obtain ⟨f, m, cc, pre, cur, L, Ac, HP, rfl, em, hmc, hcc, HB, HF, rc, hks, hbs, hsep, HL, hrows, bb⟩ := hrel
    have hsz := bb.size
    have hcl : cur.length ≤ 1000000 := by have := HB.out; omega
    obtain ⟨f, rfl⟩ : ∃ f', f = f' + 1 := ⟨f - 1, by have := HF.out; have := HB.out; omega⟩
    have hnx := rNext_any _ Ac cc cur wr rc hcl (by rw [← em.out]; exact hmc) hcc
    rw [← em.out] at hnx
    by_cases he : (nextO cur).e = 0
    · have HP2 := Lib.hid (recN_more f cur he pre)
      have hok := next_ok cur he
      have hrl : (nextO cur).rest.length + 12 ≤ cur.length := by rw [hok.2.2.2, List.length_drop]; omega
      have HRL := Lib.hid hrl
      have HRD : Hid ((nextO cur).rest = cur.drop (nextO cur).fin) := Lib.hid hok.2.2.2
      have hfm : (nextO cur).fin ≤ m := by rw [em.out]; exact hok.2.1
      rw [he] at hnx
      have hpl : pre.length ≤ 1000000 := by have := HB.out; omega
      have hLl : L.length = pre.length := by have := congrArg List.length HL.out; simpa using this
      have HLl := Lib.hid hLl
      clear he hok hrl hLl
      generalize (nextO cur).k = nk at *
      generalize (nextO cur).body = nb at *
      generalize (nextO cur).rest = nr at *
      generalize (nextO cur).fin = nf at *
      have hfm' : (nf : Int) ≤ (m : Int) := by omega
      have hfc' : (nf : Int) ≤ (cc : Int) := by omega
      go_wp2_with fail
      refine hnx.mono ?_
      clear hnx
      rintro e w4 ⟨A1, n1, c1, rfl, en1, o1, b4⟩
      obtain rfl := en1.out
      have hks4 := OwnI.below hks b4
      have hbs4 : OwnS w4 w.heap.size u5 (L.map cS) := own_below hbs b4
      have rc4 := RdB.below rc b4
      have hrows4 : ∀ t : BV, t ∈ L ++ [⟨A1, nb, c1⟩] → RdB w4 (fun k => D k ∧ k < w.heap.size) t.A t.l := fun t ht => by
        rcases List.mem_append.1 ht with h | h
        · exact RdB.below (hrows t h) b4
        · obtain rfl : t = ⟨A1, nb, c1⟩ := by simpa using h
          exact o1
      have bb4 := bb.thenB' b4
      have hsz4 := bb4.size
      have nL := below_new w4 (.cells #[.int .i64 nk] 3)
      have hl1 : (pre.map (·.1)).length + [nk].length ≤ big := by rw [List.length_map]; unfold big; simp only [List.length_singleton]; omega
      have hl2 : L.length ≤ 1000000 := by rw [HLl.out]; exact hpl
      clear o1 hrows hks hbs
      go_wp2_with first
        | (at_builtin; refine wpList_appI rfl (.tmp 22) (.tmp 24) rfl w.heap.size _ (pre.map (·.1)) rfl (OwnI.below hks4 nL) _ (some ⟨w4.heap.size, 0, none⟩) 1 1 [nk] rfl rfl (rd_newI w4 _) hl1 (Nat.le_trans hsz4 nL.size) ?_; intro vk w5 h5 x5
           have hbs5 : OwnS w5 w.heap.size u5 (L.map cS) := own_grown (own_below hbs4 nL) x5.grown hsep
           have hsep5 := hsep.ext x5 (own_blk (own_below hbs4 nL))
           have bx5 : Below w.heap.size w4 w5 := (nL.mono hsz4).trans (x5.below (OwnI.below hks4 nL) (Nat.le_refl _) (Nat.le_trans hsz4 nL.size))
           have hrows5 : ∀ t : BV, t ∈ L ++ [⟨A1, nb, c1⟩] → RdB w5 (fun k => D k ∧ k < w.heap.size) t.A t.l := fun t ht => Rd.belowB (hrows4 t ht) bx5 (fun _ hb => hb.2)
           have rc5 := Rd.belowB rc4 bx5 (fun _ hb => hb.2)
           have bb5 := bb4.trans bx5
           have hsz5 := bb5.size
           have nM := below_new w5 (.cells #[cS ⟨A1, nb, c1⟩] 28)
           have hbs5' : OwnS (w5.alloc (.cells #[cS ⟨A1, nb, c1⟩] 28)) w.heap.size u5 (L.map cS) := own_below hbs5 nM)
        | (at_builtin; refine wpList_appS rfl (.tmp 26) (.tmp 28) rfl w.heap.size _ L rfl hbs5' _ (some ⟨w5.heap.size, 0, none⟩) 1 ⟨A1, nb, c1⟩ rfl (rd_newS w5 ⟨A1, nb, c1⟩) hl2 (Nat.le_trans hsz5 nM.size) ?_; intro vb w6 h6 x6)
      have hks6 : OwnI w6 w.heap.size vk _ := own_grown (OwnI.below h5 nM) x6.grown hsep5.symm
      have hsep6 := ((hsep5.symm).ext x6 (own_blk (OwnI.below h5 nM))).symm
      have bx6 : Below w.heap.size w5 w6 := (nM.mono hsz5).trans (x6.below hbs5' (Nat.le_refl _) (Nat.le_trans hsz5 nM.size))
      have hrows6 : ∀ t : BV, t ∈ L ++ [⟨A1, nb, c1⟩] → RdB w6 (fun k => D k ∧ k < w.heap.size) t.A t.l := fun t ht => Rd.belowB (hrows5 t ht) bx6 (fun _ hb => hb.2)
      have rr6 : RdB w6 (fun k => D k ∧ k < w.heap.size) (cutA Ac nf cc 1) nr := by rw [HRD.out]; exact RdB.drop (Rd.belowB rc5 bx6 (fun _ hb => hb.2)) (by rw [← em.out]; exact hfm) (by rw [← em.out]; exact hmc)
      have bb6 := bb5.trans bx6
      go_roundw
      case rel => exact ⟨f, m - nf, cc - nf, pre ++ [(nk, nb)], nr, L ++ [⟨A1, nb, c1⟩], cutA Ac nf cc 1, Lib.hid (HP2.out.symm.trans HP.out), rfl, Lib.hid (by rw [HRD.out, List.length_drop, em.out]), by omega, by omega, Lib.hid (by have := HB.out; have := HRL.out; rw [List.length_append, List.length_singleton]; omega), Lib.hid (by have := HF.out; rw [List.length_append, List.length_singleton]; omega), rr6, by rw [List.map_append]; exact hks6, h6, hsep6, Lib.hid (by rw [List.map_append, List.map_append, HL.out]; rfl), hrows6, bb6⟩
      case measure =>
        show m - nf < m
        have := em.out
        have := HRL.out
        have := congrArg List.length HRD.out
        rw [List.length_drop] at this
        omega
    · have HP2 : Hid (pre = recO s.b) := Lib.hid ((recN_done f cur he pre).symm.trans HP.out)
      have heb : ((nextO cur).e != 0) = true := by simp [he]
      clear he
      generalize (nextO cur).e = ne at *
      go_wp2_with fail
      refine hnx.mono ?_
      clear hnx
      rintro e w4 ⟨A1, n1, c1, rfl, en1, o1, b4⟩
      have hks4 := OwnI.below hks b4
      have hbs4 : OwnS w4 w.heap.size u5 (L.map cS) := own_below hbs b4
      have hr4 : ∀ t : BV, t ∈ L → RdB w4 D t.A t.l := fun t ht => Rd.imp (Rd.below (hrows t ht) b4) (fun k _ hk => hk.1) (by decide)
      go_wp2_with fail
      go_ret2
      rw [HP2.out] at hks4 HL
      exact ⟨_, _, L, rfl, hks4, hbs4, HL.out, hr4, bb.thenB' b4⟩
end Go.Proofs.YtodfejeifbhoeaaDoor
