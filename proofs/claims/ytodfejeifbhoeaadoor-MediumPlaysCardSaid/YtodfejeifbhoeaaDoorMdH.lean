/- The document's Append of a medium. -/
import Derived.Test.YtodfejeifbhoeaaDoorMdG
namespace Go.Proofs.YtodfejeifbhoeaaDoor
open Go.RowKit
set_option linter.unusedVariables false

theorem results_cell_tmp {P : Program} {fn : Func} {p t : Tmp} {ty : TypeId} (h : fn.results = #[.cell p ty, .tmp t]) (tmps : Array Value) (w : World) (g : Nat) (T : TypeId) (cs : Array Value) (fr : Nat × Nat) (d : TypeDesc)
    (hp : tmps.getD p undef = .pointer (some ⟨g, 0, none⟩)) (hg : w.heap[g]? = some (.cells cs T fr))
    (hu : P.underlying ty = some d) (hd : (match d with | .struct _ | .array _ _ => true | _ => false) = true) (hi : (P.info? ty).map (·.size) = some cs.size) :
    (results fn tmps).run P w = .ok (.tuple #[.agg cs, tmps.getD t undef]) w := by
  have hp' : tmps[p]?.getD undef = .pointer (some ⟨g, 0, none⟩) := by simpa using hp
  simp [results, h, hp', asAddr, run_loadVar_row w g T ty cs fr d hg hu hd hi]

def one4 (v : Value) (r : Int) (u : Bool) (k : Int) : Array Value := #[v, .int .i64 r, .bool u, .int .i64 k]
theorem one4_ok (A : Option Addr) (n c : Nat) (r : Int) (u : Bool) (k : Int) : (#[.slice A n c, .int .i64 r, .bool u, .int .i64 k] : Array Value).all (·.oneCell') = true := by simp [Value.oneCell']
/-- What the document's Append tells. -/
def AppS (D : Nat → Prop) (w : World) (s : MS) (kind : Int) (body : List UInt8) (e : Ending) (w' : World) : Prop :=
  ∃ A' n' c', e = .returned (.tuple #[mW (s.app kind body).1 A' n' c', .int .i64 (s.app kind body).2]) ∧ Hid (n' = (s.app kind body).1.b.length) ∧ n' ≤ c' ∧ c' ≤ 9223372036854775807 ∧ RdB w' (fun k => D k ∨ w.heap.size ≤ k) A' (s.app kind body).1.b ∧ Below w.heap.size w w'
theorem AppS.same {D : Nat → Prop} {w w' : World} {s : MS} {kind : Int} {body : List UInt8} {y : Int} {A : Option Addr} {c : Nat} (e : s.app kind body = (s, y)) (hc : s.b.length ≤ c) (hm : c ≤ 9223372036854775807) (h : RdB w D A s.b) (b : Below w.heap.size w w') :
    AppS D w s kind body (.returned (.tuple #[.agg #[.slice A s.b.length c, .int .i64 s.room, .bool s.up, .int .i64 (cutI s.cut)], .int .i64 y])) w' := by
  unfold AppS
  rw [e]
  exact ⟨A, _, c, rfl, Lib.hid rfl, hc, hm, Rd.imp (RdB.below h b) (fun _ _ h => .inl h) (by decide), b⟩

set_option maxHeartbeats 8000000 in
set_option maxRecDepth 100000 in
theorem rAppend_any (D D2 : Nat → Prop) (A A2 : Option Addr) (c c2 : Nat) (s : MS) (kind : Int) (body : List UInt8) (w : World) (h : RdB w D A s.b) (hsl : s.b.length ≤ 2000000) (hc : s.b.length ≤ c) (hm : c ≤ 9223372036854775807) (hr : RdB w D2 A2 body) (hl : body.length ≤ 1000000) :
    Calls Tryd.prog 21 #[mW s A s.b.length c, .int .i64 kind, .slice A2 body.length c2] w (AppS D w s kind body) := by
  unfold mW
  have n1 := below_two w (.cells #[.slice A s.b.length c, .int .i64 s.room, .bool s.up, .int .i64 (cutI s.cut)] 43) (.cells #[.slice none 0 0, .int .i64 0, .bool false, .int .i64 0] 43)
  have r1 := h.below n1
  have g1 := (Blk.new w 43 #[.slice A s.b.length c, .int .i64 s.room, .bool s.up, .int .i64 (cutI s.cut)]).below (below_new _ (.cells #[.slice none 0 0, .int .i64 0, .bool false, .int .i64 0] 43))
  have g2 : Blk _ (w.heap.size + 1) _ _ := heap_alloc2_new w (.cells #[.slice A s.b.length c, .int .i64 s.room, .bool s.up, .int .i64 (cutI s.cut)] 43) (.cells #[.slice none 0 0, .int .i64 0, .bool false, .int .i64 0] 43)
  cases hup : s.up
  · have e := Lib.hid (app_down (kind := kind) (body := body) hup)
    have HUP := Lib.hid hup
    rw [hup] at n1 r1 g1 g2
    clear hup
    have FIN := fun w' b => AppS.same (w' := w') e.out hc hm h b
    rw [HUP.out] at FIN
    go_enter Tryd.func21, Tryd.ntmps21
    go_wp2_with first
      | (with_reducible show wpList _ _ _ _ _ _
         refine wpList_load_row rfl 43 (.tmp 3) rfl w.heap.size rfl 43 _ (0, 0) _ g1 Tryd.underlying43 rfl infoW ?_)
      | (with_reducible show wpList _ _ _ _ _ _
         refine wpList_store_row rfl 43 (.tmp 6) (.tmp 14) rfl (w.heap.size + 1) _ rfl rfl 43 _ g2 infoW rfl (one4_ok _ _ _ _ _ _) ?_)
    (try simp only [Exit.inBlock, Exit.then])
    refine bodyPost_ret (results_cell_tmp rfl _ _ (w.heap.size + 1) _ _ (0, 0) _ rfl (setRow_heap _ _ _ _ _ _ g2) Tryd.underlying43 rfl infoW) rfl ?_
    exact FIN _ (below_setRow n1 (by omega) _)
  · have HUP := Lib.hid hup
    rw [hup] at n1 r1 g1 g2
    have hmk := rMake_any D2 A2 c2 kind body _ (hr.below n1) hl
    have hml := makeO_len kind body
    by_cases he : (makeO kind body).2 = 0
    · have E1 := Lib.hid fun h => app_full (kind := kind) (body := body) hup he h
      have E2 := Lib.hid fun h => app_ok (kind := kind) (body := body) hup he h
      have E3 := Lib.hid fun h n => app_cut (kind := kind) (body := body) (n := n) hup he h
      have FIN := fun y w' e b => AppS.same (kind := kind) (body := body) (y := y) (w' := w') e hc hm h b
      rw [he] at hmk
      generalize (makeO kind body).1 = F at *
      rw [hup] at FIN
      clear he hup
      go_enter Tryd.func21, Tryd.ntmps21
      go_wp2_with fail
      refine hmk.mono ?_
      clear hmk
      rintro e w2 ⟨vf, rfl, of, b2⟩
      replace of := OwnB.low of (base' := w.heap.size + 2) (Nat.le_of_eq (by show _ = ((w.heap.push _).push _).size; rw [Array.size_push, Array.size_push]))
      obtain ⟨Af, nf, cf, rfl, ef, hcf, hmf⟩ := OwnB.form' of
      have rf : RdB w2 (w.heap.size + 2 ≤ ·) Af F := Rd.imp of.rd' (fun _ _ h => h.1) (by decide)
      replace g1 := g1.below b2
      replace g2 := g2.below b2
      replace r1 := r1.below b2
      replace b2 := n1.thenB' b2
      clear n1 of
      generalize hgw : w.heap.size = g at *
      have HGW := Lib.hid hgw
      clear hgw
      have hnf : nf = F.length := ef.out
      have hnfl : nf ≤ 8204 := by omega
      have EF := Lib.hid hnf
      clear hnf
      have k0 := g1.cell 0
      have k1 := g1.cell 1
      have k2 := g1.cell 2
      have k3 := g1.cell 3
      simp at k0 k1 k2 k3
      by_cases hrm : s.room < (s.b.length : Int) + (nf : Int)
      · have hd : decide (s.room < (s.b.length : Int) + (nf : Int)) = true := by simp [hrm]
        have e := Lib.hid (E1.out (by have := EF.out; omega))
        clear hrm
        go_wp2_with first
          | (with_reducible show wpList _ _ _ _ _ _
             refine wpList_load_row rfl 43 (.tmp 3) rfl g rfl 43 _ (0, 0) _ g1 Tryd.underlying43 rfl infoW ?_)
          | (with_reducible show wpList _ _ _ _ _ _
             refine wpList_store_row rfl 43 (.tmp 6) (.tmp 34) rfl (g + 1) _ rfl rfl 43 _ g2 infoW rfl (one4_ok _ _ _ _ _ _) ?_)
        (try simp only [Exit.inBlock, Exit.then])
        refine bodyPost_ret (results_cell_tmp rfl _ _ (g + 1) _ _ (0, 0) _ rfl (setRow_heap _ _ _ _ _ _ g2) Tryd.underlying43 rfl infoW) rfl ?_
        exact FIN _ _ e.out (below_setRow b2 (by omega) _)
      · have HRM : Hid (¬ s.room < (s.b.length : Int) + (F.length : Int)) := by unfold Hid; rw [← EF.out]; exact hrm
        have hd : decide (s.room < (s.b.length : Int) + (nf : Int)) = false := by simp; omega
        have f2 := g1.frozen 2
        have f3 := g1.frozen 3
        have hsl' : s.b.length ≤ big := by unfold big; omega
        have hlen1 : ([] : List UInt8).length + s.b.length ≤ big := by simpa using hsl'
        clear FIN hrm E1 hsl'
        rcases hcut : s.cut with _ | n
        · have e := Lib.hid (E2.out (by have := HRM.out; omega) hcut)
          have HC := Lib.hid hcut
          rw [hcut] at g1 k3
          clear E2 E3
          have NF := EF
          have hlen2 : Hid (([] ++ s.b).length + F.length ≤ big) := by unfold Hid; rw [← EF.out]; unfold big; simp; omega
          have hne : decide ((0 : Int) ≤ -1) = false := by decide
          unfold cutI at g1 k3
          have k2' := k3
          have hgs0 : g + 2 ≤ w2.heap.size := g2.lt
          have b2' := b2
          replace rf : RdB (w2.setCell ⟨g, 3, none⟩ (.int .i64 (-1))) _ Af F := Rd.mod rf ((Mod.refl (· = g) w2).setG 3 (.int .i64 (-1))) (fun b hb e => by omega)
          replace r1 : RdB (w2.setCell ⟨g, 3, none⟩ (.int .i64 (-1))) D A s.b := RdB.below h (by rw [HGW.out]; exact below_store (k := 3) b2' (Nat.le_refl g) _)
          replace b2 := below_store (k := 3) b2 (Nat.le_refl g) (.int .i64 (-1))
          replace g2 := g2.mod ((Mod.refl (· = g) w2).setG 3 (.int .i64 (-1))) (by omega)
          replace g1 : Blk (w2.setCell ⟨g, 3, none⟩ (.int .i64 (-1))) g _ #[.slice A s.b.length c, .int .i64 s.room, .bool true, .int .i64 (-1)] := g1.set_ 3 (.int .i64 (-1))
          have k0' := g1.cell 0
          simp at k0'
          have hg2 := g2.lt
          clear hcut
          go_wp2_with first
            | (at_builtin
               refine wpList_appB rfl (.tmp 47) (.tmp 49) rfl _ _ [] rfl OwnB.nil D A s.b.length c s.b rfl rfl r1 hlen1 (Nat.le_refl _) ?_
               intro v4 w4 h4 x4
               have b4 := Ext.of_nil x4
               replace rf := RdB.below rf b4
               have hgs4 := b4.size)
            | (at_builtin
               refine wpList_appB rfl (.tmp 51) (.tmp 52) rfl _ _ _ rfl h4 _ Af nf cf F rfl NF.out rf hlen2.out hgs4 ?_
               intro v5 w5 h5 x5
               have b5 := Ext.of_nil (Ext.trans x4 x5)
               rw [List.nil_append] at h5
               have rz5 := hg2
               replace g1 := g1.below b5
               replace g2 := g2.below b5
               replace b2 := b2.trans (b5.mono (by omega : g ≤ _))
               have k0 := g1.cell 0
               have f0 := g1.frozen 0
               simp at k0
               obtain ⟨A5, n5, c5, rfl, e5, hc5, hm5⟩ := OwnB.form' h5
               have rf5 := OwnB.rd' h5
               have g6 : Blk (w5.setCell ⟨g, 0, none⟩ (.slice A5 n5 c5)) g _ #[.slice A5 n5 c5, .int .i64 s.room, .bool true, .int .i64 (-1)] := g1.set_ 0 (.slice A5 n5 c5)
               have z6 := g2.mod ((Mod.refl (· = g) w5).setG 0 (.slice A5 n5 c5)) (by omega))
            | (with_reducible show wpList _ _ _ _ _ _
               refine wpList_load_row rfl 43 (.tmp 3) rfl g rfl 43 _ (0, 0) _ g6 Tryd.underlying43 rfl infoW ?_)
            | (with_reducible show wpList _ _ _ _ _ _
               refine wpList_store_row rfl 43 (.tmp 6) (.tmp 56) rfl (g + 1) _ rfl rfl 43 _ z6 infoW rfl (one4_ok _ _ _ _ _ _) ?_)
          (try simp only [Exit.inBlock, Exit.then])
          refine bodyPost_ret (results_cell_tmp rfl _ _ (g + 1) _ _ (0, 0) _ rfl (setRow_heap _ _ _ _ _ _ z6) Tryd.underlying43 rfl infoW) rfl ?_
          have b7 := below_setRow (g := g + 1) (below_store (k := 0) b2 (Nat.le_refl g) (.slice A5 n5 c5)) (by omega) #[.slice A5 n5 c5, .int .i64 s.room, .bool true, .int .i64 (-1)]
          have r6 := Rd.mod rf5 ((Mod.refl (· = g) w5).setG 0 (.slice A5 n5 c5)) (fun b hb e => by omega)
          have r7 := Rd.keep r6 (w' := (w5.setCell ⟨g, 0, none⟩ (.slice A5 n5 c5)).setRow (g + 1) #[.slice A5 n5 c5, .int .i64 s.room, .bool true, .int .i64 (-1)]) (fun b _ hb => setRow_other _ _ _ _ (by omega))
          unfold AppS
          rw [e.out]
          refine ⟨A5, n5, c5, ?_, ?_, hc5, hm5, ?_, by rw [HGW.out]; exact b7⟩
          · simp only [mW, HUP.out, HC.out, cutI]; rfl
          · exact e5
          · exact Rd.imp r7 (fun b _ hb => .inr (by rw [HGW.out]; omega)) (by decide)
        · have e := Lib.hid (E3.out (by have := HRM.out; omega) n hcut)
          have HC := Lib.hid (rfl : (none : Option Int) = none)
          have HK : Hid (min (max n 0) (F.length : Int) = (cutN n F : Int)) := by unfold Hid cutN; omega
          have hkl : cutN n F ≤ F.length := by unfold cutN; omega
          rw [hcut] at g1 k3
          clear E2 E3
          unfold cutI at g1 k3
          simp only at g1 k3
          have hz : decide ((0 : Int) ≤ max n 0) = true := by simp; omega
          have hk0 : min (max n 0) (nf : Int) = (cutN n F : Int) := by rw [EF.out]; exact HK.out
          generalize cutN n F = k at *
          have hkc : (k : Int) ≤ (cf : Int) := by have := EF.out; omega
          have NF : Hid (k = (F.take k).length) := by unfold Hid; rw [List.length_take]; omega
          have hlen2 : Hid (([] ++ s.b).length + (F.take k).length ≤ big) := by unfold Hid; rw [← NF.out]; have := EF.out; unfold big; simp; omega
          have hgs0 : g + 2 ≤ w2.heap.size := g2.lt
          have m3 := ((Mod.refl (· = g) w2).setG 2 (.bool false)).setG 3 (.int .i64 (-1))
          have rt := RdB.take rf hkl
          replace rf : RdB ((w2.setCell ⟨g, 2, none⟩ (.bool false)).setCell ⟨g, 3, none⟩ (.int .i64 (-1))) _ Af (F.take k) := Rd.mod rt m3 (fun b hb e => by omega)
          clear rt
          replace b2 := below_store (k := 3) (below_store (k := 2) b2 (Nat.le_refl g) (.bool false)) (Nat.le_refl g) (.int .i64 (-1))
          replace r1 : RdB ((w2.setCell ⟨g, 2, none⟩ (.bool false)).setCell ⟨g, 3, none⟩ (.int .i64 (-1))) D A s.b := RdB.below h (by rw [HGW.out]; exact b2)
          replace g2 := g2.mod m3 (by omega)
          replace g1 : Blk ((w2.setCell ⟨g, 2, none⟩ (.bool false)).setCell ⟨g, 3, none⟩ (.int .i64 (-1))) g _ #[.slice A s.b.length c, .int .i64 s.room, .bool false, .int .i64 (-1)] := (g1.set_ 2 (.bool false)).set_ 3 (.int .i64 (-1))
          have k0' := g1.cell 0
          simp at k0'
          have hg2 := g2.lt
          clear hcut
          go_wp2_with first
            | (at_builtin
               refine wpList_appB rfl (.tmp 47) (.tmp 49) rfl _ _ [] rfl OwnB.nil D A s.b.length c s.b rfl rfl r1 hlen1 (Nat.le_refl _) ?_
               intro v4 w4 h4 x4
               have b4 := Ext.of_nil x4
               replace rf := RdB.below rf b4
               have hgs4 := b4.size)
            | (at_builtin
               refine wpList_appB rfl (.tmp 51) (.tmp 52) rfl _ _ _ rfl h4 _ Af k cf (F.take k) rfl NF.out rf hlen2.out hgs4 ?_
               intro v5 w5 h5 x5
               have b5 := Ext.of_nil (Ext.trans x4 x5)
               rw [List.nil_append] at h5
               have rz5 := hg2
               replace g1 := g1.below b5
               replace g2 := g2.below b5
               replace b2 := b2.trans (b5.mono (by omega : g ≤ _))
               have k0 := g1.cell 0
               have f0 := g1.frozen 0
               simp at k0
               obtain ⟨A5, n5, c5, rfl, e5, hc5, hm5⟩ := OwnB.form' h5
               have rf5 := OwnB.rd' h5
               have g6 : Blk (w5.setCell ⟨g, 0, none⟩ (.slice A5 n5 c5)) g _ #[.slice A5 n5 c5, .int .i64 s.room, .bool false, .int .i64 (-1)] := g1.set_ 0 (.slice A5 n5 c5)
               have z6 := g2.mod ((Mod.refl (· = g) w5).setG 0 (.slice A5 n5 c5)) (by omega))
            | (with_reducible show wpList _ _ _ _ _ _
               refine wpList_load_row rfl 43 (.tmp 3) rfl g rfl 43 _ (0, 0) _ g6 Tryd.underlying43 rfl infoW ?_)
            | (with_reducible show wpList _ _ _ _ _ _
               refine wpList_store_row rfl 43 (.tmp 6) (.tmp 56) rfl (g + 1) _ rfl rfl 43 _ z6 infoW rfl (one4_ok _ _ _ _ _ _) ?_)
          (try simp only [Exit.inBlock, Exit.then])
          refine bodyPost_ret (results_cell_tmp rfl _ _ (g + 1) _ _ (0, 0) _ rfl (setRow_heap _ _ _ _ _ _ z6) Tryd.underlying43 rfl infoW) rfl ?_
          have b7 := below_setRow (g := g + 1) (below_store (k := 0) b2 (Nat.le_refl g) (.slice A5 n5 c5)) (by omega) #[.slice A5 n5 c5, .int .i64 s.room, .bool false, .int .i64 (-1)]
          have r6 := Rd.mod rf5 ((Mod.refl (· = g) w5).setG 0 (.slice A5 n5 c5)) (fun b hb e => by omega)
          have r7 := Rd.keep r6 (w' := (w5.setCell ⟨g, 0, none⟩ (.slice A5 n5 c5)).setRow (g + 1) #[.slice A5 n5 c5, .int .i64 s.room, .bool false, .int .i64 (-1)]) (fun b _ hb => setRow_other _ _ _ _ (by omega))
          unfold AppS
          rw [e.out]
          refine ⟨A5, n5, c5, ?_, ?_, hc5, hm5, ?_, by rw [HGW.out]; exact b7⟩
          · simp only [mW, cutI]; rfl
          · exact e5
          · exact Rd.imp r7 (fun b _ hb => .inr (by rw [HGW.out]; omega)) (by decide)
    · have e := Lib.hid (app_bad (kind := kind) (body := body) hup he)
      have heb : ((makeO kind body).2 != 0) = true := by simp [he]
      have FIN := fun w' b => AppS.same (w' := w') e.out hc hm h b
      rw [hup] at FIN
      generalize (makeO kind body).2 = y at *
      generalize (makeO kind body).1 = F at *
      clear he hup
      go_enter Tryd.func21, Tryd.ntmps21
      go_wp2_with fail
      refine hmk.mono ?_
      clear hmk
      rintro e' w2 ⟨vf, rfl, of, b2⟩
      replace g1 := g1.below b2
      replace g2 := g2.below b2
      replace b2 := n1.thenB' b2
      clear n1 r1 of
      generalize hgw : w.heap.size = g at *
      have HGW := Lib.hid hgw
      clear hgw
      go_wp2_with first
        | (with_reducible show wpList _ _ _ _ _ _
           refine wpList_load_row rfl 43 (.tmp 3) rfl g rfl 43 _ (0, 0) _ g1 Tryd.underlying43 rfl infoW ?_)
        | (with_reducible show wpList _ _ _ _ _ _
           refine wpList_store_row rfl 43 (.tmp 6) (.tmp 23) rfl (g + 1) _ rfl rfl 43 _ g2 infoW rfl (one4_ok _ _ _ _ _ _) ?_)
      (try simp only [Exit.inBlock, Exit.then])
      refine bodyPost_ret (results_cell_tmp rfl _ _ (g + 1) _ _ (0, 0) _ rfl (setRow_heap _ _ _ _ _ _ g2) Tryd.underlying43 rfl infoW) rfl ?_
      exact FIN _ (below_setRow b2 (by omega) _)
end Go.Proofs.YtodfejeifbhoeaaDoor
