/- Parts of the proof, joined: HdA HdB HdC HdD HdE Obj10. -/
import Derived.Test.YtpgfhbkggchliaaQd
import Derived.ScopeJumps
import Derived.WalkMore
import Derived.Laws.Rows
import Derived.Laws.ResultCell
import Derived.Test.YtpgfhbkggchliaaQc
/- Whether a head may be: the code. -/
namespace Go.Proofs.Ytpgfhbkggchliaa
open Go.RowKit
set_option linter.unusedVariables false

set_option maxHeartbeats 8000000 in
set_option maxRecDepth 100000 in
theorem Check_any6 (D : Nat → Prop) (h : HdV) (w : World) (hr : HdR w D h) :
    Calls Try.prog 16 #[hdV h] w fun e w' => e = .returned (.int .i64 (eno (mayH h) 60)) ∧ Below w.heap.size w w' := by
  obtain ⟨rm, lm, mm, hS, hl, hm, hrs⟩ := hr
  have b1 := below_new w (.cells (hdA h) 27)
  have hB := Blk.new w 27 (hdA h)
  have hS := hS.below b1
  have rm := rm.below b1
  have hrs := fun s hs => (hrs s hs).below b1
  obtain ⟨u, n, o, hz, MA, m, mc, A, L, sc, la, sq⟩ := h
  unfold hdV mayH
  unfold hdA at *
  dsimp only at *
  generalize hM : (layO u n o && (sizedO u n o hz m && (decide (L.length ≤ 4) && (decide (0 ≤ la) && (decide (la ≤ 100) && (decide (0 ≤ sq) && (decide (sq ≤ 1099511627776) && snapsO u n o la 0 (pureS L)))))))) = M
  have HM := Lib.hid hM
  clear hM
  have hlm := fun w => sCheck_any u n o w
  have hsz := fun w hh => sized_any u n o hz D MA mc m w hh (by omega)
  have hLb : L.length ≤ 9223372036854775807 := by omega
  unfold layV at hlm hsz
  go_enter Try.func16, Try.ntmps16
  go_wp2_with fail
  refine wp_scope_jumps 0 (fun a' w' => M = false ∧ Below w.heap.size w w' ∧ ∃ (u0 u1 u2 u3 u4 u5 u6 u7 u8 u9 u10 u11 u12 u13 u14 u15 u16 u17 u18 u19 u20 u21 u22 u23 u24 u25 u26 u27 u28 u29 u30 u31 u32 u33 u34 u35 u36 u37 u38 u39 u40 u41 u42 u43 u44 u45 u46 u47 u48 u49 u50 u51 u52 u53 u54 u55 u56 u57 u58 u59 u60 u61 u62 u63 u64 u65 u66 u67 u68 u69 u70 u71 u72 u73 u74 : Value), a' = { tmps := #[u0, u1, u2, u3, u4, u5, u6, u7, u8, u9, u10, u11, u12, u13, u14, u15, u16, u17, u18, u19, u20, u21, u22, u23, u24, u25, u26, u27, u28, u29, u30, u31, u32, u33, u34, u35, u36, u37, u38, u39, u40, u41, u42, u43, u44, u45, u46, u47, u48, u49, u50, u51, u52, u53, u54, u55, u56, u57, u58, u59, u60, u61, u62, u63, u64, u65, u66, u67, u68, u69, u70, u71, u72, u73, u74], defers := [] }) (fun _ _ => 0) (by rfl) ?_ ?_
  rotate_left
  focus
    rintro a' w' ⟨E, bz, u0, u1, u2, u3, u4, u5, u6, u7, u8, u9, u10, u11, u12, u13, u14, u15, u16, u17, u18, u19, u20, u21, u22, u23, u24, u25, u26, u27, u28, u29, u30, u31, u32, u33, u34, u35, u36, u37, u38, u39, u40, u41, u42, u43, u44, u45, u46, u47, u48, u49, u50, u51, u52, u53, u54, u55, u56, u57, u58, u59, u60, u61, u62, u63, u64, u65, u66, u67, u68, u69, u70, u71, u72, u73, u74, rfl⟩
    go_wp2_with fail
    (try simp only [Exit.jump])
    go_ret
    exact ⟨by rw [E]; rfl, bz⟩
  go_wp2_with fail
  generalize w.alloc (.cells #[.int .i64 u, .int .i64 n, .int .i64 o, .int .i64 hz, .slice MA m.length mc, .slice A L.length sc, .int .i64 la, .int .i64 sq] 27) = w1 at *
  refine (hlm _).mono ?_
  clear hlm
  rintro e w2 ⟨rfl, b2⟩
  cases hl0 : layO u n o
  all_goals try rw [show eno false 1 = 1 from rfl]
  all_goals try rw [show eno true 1 = 0 from rfl]
  focus
    have E : Hid (M = false) := by unfold Hid; rw [← HM.out, hl0]; rfl
    clear HM
    go_wp2_with fail
    go_step3
    (try simp only [Exit.then])
    exact ⟨rfl, E.out, b1.thenB' b2, _, _, _, _, _, _, _, _, _, _, _, _, _, _, _, _, _, _, _, _, _, _, _, _, _, _, _, _, _, _, _, _, _, _, _, _, _, _, _, _, _, _, _, _, _, _, _, _, _, _, _, _, _, _, _, _, _, _, _, _, _, _, _, _, _, _, _, _, _, _, _, _, _, _, _, rfl⟩
  have hB := hB.below b2
  have hS := hS.below b2
  have rm := rm.below b2
  have hrs := fun s hs => (hrs s hs).below b2
  have bb := b1.thenB' b2
  have c0 := hB.cell 0
  have c1 := hB.cell 1
  have c2 := hB.cell 2
  have c3 := hB.cell 3
  have c4 := hB.cell 4
  have c5 := hB.cell 5
  have c6 := hB.cell 6
  have c7 := hB.cell 7
  simp at c0 c1 c2 c3 c4 c5 c6 c7
  have hsz := hsz _ rm
  go_wp2_with fail
  refine hsz.mono ?_
  clear hsz
  rintro e w3 ⟨rfl, b3⟩
  have bb := bb.thenB' b3
  have hB := hB.below b3
  have hS := hS.below b3
  have hrs := fun s hs => (hrs s hs).below b3
  have c0 := hB.cell 0
  have c1 := hB.cell 1
  have c2 := hB.cell 2
  have c3 := hB.cell 3
  have c4 := hB.cell 4
  have c5 := hB.cell 5
  have c6 := hB.cell 6
  have c7 := hB.cell 7
  simp at c0 c1 c2 c3 c4 c5 c6 c7
  cases hs0 : sizedO u n o hz m
  focus
    have E : Hid (M = false) := by unfold Hid; rw [← HM.out, hs0]; simp
    clear HM
    go_wp2_with fail
    go_step3
    (try simp only [Exit.then])
    exact ⟨rfl, E.out, bb, _, _, _, _, _, _, _, _, _, _, _, _, _, _, _, _, _, _, _, _, _, _, _, _, _, _, _, _, _, _, _, _, _, _, _, _, _, _, _, _, _, _, _, _, _, _, _, _, _, _, _, _, _, _, _, _, _, _, _, _, _, _, _, _, _, _, _, _, _, _, _, _, _, _, _, rfl⟩
  by_cases h4 : 4 < L.length
  focus
    have E : Hid (M = false) := by unfold Hid; rw [← HM.out, decide_eq_false (show ¬ L.length ≤ 4 by omega)]; simp
    clear HM
    go_wp2_with fail
    go_step3
    (try simp only [Exit.then])
    exact ⟨rfl, E.out, bb, _, _, _, _, _, _, _, _, _, _, _, _, _, _, _, _, _, _, _, _, _, _, _, _, _, _, _, _, _, _, _, _, _, _, _, _, _, _, _, _, _, _, _, _, _, _, _, _, _, _, _, _, _, _, _, _, _, _, _, _, _, _, _, _, _, _, _, _, _, _, _, _, _, _, _, rfl⟩
  by_cases h5 : la < 0
  focus
    have E : Hid (M = false) := by unfold Hid; rw [← HM.out, decide_eq_false (show ¬ 0 ≤ la by omega)]; simp
    clear HM
    go_wp2_with fail
    go_step3
    (try simp only [Exit.then])
    exact ⟨rfl, E.out, bb, _, _, _, _, _, _, _, _, _, _, _, _, _, _, _, _, _, _, _, _, _, _, _, _, _, _, _, _, _, _, _, _, _, _, _, _, _, _, _, _, _, _, _, _, _, _, _, _, _, _, _, _, _, _, _, _, _, _, _, _, _, _, _, _, _, _, _, _, _, _, _, _, _, _, _, rfl⟩
  by_cases h6 : 100 < la
  focus
    have E : Hid (M = false) := by unfold Hid; rw [← HM.out, decide_eq_false (show ¬ la ≤ 100 by omega)]; simp
    clear HM
    go_wp2_with fail
    go_step3
    (try simp only [Exit.then])
    exact ⟨rfl, E.out, bb, _, _, _, _, _, _, _, _, _, _, _, _, _, _, _, _, _, _, _, _, _, _, _, _, _, _, _, _, _, _, _, _, _, _, _, _, _, _, _, _, _, _, _, _, _, _, _, _, _, _, _, _, _, _, _, _, _, _, _, _, _, _, _, _, _, _, _, _, _, _, _, _, _, _, _, rfl⟩
  by_cases h7 : sq < 0
  focus
    have E : Hid (M = false) := by unfold Hid; rw [← HM.out, decide_eq_false (show ¬ 0 ≤ sq by omega)]; simp
    clear HM
    go_wp2_with fail
    go_step3
    (try simp only [Exit.then])
    exact ⟨rfl, E.out, bb, _, _, _, _, _, _, _, _, _, _, _, _, _, _, _, _, _, _, _, _, _, _, _, _, _, _, _, _, _, _, _, _, _, _, _, _, _, _, _, _, _, _, _, _, _, _, _, _, _, _, _, _, _, _, _, _, _, _, _, _, _, _, _, _, _, _, _, _, _, _, _, _, _, _, _, rfl⟩
  by_cases h8 : 1099511627776 < sq
  focus
    have E : Hid (M = false) := by unfold Hid; rw [← HM.out, decide_eq_false (show ¬ sq ≤ 1099511627776 by omega)]; simp
    clear HM
    go_wp2_with fail
    go_step3
    (try simp only [Exit.then])
    exact ⟨rfl, E.out, bb, _, _, _, _, _, _, _, _, _, _, _, _, _, _, _, _, _, _, _, _, _, _, _, _, _, _, _, _, _, _, _, _, _, _, _, _, _, _, _, _, _, _, _, _, _, _, _, _, _, _, _, _, _, _, _, _, _, _, _, _, _, _, _, _, _, _, _, _, _, _, _, _, _, _, _, rfl⟩
  have HS : Hid (snapsO u n o la 0 (pureS L) = M) := by
    unfold Hid
    rw [← HM.out, hl0, hs0, decide_eq_true (show L.length ≤ 4 by omega), decide_eq_true (show 0 ≤ la by omega), decide_eq_true (show la ≤ 100 by omega), decide_eq_true (show 0 ≤ sq by omega), decide_eq_true (show sq ≤ 1099511627776 by omega)]
    simp
  clear HM
  go_wp2_with fail
  clear c0 c1 c2 c3 c4 c5 c6 c7
  go_loopw [3, 5, 47] (fun a s5 i wr => ∃ (k : Nat) (z : Int), k ≤ L.length ∧ i = .int .i64 (k : Int) ∧ a = .int .i64 z ∧ Hid (snapsO u n o la z ((pureS L).drop k) = M) ∧ Below w3.heap.size w3 wr) (fun _ _ i _ => L.length - (intOf i).toNat)
  case atStart => exact ⟨0, 0, Nat.zero_le _, rfl, rfl, HS, Below.refl _ _⟩
  case round =>
    clear HS
    obtain ⟨k, z, hk, rfl, rfl, HS, bw⟩ := hrel
    have hB := hB.below bw
    have hS := hS.below bw
    have hrs := fun s hs => (hrs s hs).below bw
    have bb := bb.thenB' bw
    have c0 := hB.cell 0
    have c1 := hB.cell 1
    have c2 := hB.cell 2
    have c5 := hB.cell 5
    have c6 := hB.cell 6
    simp at c0 c1 c2 c5 c6
    by_cases hlt : k < L.length
    · obtain ⟨ad, rfl, d0, d1, d2⟩ := hS.sn hlt
      obtain ⟨rk, lk, mk⟩ := hrs L[k] (List.getElem_mem hlt)
      have HS2 : Hid ((decide (z < L[k].id) && (decide (L[k].id ≤ la) && (sizedO u n o L[k].size L[k].m && snapsO u n o la L[k].id ((pureS L).drop (k + 1))))) = M) := by
        unfold Hid; rw [← HS.out, pure_drop L k hlt]; rfl
      have hsz2 := fun (w : World) (hh : RdI w D L[k].A L[k].m) => sized_any u n o L[k].size D L[k].A L[k].c L[k].m w hh (by omega)
      unfold layV at hsz2
      clear HS
      generalize L[k].id = id at *
      generalize L[k].size = sz at *
      generalize L[k].A = Ax at *
      generalize L[k].m = x at *
      generalize L[k].c = cx at *
      have bn := below_new wr (.cells #[.int .i64 id, .int .i64 sz, .slice Ax x.length cx] 52)
      have hsz3 := hsz2 _ (rk.below bn)
      clear hsz2 hsz
      have hB2 := hB.below bn
      have hgl := hB.lt
      have hgn : ¬ w.heap.size = wr.heap.size := by omega
      have f0 : (wr.alloc (.cells #[.int .i64 id, .int .i64 sz, .slice Ax x.length cx] 52)).cell? ⟨w.heap.size, 0, none⟩ = some (.int .i64 u) := hB2.cell 0
      have f1 : (wr.alloc (.cells #[.int .i64 id, .int .i64 sz, .slice Ax x.length cx] 52)).cell? ⟨w.heap.size, 1, none⟩ = some (.int .i64 n) := hB2.cell 1
      have f2 : (wr.alloc (.cells #[.int .i64 id, .int .i64 sz, .slice Ax x.length cx] 52)).cell? ⟨w.heap.size, 2, none⟩ = some (.int .i64 o) := hB2.cell 2
      have f6 : (wr.alloc (.cells #[.int .i64 id, .int .i64 sz, .slice Ax x.length cx] 52)).cell? ⟨w.heap.size, 6, none⟩ = some (.int .i64 la) := hB2.cell 6
      by_cases h9 : id ≤ z
      focus
        have E : Hid (M = false) := by unfold Hid; rw [← HS2.out, decide_eq_false (show ¬ z < id by omega)]; simp
        clear HS2
        go_wp2_with fail
        go_step3
        (try simp only [Exit.inBlock, Exit.then])
        exact ⟨rfl, E.out, bb.thenB' bn, _, _, _, _, _, _, _, _, _, _, _, _, _, _, _, _, _, _, _, _, _, _, _, _, _, _, _, _, _, _, _, _, _, _, _, _, _, _, _, _, _, _, _, _, _, _, _, _, _, _, _, _, _, _, _, _, _, _, _, _, _, _, _, _, _, _, _, _, _, _, _, _, _, _, _, rfl⟩
      by_cases h10 : la < id
      focus
        have E : Hid (M = false) := by unfold Hid; rw [← HS2.out, decide_eq_false (show ¬ id ≤ la by omega)]; simp
        clear HS2
        go_wp2_with fail
        go_step3
        (try simp only [Exit.inBlock, Exit.then])
        exact ⟨rfl, E.out, bb.thenB' bn, _, _, _, _, _, _, _, _, _, _, _, _, _, _, _, _, _, _, _, _, _, _, _, _, _, _, _, _, _, _, _, _, _, _, _, _, _, _, _, _, _, _, _, _, _, _, _, _, _, _, _, _, _, _, _, _, _, _, _, _, _, _, _, _, _, _, _, _, _, _, _, _, _, _, _, rfl⟩
      cases hs1 : sizedO u n o sz x
      focus
        have E : Hid (M = false) := by unfold Hid; rw [← HS2.out, hs1]; simp
        rw [hs1] at hsz3
        clear HS2 hs1
        go_wp2_with fail
        refine hsz3.mono ?_
        clear hsz3
        rintro e w4 ⟨rfl, b4⟩
        go_wp2_with fail
        go_step3
        (try simp only [Exit.inBlock, Exit.then])
        exact ⟨rfl, E.out, (bb.thenB' bn).thenB' b4, _, _, _, _, _, _, _, _, _, _, _, _, _, _, _, _, _, _, _, _, _, _, _, _, _, _, _, _, _, _, _, _, _, _, _, _, _, _, _, _, _, _, _, _, _, _, _, _, _, _, _, _, _, _, _, _, _, _, _, _, _, _, _, _, _, _, _, _, _, _, _, _, _, _, _, rfl⟩
      have E : Hid (snapsO u n o la id ((pureS L).drop (k + 1)) = M) := by
        unfold Hid; rw [← HS2.out, hs1, decide_eq_true (show z < id by omega), decide_eq_true (show id ≤ la by omega)]; simp
      have hSn := Blk.new wr 52 #[.int .i64 id, .int .i64 sz, .slice Ax x.length cx]
      rw [hs1] at hsz3
      clear HS2 hs1
      go_wp2_with fail
      refine hsz3.mono ?_
      clear hsz3
      rintro e w4 ⟨rfl, b4⟩
      have e0 := (hSn.below b4).cell 0
      simp at e0
      go_wp2_with fail
      go_roundw
      case rel => exact ⟨k + 1, id, by omega, by go_num, rfl, E, (bw.thenB' bn).thenB' b4⟩
      case measure => simp [intOf] <;> omega
    · obtain rfl : k = L.length := by omega
      have E : Hid (M = true) := by unfold Hid; rw [← HS.out, List.drop_eq_nil_of_le (by rw [pure_len]; exact Nat.le_refl _)]; rfl
      clear HS
      go_wp2_with fail
      (try simp only [Exit.jump])
      go_ret
      exact ⟨by rw [E.out]; rfl, bb⟩
end Go.Proofs.Ytpgfhbkggchliaa

/- A new head. -/
namespace Go.Proofs.Ytpgfhbkggchliaa
open Go.RowKit
set_option linter.unusedVariables false

theorem results_cell_tmp {P : Program} {fn : Func} {p t : Tmp} {ty : TypeId} (h : fn.results = #[.cell p ty, .tmp t]) (tmps : Array Value) (w : World) (g : Nat) (T : TypeId) (cs : Array Value) (fr : Nat × Nat) (d : TypeDesc)
    (hp : tmps.getD p undef = .pointer (some ⟨g, 0, none⟩)) (hg : w.heap[g]? = some (.cells cs T fr))
    (hu : P.underlying ty = some d) (hd : (match d with | .struct _ | .array _ _ => true | _ => false) = true) (hi : (P.info? ty).map (·.size) = some cs.size) :
    (results fn tmps).run P w = .ok (.tuple #[.agg cs, tmps.getD t undef]) w := by
  have hp' : tmps[p]?.getD undef = .pointer (some ⟨g, 0, none⟩) := by simpa using hp
  simp [results, h, hp', asAddr, run_loadVar_row w g T ty cs fr d hg hu hd hi]
theorem infoH : (Try.prog.info? 27).map (·.size) = some 8 := by kernel_rfl
theorem hdA_ok (h : HdV) : (hdA h).all (·.oneCell') = true := by unfold hdA; simp [Value.oneCell']
def zeroH : HdV := ⟨0, 0, 0, 0, none, [], 0, none, [], 0, 0, 0⟩
def freshH (u n o size : Int) : HdV := ⟨u, n, o, size, none, [], 0, none, [], 0, 0, 0⟩
theorem freshH_rd (u n o size : Int) (w : World) (D : Nat → Prop) : HdR w D (freshH u n o size) :=
  ⟨RdI.nil, Nat.le_refl _, by show (0 : Nat) ≤ _; omega, fun h => by simp [freshH] at h, Nat.le_refl _, by show (0 : Nat) ≤ _; omega, fun s hs => by simp [freshH] at hs⟩
set_option maxHeartbeats 4000000 in
set_option maxRecDepth 100000 in
theorem New_any (u n o z : Int) (w : World) :
    Calls Try.prog 13 #[layV u n o, .int .i64 z] w fun e w' => ((layO u n o = true ∧ 0 ≤ z ∧ z ≤ 512 ∧ e = .returned (.tuple #[hdV (freshH u n o z), .int .i64 0])) ∨ (¬ (layO u n o = true ∧ 0 ≤ z ∧ z ≤ 512) ∧ e = .returned (.tuple #[hdV zeroH, .int .i64 1]))) ∧ Below w.heap.size w w' := by
  have hck := fun w => sCheck_any u n o w
  unfold layV at hck ⊢
  go_enter Try.func13, Try.ntmps13
  go_wp2_with fail
  have g2 : Blk _ (w.heap.size + 1) _ _ := heap_alloc2_new w (.cells #[.int .i64 u, .int .i64 n, .int .i64 o] 23) (.cells #[.int .i64 0, .int .i64 0, .int .i64 0, .int .i64 0, .slice none 0 0, .slice none 0 0, .int .i64 0, .int .i64 0] 27)
  have bb : Below w.heap.size w ((w.alloc (.cells #[.int .i64 u, .int .i64 n, .int .i64 o] 23)).alloc (.cells #[.int .i64 0, .int .i64 0, .int .i64 0, .int .i64 0, .slice none 0 0, .slice none 0 0, .int .i64 0, .int .i64 0] 27)) := (below_new w _).thenB' (below_new _ _)
  have g1 := (Blk.new w 23 #[.int .i64 u, .int .i64 n, .int .i64 o]).below (below_new _ (.cells #[.int .i64 0, .int .i64 0, .int .i64 0, .int .i64 0, .slice none 0 0, .slice none 0 0, .int .i64 0, .int .i64 0] 27))
  refine (hck _).mono ?_
  clear hck
  rintro e w2 ⟨rfl, b2⟩
  have g1 := g1.below b2
  have g2 := g2.below b2
  have bb := bb.thenB' b2
  have c0 := g1.cell 0
  have c1 := g1.cell 1
  have c2 := g1.cell 2
  simp at c0 c1 c2
  have bs := fun cs => below_setRow (g := w.heap.size + 1) bb (by omega) cs
  generalize hg : w.heap.size + 1 = g at *
  have hcases : layO u n o = false ∨ (layO u n o = true ∧ decide (z < 0) = true) ∨ (layO u n o = true ∧ decide (z < 0) = false ∧ decide (512 < z) = true) ∨ (layO u n o = true ∧ decide (z < 0) = false ∧ decide (512 < z) = false) := by
    cases layO u n o
    · exact .inl rfl
    · by_cases h1 : z < 0
      · exact .inr (.inl ⟨rfl, by simp [h1]⟩)
      · by_cases h2 : 512 < z
        · exact .inr (.inr (.inl ⟨rfl, by simp; omega, by simp [h2]⟩))
        · exact .inr (.inr (.inr ⟨rfl, by simp; omega, by simp; omega⟩))
  rcases hcases with hl | ⟨hl, h1⟩ | ⟨hl, h1, h2⟩ | ⟨hl, h1, h2⟩
  rotate_right
  focus
    have hz : 0 ≤ z ∧ z ≤ 512 := by simp at h1 h2; omega
    rw [hl]
    rw [show eno true 1 = 0 from rfl]
    go_wp2_with first
      | (with_reducible show wpList _ _ _ _ _ _
         refine wpList_store_row rfl 27 (.tmp 4) (.tmp 20) rfl g (hdA (freshH u n o z)) rfl rfl 27 _ g2 infoH rfl (hdA_ok _) ?_)
    (try simp only [Exit.inBlock, Exit.then])
    refine bodyPost_ret (results_cell_tmp rfl _ _ g _ _ (0, 0) _ rfl (setRow_heap _ _ _ _ _ _ g2) Try.underlying27 rfl infoH) rfl ?_
    exact ⟨.inl ⟨hl, hz.1, hz.2, rfl⟩, bs _⟩
  focus
    have hn : ¬ (layO u n o = true ∧ 0 ≤ z ∧ z ≤ 512) := fun h => by rw [hl] at h; exact absurd h.1 (by decide)
    rw [hl]
    rw [show eno false 1 = 1 from rfl]
    go_wp2_with first
      | (with_reducible show wpList _ _ _ _ _ _
         refine wpList_store_row rfl 27 (.tmp 4) (.tmp 17) rfl g (hdA zeroH) rfl rfl 27 _ g2 infoH rfl (hdA_ok _) ?_)
    (try simp only [Exit.inBlock, Exit.then])
    refine bodyPost_ret (results_cell_tmp rfl _ _ g _ _ (0, 0) _ rfl (setRow_heap _ _ _ _ _ _ g2) Try.underlying27 rfl infoH) rfl ?_
    exact ⟨.inr ⟨hn, rfl⟩, bs _⟩
  focus
    have hn : ¬ (layO u n o = true ∧ 0 ≤ z ∧ z ≤ 512) := fun h => by simp at h1; omega
    rw [hl]
    rw [show eno true 1 = 0 from rfl]
    go_wp2_with first
      | (with_reducible show wpList _ _ _ _ _ _
         refine wpList_store_row rfl 27 (.tmp 4) (.tmp 17) rfl g (hdA zeroH) rfl rfl 27 _ g2 infoH rfl (hdA_ok _) ?_)
    (try simp only [Exit.inBlock, Exit.then])
    refine bodyPost_ret (results_cell_tmp rfl _ _ g _ _ (0, 0) _ rfl (setRow_heap _ _ _ _ _ _ g2) Try.underlying27 rfl infoH) rfl ?_
    exact ⟨.inr ⟨hn, rfl⟩, bs _⟩
  focus
    have hn : ¬ (layO u n o = true ∧ 0 ≤ z ∧ z ≤ 512) := fun h => by simp at h1 h2; omega
    rw [hl]
    rw [show eno true 1 = 0 from rfl]
    go_wp2_with first
      | (with_reducible show wpList _ _ _ _ _ _
         refine wpList_store_row rfl 27 (.tmp 4) (.tmp 17) rfl g (hdA zeroH) rfl rfl 27 _ g2 infoH rfl (hdA_ok _) ?_)
    (try simp only [Exit.inBlock, Exit.then])
    refine bodyPost_ret (results_cell_tmp rfl _ _ g _ _ (0, 0) _ rfl (setRow_heap _ _ _ _ _ _ g2) Try.underlying27 rfl infoH) rfl ?_
    exact ⟨.inr ⟨hn, rfl⟩, bs _⟩
end Go.Proofs.Ytpgfhbkggchliaa

/- Whether a head is small enough to be asked about. -/
namespace Go.Proofs.Ytpgfhbkggchliaa
open Go.RowKit
set_option linter.unusedVariables false

def fewO (h : HdV) : Bool := decide (h.m.length ≤ 1000) && (decide (h.S.length ≤ 10) && h.S.all fun s => decide (s.m.length ≤ 1000))
theorem few_bd {h : HdV} (e : fewO h = true) : h.m.length ≤ 1000 ∧ h.S.length ≤ 10 ∧ ∀ s ∈ h.S, s.m.length ≤ 1000 := by
  unfold fewO at e
  simp only [Bool.and_eq_true, decide_eq_true_eq, List.all_eq_true] at e
  exact e

set_option maxHeartbeats 4000000 in
set_option maxRecDepth 100000 in
theorem few_any (D : Nat → Prop) (h : HdV) (w : World) (hr : HdR w D h) :
    Calls Try.prog 11 #[hdV h] w fun e w' => e = .returned (.bool (fewO h)) ∧ Below w.heap.size w w' := by
  obtain ⟨rm, lm, mm, hS, hl, hm, hrs⟩ := hr
  have b1 := below_new w (.cells (hdA h) 27)
  have hB := Blk.new w 27 (hdA h)
  have hS := hS.below b1
  obtain ⟨u, n, o, hz, MA, m, mc, A, L, sc, la, sq⟩ := h
  unfold hdV fewO
  unfold hdA at *
  dsimp only at *
  generalize hM : (decide (m.length ≤ 1000) && (decide (L.length ≤ 10) && L.all fun s => decide (s.m.length ≤ 1000))) = M
  have HM := Lib.hid hM
  clear hM
  by_cases h1 : 1000 < m.length
  focus
    have E : Hid (M = false) := by unfold Hid; rw [← HM.out, decide_eq_false (show ¬ m.length ≤ 1000 by omega)]; simp
    clear HM
    go_enter Try.func11, Try.ntmps11
    go_wp2_with fail
    go_ret
    exact ⟨by rw [E.out]; rfl, b1⟩
  by_cases h2 : 10 < L.length
  focus
    have E : Hid (M = false) := by unfold Hid; rw [← HM.out, decide_eq_false (show ¬ L.length ≤ 10 by omega)]; simp
    clear HM
    go_enter Try.func11, Try.ntmps11
    go_wp2_with fail
    go_ret
    exact ⟨by rw [E.out]; rfl, b1⟩
  have HS : Hid ((L.drop 0).all (fun s => decide (s.m.length ≤ 1000)) = M) := by
    unfold Hid; rw [← HM.out, decide_eq_true (show m.length ≤ 1000 by omega), decide_eq_true (show L.length ≤ 10 by omega)]; simp
  clear HM
  go_enter Try.func11, Try.ntmps11
  go_wp2_with fail
  generalize w.alloc (.cells #[.int .i64 u, .int .i64 n, .int .i64 o, .int .i64 hz, .slice MA m.length mc, .slice A L.length sc, .int .i64 la, .int .i64 sq] 27) = w1 at *
  have c5 := hB.cell 5
  simp at c5
  go_loopw [3] (fun i wr => ∃ k : Nat, k ≤ L.length ∧ i = .int .i64 (k : Int) ∧ Hid ((L.drop k).all (fun s => decide (s.m.length ≤ 1000)) = M) ∧ w1 = wr) (fun i _ => L.length - (intOf i).toNat)
  case atStart => exact ⟨0, Nat.zero_le _, rfl, HS, rfl⟩
  case round =>
    clear HS
    obtain ⟨k, hk, rfl, HS, rfl⟩ := hrel
    by_cases hlt : k < L.length
    · obtain ⟨ad, rfl, d0, d1, d2⟩ := hS.sn hlt
      have HS2 : Hid ((decide (L[k].m.length ≤ 1000) && (L.drop (k + 1)).all (fun s => decide (s.m.length ≤ 1000))) = M) := by
        unfold Hid; rw [← HS.out, List.drop_eq_getElem_cons hlt, List.all_cons]
      clear HS
      generalize L[k].m = x at *
      generalize L[k].A = Ax at *
      generalize L[k].c = cx at *
      by_cases h9 : 1000 < x.length
      · have E : Hid (M = false) := by unfold Hid; rw [← HS2.out, decide_eq_false (show ¬ x.length ≤ 1000 by omega)]; simp
        clear HS2
        go_wp2_with fail
        go_ret
        exact ⟨by rw [E.out]; rfl, b1⟩
      · have E : Hid ((L.drop (k + 1)).all (fun s => decide (s.m.length ≤ 1000)) = M) := by
          unfold Hid; rw [← HS2.out, decide_eq_true (show x.length ≤ 1000 by omega)]; simp
        clear HS2
        go_wp2_with fail
        go_roundw
        case rel => exact ⟨k + 1, by omega, by go_num, E, trivial⟩
        case measure => simp [intOf] <;> omega
    · obtain rfl : k = L.length := by omega
      have E : Hid (M = true) := by unfold Hid; rw [← HS.out, List.drop_length]; rfl
      clear HS
      go_wp2_with fail
      go_ret
      exact ⟨by rw [E.out]; rfl, b1⟩
end Go.Proofs.Ytpgfhbkggchliaa

/- Two heads that tell the same are the same. -/
namespace Go.Proofs.Ytpgfhbkggchliaa
open Go.RowKit
set_option linter.unusedVariables false

/-- Two heads tell the same. -/
def EqH (a b : HdV) : Prop := a.u = b.u ∧ a.n = b.n ∧ a.o = b.o ∧ a.size = b.size ∧ a.m = b.m ∧ pureS a.S = pureS b.S ∧ a.last = b.last ∧ a.seq = b.seq
theorem pure_at {S T : List SnV} (h : pureS S = pureS T) (k : Nat) (h1 : k < S.length) (h2 : k < T.length) : S[k].id = T[k].id ∧ S[k].size = T[k].size ∧ S[k].m = T[k].m := by
  have := congrArg (fun l => l[k]?) h
  simp only [pureS, List.getElem?_map, List.getElem?_eq_getElem h1, List.getElem?_eq_getElem h2, Option.map_some, Option.some.injEq, Prod.mk.injEq] at this
  exact this

set_option maxHeartbeats 8000000 in
set_option maxRecDepth 100000 in
theorem rSame_yes (D D' : Nat → Prop) (a b : HdV) (w : World) (ha : HdR w D a) (hb : HdR w D' b) (he : EqH a b) (hbig : a.m.length ≤ big ∧ ∀ s ∈ a.S, s.m.length ≤ big) :
    Calls Try.prog 15 #[hdV a, hdV b] w fun e w' => e = .returned (.bool true) ∧ Below w.heap.size w w' := by
  obtain ⟨hbm, hbs⟩ := hbig
  obtain ⟨rm, lm, mm, hS, hl, hm, hrs⟩ := ha
  obtain ⟨rm', lm', mm', hS', hl', hm', hrs'⟩ := hb
  obtain ⟨u, n, o, hz, MA, m, mc, A, L, sc, la, sq⟩ := a
  obtain ⟨u', n', o', hz', MA', m', mc', A', L', sc', la', sq'⟩ := b
  unfold EqH at he
  dsimp only at *
  obtain ⟨rfl, rfl, rfl, rfl, rfl, hP, rfl, rfl⟩ := he
  have hLL : L'.length = L.length := by rw [← pure_len L', ← hP, pure_len]
  unfold hdV hdA
  dsimp only
  rw [hLL] at hl' ⊢
  have b1 := below_new w (.cells #[.int .i64 u, .int .i64 n, .int .i64 o, .int .i64 hz, .slice MA m.length mc, .slice A L.length sc, .int .i64 la, .int .i64 sq] 27)
  have hB := Blk.new w 27 #[.int .i64 u, .int .i64 n, .int .i64 o, .int .i64 hz, .slice MA m.length mc, .slice A L.length sc, .int .i64 la, .int .i64 sq]
  have hsz : (w.alloc (.cells #[.int .i64 u, .int .i64 n, .int .i64 o, .int .i64 hz, .slice MA m.length mc, .slice A L.length sc, .int .i64 la, .int .i64 sq] 27)).heap.size = w.heap.size + 1 := Array.size_push ..
  generalize hw1 : w.alloc (.cells #[.int .i64 u, .int .i64 n, .int .i64 o, .int .i64 hz, .slice MA m.length mc, .slice A L.length sc, .int .i64 la, .int .i64 sq] 27) = w1 at *
  have b2 := below_new w1 (.cells #[.int .i64 u, .int .i64 n, .int .i64 o, .int .i64 hz, .slice MA' m.length mc', .slice A' L.length sc', .int .i64 la, .int .i64 sq] 27)
  have hB' := Blk.new w1 27 #[.int .i64 u, .int .i64 n, .int .i64 o, .int .i64 hz, .slice MA' m.length mc', .slice A' L.length sc', .int .i64 la, .int .i64 sq]
  have hin := Ints_any D D' MA MA' mc mc' m m ((rm.below b1).below b2) ((rm'.below b1).below b2) hbm hbm
  rw [decide_eq_true rfl] at hin
  go_enter Try.func15, Try.ntmps15
  rw [← hw1] at *
  go_wp2_with fail
  refine hin.mono ?_
  clear hin
  rintro e wz ⟨rfl, k1, rfl⟩
  have bb := (b1.thenB' b2)
  have hg1 := hB.below b2
  have rS := (hS.below b1).below b2
  have rS' := (hS'.below b1).below b2
  have q := fun s hs => ((hrs s hs).below b1).below b2
  have q' := fun s hs => ((hrs' s hs).below b1).below b2
  rw [hsz] at hB'
  clear b1 b2 hB hS hS' hrs hrs' rm rm' hw1
  generalize (w.alloc (.cells #[.int .i64 u, .int .i64 n, .int .i64 o, .int .i64 hz, .slice MA m.length mc, .slice A L.length sc, .int .i64 la, .int .i64 sq] 27)).alloc (.cells #[.int .i64 u, .int .i64 n, .int .i64 o, .int .i64 hz, .slice MA' m.length mc', .slice A' L.length sc', .int .i64 la, .int .i64 sq] 27) = wy at *
  have bd : Below wy.heap.size wy (wy.drewN k1) := below_drewN (Below.refl _ _) k1
  have bb := bb.thenB' bd
  have hg1 := hg1.below bd
  have hg2 := hB'.below bd
  have rS := rS.below bd
  have rS' := rS'.below bd
  have q := fun s hs => (q s hs).below bd
  have q' := fun s hs => (q' s hs).below bd
  generalize wy.drewN k1 = wz at *
  clear bd hB'
  have c0 := hg1.cell 0
  have c1 := hg1.cell 1
  have c2 := hg1.cell 2
  have c3 := hg1.cell 3
  have c5 := hg1.cell 5
  have c6 := hg1.cell 6
  have c7 := hg1.cell 7
  have d0 := hg2.cell 0
  have d1 := hg2.cell 1
  have d2 := hg2.cell 2
  have d3 := hg2.cell 3
  have d5 := hg2.cell 5
  have d6 := hg2.cell 6
  have d7 := hg2.cell 7
  simp at c0 c1 c2 c3 c5 c6 c7 d0 d1 d2 d3 d5 d6 d7
  go_wp2_with fail
  go_loopw [6, 7, 8, 9] (fun i s7 s8 s9 wr => ∃ k : Nat, k ≤ L.length ∧ i = .int .i64 (k : Int) ∧ Below wz.heap.size wz wr) (fun i _ _ _ _ => L.length - (intOf i).toNat)
  case atStart => exact ⟨0, Nat.zero_le _, rfl, Below.refl _ _⟩
  case round =>
    clear c0 c1 c2 c3 c5 c6 c7 d0 d1 d2 d3 d5 d6 d7
    obtain ⟨k, hk, rfl, bw⟩ := hrel
    have hg1 := hg1.below bw
    have hg2 := hg2.below bw
    have bb := bb.thenB' bw
    have c5 := hg1.cell 5
    simp at c5
    by_cases hlt : k < L.length
    · have hlt' : k < L'.length := by omega
      have rS := rS.below bw
      have rS' := rS'.below bw
      obtain ⟨ad, rfl, e0, e1, e2⟩ := rS.sn hlt
      have bX := below_new wr (.cells #[.int .i64 L[k].id, .int .i64 L[k].size, .slice L[k].A L[k].m.length L[k].c] 52)
      have d5 := (hg2.below bX).cell 5
      obtain ⟨ad', rfl, f0, f1, f2⟩ := (rS'.below bX).sn hlt'
      have hpa := pure_at hP k hlt hlt'
      have q1 := q L[k] (List.getElem_mem hlt)
      have q2 := q' L'[k] (List.getElem_mem hlt')
      have hbk := hbs L[k] (List.getElem_mem hlt)
      rw [← hpa.1] at f0
      rw [← hpa.2.1] at f1
      rw [← hpa.2.2] at f2
      unfold SnR at q2
      rw [← hpa.2.2] at q2
      have p1 := (q1.1.below bw).below bX
      have p2 := (q2.1.below bw).below bX
      clear hpa q1 q2
      generalize L[k].id = z1 at *
      generalize L[k].size = z2 at *
      generalize L[k].A = B1 at *
      generalize L[k].m = x at *
      generalize L[k].c = y1 at *
      generalize L'[k].A = B2 at *
      generalize L'[k].c = y2 at *
      have gl := hg2.lt
      have gn : ¬ w.heap.size + 1 = wr.heap.size := by omega
      have X2 := Blk.new wr 52 #[.int .i64 z1, .int .i64 z2, .slice B1 x.length y1]
      have sX : (wr.alloc (.cells #[.int .i64 z1, .int .i64 z2, .slice B1 x.length y1] 52)).heap.size = wr.heap.size + 1 := Array.size_push ..
      have bY := below_new (wr.alloc (.cells #[.int .i64 z1, .int .i64 z2, .slice B1 x.length y1] 52)) (.cells #[.int .i64 z1, .int .i64 z2, .slice B2 x.length y2] 52)
      have hin := Ints_any D D' B1 B2 y1 y2 x x (p1.below bY) (p2.below bY) hbk hbk
      rw [decide_eq_true rfl] at hin
      have d5' : (wr.alloc (.cells #[.int .i64 z1, .int .i64 z2, .slice B1 x.length y1] 52)).cell? ⟨w.heap.size + 1, 5, none⟩ = some (.slice (some ad') L.length sc') := d5
      go_wp2_with fail
      refine hin.mono ?_
      clear hin
      rintro e wv ⟨rfl, k2, rfl⟩
      go_wp2_with fail
      go_roundw
      case rel => exact ⟨k + 1, by omega, by go_num, (bw.thenB' bX).thenB' (bY.thenB' (below_drewN (Below.refl _ _) k2))⟩
      case measure => simp [intOf] <;> omega
    · go_wp2_with fail
      go_ret
      exact ⟨rfl, bb⟩
end Go.Proofs.Ytpgfhbkggchliaa

/- A head as an argument. -/
namespace Go.Proofs.Ytpgfhbkggchliaa
open Go.ChangeShapes Go.WideShapes Go.ChangeAt Go.RowKit
set_option linter.unusedVariables false

/-- The numbers of a head are numbers that an int holds. -/
def HdI (h : HdV) : Prop := I64 h.u ∧ I64 h.n ∧ I64 h.o ∧ I64 h.size ∧ (∀ z ∈ h.m, I64 z) ∧ (∀ s ∈ h.S, I64 s.id ∧ I64 s.size ∧ ∀ z ∈ s.m, I64 z) ∧ I64 h.last ∧ I64 h.seq
section
variable {H : Type} {enc : TypeId × Value → H} {w : World} {base : Nat} {spare : Nat → Bool} {held : Bool} {fuel : Nat} {cs : List Value} {x : DataW H × List MemPlace}
theorem readSn (h : DataW.trod enc Try.prog w base spare held fuel 25 cs = some x) :
    ∃ A L c, cs = [.slice A L.length c] ∧ RdL w (Old w) 3 snC A L ∧ L.length ≤ c ∧ c ≤ 9223372036854775807 ∧ (A = none → c = 0) ∧ ∀ s ∈ L, SnR w (Old w) s ∧ I64 s.id ∧ I64 s.size ∧ ∀ z ∈ s.m, I64 z :=
  readL Try.underlying25 Try.underlying52 (by kernel_rfl) (by kernel_rfl) snC (fun s => SnR w (Old w) s ∧ I64 s.id ∧ I64 s.size ∧ ∀ z ∈ s.m, I64 z) (by
    intro b o hj
    obtain ⟨v0, n0, y0, c0, h0⟩ := hj 0 _ rfl
    obtain ⟨v1, n1, y1, c1, h1⟩ := hj 1 _ rfl
    obtain ⟨v2, n2, y2, c2, h2⟩ := hj 2 _ rfl
    obtain ⟨a0, e0, i0⟩ := readN h0
    obtain ⟨a1, e1, i1⟩ := readN h1
    obtain ⟨Am, m, cm, e2, rm, lm, mm, _, im⟩ := readI h2
    simp only [List.cons.injEq, and_true] at e0 e1 e2
    subst e0 e1 e2
    refine ⟨⟨a0, a1, Am, m, cm⟩, ⟨⟨rm, lm, mm⟩, i0, i1, im⟩, fun j v hv => ?_⟩
    match j, hv with
    | 0, hv => injection hv with hv; subst hv; exact c0
    | 1, hv => injection hv with hv; subst hv; exact c1
    | 2, hv => injection hv with hv; subst hv; exact c2
    | j + 3, hv => simp [snC] at hv) h (by decide) (fun _ => rfl)
end
theorem trod_at {H : Type} {enc : TypeId × Value → H} {P : Program} {w : World} {base : Nat} {spare : Nat → Bool} {held : Bool} {t : TypeId} {fs : Array Field} {fuel : Nat} {cs : List Value} {x : DataW H × List MemPlace} (ht : P.underlying t = some (.struct fs)) (h : DataW.trod enc P w base spare held fuel t cs = some x) :
    ∃ n, cs.length = P.cellsOf t ∧ ∀ (i : Nat) (f : Field), fs[i]? = some f → ∀ (t : TypeId) (k o : Nat), P.cellsOf t = k → f.type = t → f.offset = o → ∃ y, DataW.trod enc P w base spare held n t ((cs.drop o).take k) = some y := by
  obtain ⟨xs, n, _, _, hl, hx, hat⟩ := DataW.trod_struct ht h
  refine ⟨n, hl, fun i f hf t k o hk ht ho => ?_⟩
  subst hk ht ho
  have hi : i < fs.size := (Array.getElem?_eq_some_iff.1 hf).1
  exact ⟨xs[i]'(by omega), (hat i f hf).trans (List.getElem?_eq_getElem (by omega))⟩
theorem eight {α : Type} {l : List α} {x0 x1 x2 x3 x4 x5 x6 x7 : α} (hl : l.length = 8) (h0 : (((l.drop 0).take 3).drop 0).take 1 = [x0]) (h1 : (((l.drop 0).take 3).drop 1).take 1 = [x1]) (h2 : (((l.drop 0).take 3).drop 2).take 1 = [x2])
    (h3 : (l.drop 3).take 1 = [x3]) (h4 : (l.drop 4).take 1 = [x4]) (h5 : (l.drop 5).take 1 = [x5]) (h6 : (l.drop 6).take 1 = [x6]) (h7 : (l.drop 7).take 1 = [x7]) : l = [x0, x1, x2, x3, x4, x5, x6, x7] := by
  match l, hl with
  | [a0, a1, a2, a3, a4, a5, a6, a7], _ =>
    simp only [List.drop_zero, List.drop_succ_cons, List.take_succ_cons, List.take_zero, List.cons.injEq, and_true] at h0 h1 h2 h3 h4 h5 h6 h7
    subst h0 h1 h2 h3 h4 h5 h6 h7
    rfl
theorem openH {H : Type} {enc : TypeId × Value → H} {W : World} {base : Nat} {v : Value} {d : DataW H} {p : List MemPlace}
    (hv : Value.okWide Try.prog W .any base 27 v) (h : DataW.Trod enc Try.prog W 0 (fun _ => true) true 27 v d p) :
    ∃ h : HdV, v = hdV h ∧ HdR W (Old W) h ∧ HdI h := by
  obtain ⟨cs, rfl, hsz⟩ := okWide_struct Try.underlying27 hv
  obtain ⟨fuel, hf⟩ := h
  obtain ⟨n, hlen, hat⟩ := trod_at Try.underlying27 hf
  have c1 : Try.prog.cellsOf 3 = 1 := by kernel_rfl
  have c2 : Try.prog.cellsOf 24 = 1 := by kernel_rfl
  have c3 : Try.prog.cellsOf 25 = 1 := by kernel_rfl
  have c4 : Try.prog.cellsOf 23 = 3 := by kernel_rfl
  have c8 : Try.prog.cellsOf 27 = 8 := by kernel_rfl
  obtain ⟨_, h0⟩ := hat 0 _ rfl 23 3 0 c4 rfl rfl
  obtain ⟨_, h1⟩ := hat 1 _ rfl 3 1 3 c1 rfl rfl
  obtain ⟨_, h2⟩ := hat 2 _ rfl 24 1 4 c2 rfl rfl
  obtain ⟨_, h3⟩ := hat 3 _ rfl 25 1 5 c3 rfl rfl
  obtain ⟨_, h4⟩ := hat 4 _ rfl 3 1 6 c1 rfl rfl
  obtain ⟨_, h5⟩ := hat 5 _ rfl 3 1 7 c1 rfl rfl
  obtain ⟨n', _, hat'⟩ := trod_at Try.underlying23 h0
  obtain ⟨_, g0⟩ := hat' 0 _ rfl 3 1 0 c1 rfl rfl
  obtain ⟨_, g1⟩ := hat' 1 _ rfl 3 1 1 c1 rfl rfl
  obtain ⟨_, g2⟩ := hat' 2 _ rfl 3 1 2 c1 rfl rfl
  obtain ⟨zu, eu, iu⟩ := readN g0
  obtain ⟨zn, en, in_⟩ := readN g1
  obtain ⟨zo, eo, io⟩ := readN g2
  obtain ⟨zs, es, is_⟩ := readN h1
  obtain ⟨MA, m, mc, em, rm, lm, mm, _, im⟩ := readI h2
  obtain ⟨SA, S, sc, eS, rS, lS, mS, _, iS⟩ := readSn h3
  obtain ⟨zl, el, il⟩ := readN h4
  obtain ⟨zq, eq, iq⟩ := readN h5
  refine ⟨⟨zu, zn, zo, zs, MA, m, mc, SA, S, sc, zl, zq⟩, ?_, ⟨rm, lm, mm, rS, lS, mS, fun s hs => (iS s hs).1⟩, iu, in_, io, is_, im, fun s hs => (iS s hs).2, il, iq⟩
  rw [c8] at hlen
  have hl := eight hlen eu en eo es em eS el eq
  have hcs : cs.toList = _ := hl
  unfold hdV hdA
  rw [← hcs]
end Go.Proofs.Ytpgfhbkggchliaa

namespace Go.Proofs.Ytpgfhbkggchliaa
open Go.RowKit
set_option linter.unusedVariables false

set_option maxHeartbeats 1000000 in
set_option maxRecDepth 100000 in
theorem Changed_any (D D' D2 : Nat → Prop) (A B : Option Addr) (c d : Nat) (m : List Int) (L : List RV) (w : World) (h : RdI w D A m) (hL : RdL w D' 1 rowC B L) (hs : ∀ s ∈ L, RdI w D2 s.A s.l) (hl : L.length ≤ 9223372036854775807) :
    Calls Try.prog 55 #[.slice A m.length c, .slice B L.length d] w fun e w' => ∃ v, e = .returned v ∧ OwnI w' w.heap.size v (changedO m (L.map (·.l))) ∧ Below w.heap.size w w' := by
  have h' : RdI w (fun b => D b ∧ b < w.heap.size) A m := Rd.imp h (fun b h1 h2 => ⟨h2, h1⟩) (by decide)
  have hL' : RdL w (fun b => D' b ∧ b < w.heap.size) 1 rowC B L := hL.imp (fun _ => Nat.zero_lt_one) (fun b h1 h2 => ⟨h2, h1⟩)
  have hs' : ∀ s ∈ L, RdI w (fun b => D2 b ∧ b < w.heap.size) s.A s.l := fun s hm => Rd.imp (hs s hm) (fun b h1 h2 => ⟨h2, h1⟩) (by decide)
  obtain ⟨p, hp⟩ : ∃ p, p = diffO m (L.map (·.l)) := ⟨_, rfl⟩
  have HC : Hid (changedO m (L.map (·.l)) = chg p 512) := by rw [hp]; rfl
  have HP : Hid (∀ k, p k = L.any fun s => dd (gN s.l k) (gN m k)) := fun k => by rw [hp, diffO_eq]
  clear hp
  go_enter Try.func55, Try.ntmps55
  go_wp2_with fail
  go_loopw [5, 6, 7, 9, 10, 11] (fun b b6 b7 b9 b10 i wr => ∃ k : Nat, k ≤ 512 ∧ i = .int .i64 (k : Int) ∧ OwnI wr w.heap.size b (chg p k) ∧ Below w.heap.size w wr) (fun _ _ _ _ _ i _ => 512 - (intOf i).toNat)
  case atStart => exact ⟨0, Nat.zero_le _, rfl, OwnI.nil, Below.refl _ _⟩
  case round =>
    obtain ⟨k, hk, rfl, hown, bb⟩ := hrel
    by_cases hlt : k < 512
    · have hcall := Get_any _ A c m k wr (Rd.belowB h' bb (fun _ h => h.2))
      rw [gO_nat] at hcall
      have HY : Hid (∀ b, p k = b → (L.any fun s => dd (gN s.l k) (gN m k)) = b) := fun b hb => by rw [← HP.out, hb]
      generalize gN m k = y at *
      have HN := Lib.hid (chg_no p k)
      have HS := Lib.hid (chg_yes p k)
      have hql := chg_len p k
      obtain ⟨xs, hxs⟩ : ∃ xs, xs = chg p k := ⟨_, rfl⟩
      rw [← hxs] at hown HN HS hql
      clear hxs
      have LR := hL'.belowB bb (fun _ h => h.2)
      have LS : ∀ s ∈ L, RdI wr (fun b => D2 b ∧ b < w.heap.size) s.A s.l := fun s hm => Rd.belowB (hs' s hm) bb (fun _ h => h.2)
      by_cases hy : y = 0
      ·
        have hyb : (y != 0) = false := by simp [hy]
        have hdz : Hid (∀ z, z ≠ 1 → dd z y = (z != 0)) := fun z hz => by
          unfold dd
          by_cases h : z = 0 <;> simp [hy, hz, h]
        clear hy
        go_wp2_with fail
        with_reducible refine hcall.mono ?_
        clear hcall
        rintro e w1 ⟨rfl, rfl⟩
        go_wp2_with fail
        go_loopw [5, 9, 10, 20] (fun b5 b9 b10 i wr' => ∃ j : Nat, j ≤ L.length ∧ i = .int .i64 (j : Int) ∧ b5 = u5 ∧ ((L.take j).any fun s => dd (gN s.l k) y) = false ∧ wr = wr') (fun _ _ _ i _ => L.length - (intOf i).toNat)
        case atStart => exact ⟨0, Nat.zero_le _, rfl, rfl, rfl, rfl⟩
        case round =>
          obtain ⟨j, hj, rfl, rfl, hf, rfl⟩ := hrel
          have HF := Lib.hid hf
          clear hf
          by_cases hj2 : j < L.length
          · obtain ⟨ad, e0, hcell⟩ := LR.row hj2
            have hcall := Get_any _ _ L[j].c _ k wr (LS _ (List.getElem_mem hj2))
            rw [gO_nat] at hcall
            have HT : Hid (dd (gN L[j].l k) y = false → ((L.take (j + 1)).any fun s => dd (gN s.l k) y) = false) := fun hb => by
              rw [any_take _ _ _ hj2, HF.out, hb]; rfl
            have HA : Hid (dd (gN L[j].l k) y = true → p k = true) := fun hb => by
              have hb2 : (L.any fun s => dd (gN s.l k) y) = true := List.any_eq_true.2 ⟨_, List.getElem_mem hj2, hb⟩
              have := HY.out _ rfl
              rw [← this]; exact hb2
            subst e0
            generalize gN L[j].l k = z at *
            generalize L[j] = s at *
            obtain ⟨sA, sl, sc⟩ := s
            simp only at hcell hcall
            by_cases z1 : z = 1
            · have hd : dd z y = true := by unfold dd; simp [z1]
              have hpk := HA.out hd
              have h1 := HS.out hpk
              have HE := Lib.hid h1
              subst z1
              clear hd hpk h1 HT HA
              go_wp2_with fail
              with_reducible refine hcall.mono ?_
              rintro e w3 ⟨rfl, rfl⟩
              go_wp2_with (at_builtin; refine wpList_appI rfl (.tmp 35) (.tmp 37) rfl w.heap.size _ xs rfl (OwnI.below hown (below_new _ _)) _ (some ⟨wr.heap.size, 0, none⟩) 1 1 [(k : Int)] rfl rfl (rd_newI wr k) (by unfold big; simp only [List.length_cons, List.length_nil]; omega) (Nat.le_trans bb.size (below_new wr _).size) ?_; intro v' w' h1 h2)
              have b2 := (bb.thenB' (below_new wr _)).trans (h2.below (OwnI.below hown (below_new wr _)) (Nat.le_refl _) (Nat.le_trans bb.size (below_new wr _).size))
              go_roundw
              case rel => exact ⟨k + 1, by omega, by go_num, by rw [HE.out]; exact h1, b2⟩
              case measure => simp [intOf] <;> omega
            · have hd := hdz.out z z1
              have z1b : (z == 1) = false := by simp [z1]
              by_cases z0 : z = 0
              ·
                have z0b : (z != 0) = false := by simp [z0]
                have z0c : (z == 0) = true := by simp [z0]
                have hd2 : dd z y = false := by rw [hd]; exact z0b
                have HN2 := Lib.hid (HT.out hd2)
                clear hd hd2 HT HA z0 z1 z0c
                go_wp2_with fail
                with_reducible refine hcall.mono ?_
                rintro e w3 ⟨rfl, rfl⟩
                go_wp2_with fail
                go_roundw
                case rel => exact ⟨j + 1, by omega, by go_num, rfl, HN2.out, trivial⟩
                case measure => simp [intOf] <;> omega
              ·
                have z0b : (z != 0) = true := by simp [z0]
                have z0c : (z == 0) = false := by simp [z0]
                have hd2 : dd z y = true := by rw [hd]; exact z0b
                have h1 := HS.out (HA.out hd2)
                have HE := Lib.hid h1
                clear hd hd2 h1 HT HA z0 z1 z0c
                go_wp2_with fail
                with_reducible refine hcall.mono ?_
                rintro e w3 ⟨rfl, rfl⟩
                go_wp2_with (at_builtin; refine wpList_appI rfl (.tmp 35) (.tmp 37) rfl w.heap.size _ xs rfl (OwnI.below hown (below_new _ _)) _ (some ⟨wr.heap.size, 0, none⟩) 1 1 [(k : Int)] rfl rfl (rd_newI wr k) (by unfold big; simp only [List.length_cons, List.length_nil]; omega) (Nat.le_trans bb.size (below_new wr _).size) ?_; intro v' w' h1 h2)
                have b2 := (bb.thenB' (below_new wr _)).trans (h2.below (OwnI.below hown (below_new wr _)) (Nat.le_refl _) (Nat.le_trans bb.size (below_new wr _).size))
                go_roundw
                case rel => exact ⟨k + 1, by omega, by go_num, by rw [HE.out]; exact h1, b2⟩
                case measure => simp [intOf] <;> omega
          · obtain rfl : j = L.length := by omega
            have hf := HF.out
            rw [List.take_of_length_le (Nat.le_refl _)] at hf
            have hpk : p k = false := by
              have := HY.out _ rfl
              rw [← this]; exact hf
            have h1 := HN.out hpk
            have HE := Lib.hid h1
            clear hf hpk h1
            go_wp2_with fail
            go_roundw
            case rel => exact ⟨k + 1, by omega, by go_num, by rw [HE.out]; exact hown, bb⟩
            case measure => simp [intOf] <;> omega
      ·
        have hyb : (y != 0) = true := by simp [hy]
        have hdz : Hid (∀ z, z ≠ 1 → dd z y = (z == 0)) := fun z hz => by
          unfold dd
          by_cases h : z = 0 <;> simp [hy, hz, h]
        clear hy
        go_wp2_with fail
        with_reducible refine hcall.mono ?_
        clear hcall
        rintro e w1 ⟨rfl, rfl⟩
        go_wp2_with fail
        go_loopw [5, 9, 10, 20] (fun b5 b9 b10 i wr' => ∃ j : Nat, j ≤ L.length ∧ i = .int .i64 (j : Int) ∧ b5 = u5 ∧ ((L.take j).any fun s => dd (gN s.l k) y) = false ∧ wr = wr') (fun _ _ _ i _ => L.length - (intOf i).toNat)
        case atStart => exact ⟨0, Nat.zero_le _, rfl, rfl, rfl, rfl⟩
        case round =>
          obtain ⟨j, hj, rfl, rfl, hf, rfl⟩ := hrel
          have HF := Lib.hid hf
          clear hf
          by_cases hj2 : j < L.length
          · obtain ⟨ad, e0, hcell⟩ := LR.row hj2
            have hcall := Get_any _ _ L[j].c _ k wr (LS _ (List.getElem_mem hj2))
            rw [gO_nat] at hcall
            have HT : Hid (dd (gN L[j].l k) y = false → ((L.take (j + 1)).any fun s => dd (gN s.l k) y) = false) := fun hb => by
              rw [any_take _ _ _ hj2, HF.out, hb]; rfl
            have HA : Hid (dd (gN L[j].l k) y = true → p k = true) := fun hb => by
              have hb2 : (L.any fun s => dd (gN s.l k) y) = true := List.any_eq_true.2 ⟨_, List.getElem_mem hj2, hb⟩
              have := HY.out _ rfl
              rw [← this]; exact hb2
            subst e0
            generalize gN L[j].l k = z at *
            generalize L[j] = s at *
            obtain ⟨sA, sl, sc⟩ := s
            simp only at hcell hcall
            by_cases z1 : z = 1
            · have hd : dd z y = true := by unfold dd; simp [z1]
              have hpk := HA.out hd
              have h1 := HS.out hpk
              have HE := Lib.hid h1
              subst z1
              clear hd hpk h1 HT HA
              go_wp2_with fail
              with_reducible refine hcall.mono ?_
              rintro e w3 ⟨rfl, rfl⟩
              go_wp2_with (at_builtin; refine wpList_appI rfl (.tmp 35) (.tmp 37) rfl w.heap.size _ xs rfl (OwnI.below hown (below_new _ _)) _ (some ⟨wr.heap.size, 0, none⟩) 1 1 [(k : Int)] rfl rfl (rd_newI wr k) (by unfold big; simp only [List.length_cons, List.length_nil]; omega) (Nat.le_trans bb.size (below_new wr _).size) ?_; intro v' w' h1 h2)
              have b2 := (bb.thenB' (below_new wr _)).trans (h2.below (OwnI.below hown (below_new wr _)) (Nat.le_refl _) (Nat.le_trans bb.size (below_new wr _).size))
              go_roundw
              case rel => exact ⟨k + 1, by omega, by go_num, by rw [HE.out]; exact h1, b2⟩
              case measure => simp [intOf] <;> omega
            · have hd := hdz.out z z1
              have z1b : (z == 1) = false := by simp [z1]
              by_cases z0 : z = 0
              ·
                have z0b : (z != 0) = false := by simp [z0]
                have z0c : (z == 0) = true := by simp [z0]
                have hd2 : dd z y = true := by rw [hd]; exact z0c
                have h1 := HS.out (HA.out hd2)
                have HE := Lib.hid h1
                clear hd hd2 h1 HT HA z0 z1 z0c
                go_wp2_with fail
                with_reducible refine hcall.mono ?_
                rintro e w3 ⟨rfl, rfl⟩
                go_wp2_with (at_builtin; refine wpList_appI rfl (.tmp 35) (.tmp 37) rfl w.heap.size _ xs rfl (OwnI.below hown (below_new _ _)) _ (some ⟨wr.heap.size, 0, none⟩) 1 1 [(k : Int)] rfl rfl (rd_newI wr k) (by unfold big; simp only [List.length_cons, List.length_nil]; omega) (Nat.le_trans bb.size (below_new wr _).size) ?_; intro v' w' h1 h2)
                have b2 := (bb.thenB' (below_new wr _)).trans (h2.below (OwnI.below hown (below_new wr _)) (Nat.le_refl _) (Nat.le_trans bb.size (below_new wr _).size))
                go_roundw
                case rel => exact ⟨k + 1, by omega, by go_num, by rw [HE.out]; exact h1, b2⟩
                case measure => simp [intOf] <;> omega
              ·
                have z0b : (z != 0) = true := by simp [z0]
                have z0c : (z == 0) = false := by simp [z0]
                have hd2 : dd z y = false := by rw [hd]; exact z0c
                have HN2 := Lib.hid (HT.out hd2)
                clear hd hd2 HT HA z0 z1 z0c
                go_wp2_with fail
                with_reducible refine hcall.mono ?_
                rintro e w3 ⟨rfl, rfl⟩
                go_wp2_with fail
                go_roundw
                case rel => exact ⟨j + 1, by omega, by go_num, rfl, HN2.out, trivial⟩
                case measure => simp [intOf] <;> omega
          · obtain rfl : j = L.length := by omega
            have hf := HF.out
            rw [List.take_of_length_le (Nat.le_refl _)] at hf
            have hpk : p k = false := by
              have := HY.out _ rfl
              rw [← this]; exact hf
            have h1 := HN.out hpk
            have HE := Lib.hid h1
            clear hf hpk h1
            go_wp2_with fail
            go_roundw
            case rel => exact ⟨k + 1, by omega, by go_num, by rw [HE.out]; exact hown, bb⟩
            case measure => simp [intOf] <;> omega
    · obtain rfl : k = 512 := by omega
      rw [← HC.out] at hown
      go_wp2_with fail
      go_ret
      exact ⟨_, rfl, hown, bb⟩
end Go.Proofs.Ytpgfhbkggchliaa
