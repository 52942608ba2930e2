/- Take. -/
import Derived.Test.YtpfbiamgnmbhnaaNt6
namespace Go.Proofs.Ytpfbiamgnmbhnaa
open Go.RowKit
set_option linter.unusedVariables false
set_option maxRecDepth 100000

theorem alt_noneV {P : Program} {ops : Array Oper} {Q : Exit → Act → World → Prop} {R : World → World → Prop} {i fuel : Nat} {o : Oper} {L : Array Bool} {a : Act} {w : World} (L' : Array Bool) (ho : ops[i]? = some o) (hd : o.dst = none) (hl : L.setIfInBounds i true = L') (hw : Region.wanted o (yielded ops a.tmps) = true) {w' : World} {v : Value}
    (hrun : (execOp a.eval o).run P w = .ok (.value v) w') (h1 : R w w') (h : wpR P ops R Q fuel L' a w') : Alt P ops R Q fuel L a w i := by
  subst hl
  unfold Alt wpOp
  simp only [ho, hw, if_true]
  refine .inl ?_
  unfold Oper.wp
  rw [hrun, Oper.upon_value]
  exact ⟨h1, by rw [hd]; exact h⟩
theorem take_done {w6 w0 : World} {base g m cl : Nat} {L : List NE} {S S' : List Msg} {cs : Array Value} (hB : Blk w6 g 50 #[.map (some m), .int .i64 (S.length : Int)]) (hg : base ≤ g) (hN : NetM w6 base m cl L S') (hgm : g ≠ m) (n6 : NMod base w0 w6) (z : Int) (hz : z = (S'.length : Int)) :
    NetV (w6.setCell ⟨g, 1, none⟩ (.int .i64 z)) base g S' ∧ NMod base w0 (w6.setCell ⟨g, 1, none⟩ (.int .i64 z)) ∧ ∀ v bs b2, OwnB w6 b2 v bs → OwnB (w6.setCell ⟨g, 1, none⟩ (.int .i64 z)) b2 v bs := by
  subst hz
  have hB7 := hB.set_ 1 (.int .i64 (S'.length : Int))
  have m7 := (Mod.refl (· = g) w6).setG 1 (.int .i64 (S'.length : Int))
  have n7 : NMod base w6 (w6.setCell ⟨g, 1, none⟩ (.int .i64 (S'.length : Int))) := NMod.of_one m7 hg (by unfold Blk at hB; rw [hB]; exact .inl rfl)
  refine ⟨⟨m, cl, _, by simpa using hB7, hg, hN.mod m7 hgm.symm ?_⟩, n6.trans n7, fun v bs b2 h => n7.ownB h⟩
  intro k cs T hk hB'
  subst hk
  unfold Blk at hB
  rw [hB] at hB'
  injection hB' with hB'
  injection hB' with _ hB'
  subst hB'
  decide
set_option maxHeartbeats 4000000 in
theorem Take_any (base g : Nat) (S : List Msg) (fr tt i : Int) (w : World) (h : NetV w base g S) (hb : base ≤ w.heap.size) :
    Calls Try.prog 16 #[.pointer (some ⟨g, 0, none⟩), .int .i64 fr, .int .i64 tt, .int .i64 i] w fun e w' => ∃ v, e = .returned (.tuple #[v, .bool (takeP S fr tt i).2.2]) ∧ OwnB w' base v (takeP S fr tt i).2.1 ∧ NetV w' base g (takeP S fr tt i).1 ∧ NMod base w w' := by
  have hhas := fun w h => has_any base g S fr tt i w h
  have b1 := below_new w (.cells #[.int .i64 fr, .int .i64 tt] 37)
  have hQ := Blk.new w 37 #[.int .i64 fr, .int .i64 tt]
  have h1 := h.below b1
  by_cases hi : 0 ≤ i ∧ i < ((bagN S (fr, tt)).length : Int)
  · obtain ⟨hi0, hi1⟩ := hi
    obtain ⟨n, rfl⟩ : ∃ n : Nat, i = n := ⟨i.toNat, by omega⟩
    have hn : n < (bagN S (fr, tt)).length := by omega
    obtain ⟨p, e, hp1, hp2, hp3, hp4, hp5, hp6⟩ := place_some (fr, tt) S n hn
    have hT : takeP S fr tt n = (S.eraseIdx p, e.2, true) := by
      unfold takeP atP
      rw [if_pos hi0, Int.toNat_natCast, hp1]
      simp only [List.getD_eq_getElem?_getD, hp2, Option.getD_some]
    have hSl : (S.eraseIdx p).length = S.length - 1 := List.length_eraseIdx_of_lt (List.getElem?_eq_some_iff.1 hp2).1
    have hS0 : 0 < S.length := Nat.lt_of_le_of_lt (Nat.zero_le _) (List.getElem?_eq_some_iff.1 hp2).1
    rw [hT]
    rw [decide_eq_true (⟨hi0, hi1⟩ : 0 ≤ (n : Int) ∧ (n : Int) < ((bagN S (fr, tt)).length : Int))] at hhas
    have hfew := h.few
    have hbl := bagN_len S (fr, tt)
    have hhas := hhas _ h1
    clear h hi0 hi1 hT
    go_enter Try.func16, Try.ntmps16
    go_wp2_with fail
    refine hhas.mono ?_
    clear hhas
    rintro x w2 ⟨rfl, b2⟩
    have h := h1.below b2
    have hQ := hQ.below b2
    have b12 := b1.thenB' b2
    have s2 := b2.size
    rw [World.size_alloc] at s2
    obtain ⟨q, hq⟩ : ∃ q, q = w.heap.size := ⟨_, rfl⟩
    rw [← hq] at hQ ⊢
    obtain ⟨m, cl, L, h⟩ := h
    have hgm : g ≠ m := h.blk.ne_map h.msg.map
    have hqm : q ≠ m := hQ.ne_map h.msg.map
    have hqg : q ≠ g := fun e => by
      have h1 := h.blk
      subst e
      unfold Blk at hQ h1
      rw [hQ] at h1
      injection h1 with h1
      injection h1 with _ h1
      exact absurd h1 (by decide)
    clear hq h1 b1 b2
    go_upto_region 4 with fail
    obtain ⟨rows, hv⟩ := h.msg.get (fr, tt)
    obtain ⟨A, c, ev, hc, hcm⟩ := hv.form
    have hlk : ∀ n, (Instr.lookup 48 (.map (some m)) (.agg #[.int .i64 fr, .int .i64 tt]) false).run Try.prog (w2.drewN n) = .ok (.slice A (bagN S (fr, tt)).length c) (w2.drewN n) := fun n => by
      have := (h.msg.map.below (below_drewN (Below.refl _ _) n)).look_get (fr, tt)
      rw [ev] at this
      exact this
    have c0 := h.blk.cell 0
    have d0 := hQ.cell 0
    have d1 := hQ.cell 1
    simp at c0 d0 d1
    have HV := Lib.hid hv
    have EV := Lib.hid ev
    clear hv ev
    go_quiet (fail)
    have bd := below_drewN (Below.refl w2.heap.size w2) nq
    have h := h.below bd
    have hQ := hQ.below bd
    have hv := HV.out.below bd
    have b13 := b12.thenB' bd
    have hb3 : base ≤ (w2.drewN nq).heap.size := Nat.le_trans hb b13.size
    clear bd hlk c0 d0 d1 HV b12
    generalize w2.drewN nq = w3 at *
    obtain ⟨N, hN⟩ : ∃ N, (bagN S (fr, tt)).length = N := ⟨_, rfl⟩
    have hNN := Lib.hid hN
    have hrN : (rows.map cS).length = N := by rw [← hN, ← hv.txt, List.length_map, List.length_map]
    obtain ⟨_, hrd⟩ := hv.own.rd EV.out
    obtain ⟨ad, rfl, _, hcell⟩ := hrd.2 (by rw [hrN, ← hN]; omega)
    have hrow : ∃ s : BV, rows[n]? = some s ∧ s.l = e.2 := by
      have : (rows.map (·.l))[n]? = some e.2 := by rw [hv.txt]; exact hp4
      rw [List.getElem?_map] at this
      obtain ⟨s, h1, h2⟩ := Option.map_eq_some_iff.1 this
      exact ⟨s, h1, h2⟩
    obtain ⟨s, hs, hsl⟩ := hrow
    have hcs := hcell n (cS s) (by rw [List.getElem?_map, hs]; rfl)
    have ho := hv.all s (List.mem_of_getElem? hs)
    unfold cS at hcs
    rw [hsl] at hcs ho
    rw [hN] at hc hn hbl ⊢
    clear hcell hrd hN
    go_upto_region 6 with fail
    refine r_start (R := RK g q) (by rfl) (n := 15) (L := #[false, false, false, false, false, false, false, false, false, false, false, false, false, false, false]) rfl rfl ?_
    have bd : Below w3.heap.size w3 w3.drew := (Below.refl _ _).drew
    have h := h.below bd
    have hQ := hQ.below bd
    have hv := hv.below bd
    have ho := own_below' ho bd
    have b13 := b13.thenB' bd
    have hb3 := Nat.le_trans hb3 bd.size
    clear bd hcs
    generalize w3.drew = w4 at *
    refine r_flt (RK_refl g q) 0 31 #[true, false, false, false, false, false, false, false, false, false, false, false, false, false, false] (by simp only [List.getElem?_toArray, List.getElem?_cons_zero]; rfl) (by rfl) (by kernel_rfl) (by kernel_rfl) (by kernel_rfl) (fun _ _ _ _ h => h) rfl (by rfl) ?_
    apply Exists.intro
    apply And.intro
    · intro W hW
      first | (go_simp; with_reducible rfl) | go_simp
    (try simp only [Act.put, List.setIfInBounds_toArray]); (try simp only [List.set_cons_succ]); (try simp only [List.set_cons_zero])
    refine r_flt (RK_refl g q) 1 32 #[true, true, false, false, false, false, false, false, false, false, false, false, false, false, false] (by simp only [List.getElem?_toArray, List.getElem?_cons_succ, List.getElem?_cons_zero]; rfl) (by rfl) (by kernel_rfl) (by kernel_rfl) (by kernel_rfl) (fun _ _ _ _ h => h) rfl (by rfl) ?_
    apply Exists.intro
    apply And.intro
    · intro W hW
      first | (go_simp; with_reducible rfl) | go_simp
    (try simp only [Act.put, List.setIfInBounds_toArray]); (try simp only [List.set_cons_succ]); (try simp only [List.set_cons_zero])
    refine r_flt (RK_refl g q) 2 33 #[true, true, true, false, false, false, false, false, false, false, false, false, false, false, false] (by simp only [List.getElem?_toArray, List.getElem?_cons_succ, List.getElem?_cons_zero]; rfl) (by rfl) (by kernel_rfl) (by kernel_rfl) (by kernel_rfl) (fun _ _ _ _ h => h) rfl (by rfl) ?_
    apply Exists.intro
    apply And.intro
    · intro W hW
      first | (go_simp; with_reducible rfl) | go_simp
    (try simp only [Act.put, List.setIfInBounds_toArray]); (try simp only [List.set_cons_succ]); (try simp only [List.set_cons_zero])
    refine r_flt (RK_refl g q) 3 34 #[true, true, true, true, false, false, false, false, false, false, false, false, false, false, false] (by simp only [List.getElem?_toArray, List.getElem?_cons_succ, List.getElem?_cons_zero]; rfl) (by rfl) (by kernel_rfl) (by kernel_rfl) (by kernel_rfl) (fun _ _ _ _ h => h) rfl (by rfl) ?_
    apply Exists.intro
    apply And.intro
    · intro W hW
      have c := (RK.blkG hW h.blk).cell 0
      simp at c
      go_simp; rfl
    (try simp only [Act.put, List.setIfInBounds_toArray]); (try simp only [List.set_cons_succ]); (try simp only [List.set_cons_zero])
    refine r_flt (RK_refl g q) 4 35 #[true, true, true, true, true, false, false, false, false, false, false, false, false, false, false] (by simp only [List.getElem?_toArray, List.getElem?_cons_succ, List.getElem?_cons_zero]; rfl) (by rfl) (by kernel_rfl) (by kernel_rfl) (by kernel_rfl) (fun _ _ _ _ h => h) rfl (by rfl) ?_
    apply Exists.intro
    apply And.intro
    · intro W hW
      have d := RK.blkQ hW hQ
      have d0 := d.cell 0
      have d1 := d.cell 1
      simp at d0 d1
      go_simp; rfl
    (try simp only [Act.put, List.setIfInBounds_toArray]); (try simp only [List.set_cons_succ]); (try simp only [List.set_cons_zero])
    refine r_flt (RK_refl g q) 5 36 #[true, true, true, true, true, true, false, false, false, false, false, false, false, false, false] (by simp only [List.getElem?_toArray, List.getElem?_cons_succ, List.getElem?_cons_zero]; rfl) (by rfl) (by kernel_rfl) (by kernel_rfl) (by kernel_rfl) (fun _ _ _ _ h => h) rfl (by rfl) ?_
    apply Exists.intro
    apply And.intro
    · intro W hW
      first | (go_simp; with_reducible rfl) | go_simp
    (try simp only [Act.put, List.setIfInBounds_toArray]); (try simp only [List.set_cons_succ]); (try simp only [List.set_cons_zero])
    refine r_flt (RK_refl g q) 6 37 #[true, true, true, true, true, true, true, false, false, false, false, false, false, false, false] (by simp only [List.getElem?_toArray, List.getElem?_cons_succ, List.getElem?_cons_zero]; rfl) (by rfl) (by kernel_rfl) (by kernel_rfl) (by kernel_rfl) (fun _ _ _ _ h => h) rfl (by rfl) ?_
    apply Exists.intro
    apply And.intro
    · intro W hW
      first | (go_simp; with_reducible rfl) | go_simp
    (try simp only [Act.put, List.setIfInBounds_toArray]); (try simp only [List.set_cons_succ]); (try simp only [List.set_cons_zero])
    refine r_flt (RK_refl g q) 7 38 #[true, true, true, true, true, true, true, true, false, false, false, false, false, false, false] (by simp only [List.getElem?_toArray, List.getElem?_cons_succ, List.getElem?_cons_zero]; rfl) (by rfl) (by kernel_rfl) (by kernel_rfl) (by kernel_rfl) (fun _ _ _ _ h => h) rfl (by rfl) ?_
    apply Exists.intro
    apply And.intro
    · intro W hW
      first | (go_simp; with_reducible rfl) | go_simp
    (try simp only [Act.put, List.setIfInBounds_toArray]); (try simp only [List.set_cons_succ]); (try simp only [List.set_cons_zero])
    refine r_flt (RK_refl g q) 8 39 #[true, true, true, true, true, true, true, true, true, false, false, false, false, false, false] (by simp only [List.getElem?_toArray, List.getElem?_cons_succ, List.getElem?_cons_zero]; rfl) (by rfl) (by kernel_rfl) (by kernel_rfl) (by kernel_rfl) (fun _ _ _ _ h => h) rfl (by rfl) ?_
    apply Exists.intro
    apply And.intro
    · intro W hW
      have hnc : n ≤ c := by omega
      go_simp; rfl
    (try simp only [Act.put, List.setIfInBounds_toArray]); (try simp only [List.set_cons_succ]); (try simp only [List.set_cons_zero])
    refine r_flt (RK_refl g q) 9 40 #[true, true, true, true, true, true, true, true, true, true, false, false, false, false, false] (by simp only [List.getElem?_toArray, List.getElem?_cons_succ, List.getElem?_cons_zero]; rfl) (by rfl) (by kernel_rfl) (by kernel_rfl) (by kernel_rfl) (fun _ _ _ _ h => h) rfl (by rfl) ?_
    apply Exists.intro
    apply And.intro
    · intro W hW
      first | (go_simp; with_reducible rfl) | go_simp
    (try simp only [Act.put, List.setIfInBounds_toArray]); (try simp only [List.set_cons_succ]); (try simp only [List.set_cons_zero])
    refine r_flt (RK_refl g q) 10 41 #[true, true, true, true, true, true, true, true, true, true, true, false, false, false, false] (by simp only [List.getElem?_toArray, List.getElem?_cons_succ, List.getElem?_cons_zero]; rfl) (by rfl) (by kernel_rfl) (by kernel_rfl) (by kernel_rfl) (fun _ _ _ _ h => h) rfl (by rfl) ?_
    apply Exists.intro
    apply And.intro
    · intro W hW
      first | (go_simp; with_reducible rfl) | go_simp
    (try simp only [Act.put, List.setIfInBounds_toArray]); (try simp only [List.set_cons_succ]); (try simp only [List.set_cons_zero])
    refine r_flt (RK_refl g q) 11 42 #[true, true, true, true, true, true, true, true, true, true, true, true, false, false, false] (by simp only [List.getElem?_toArray, List.getElem?_cons_succ, List.getElem?_cons_zero]; rfl) (by rfl) (by kernel_rfl) (by kernel_rfl) (by kernel_rfl) (fun _ _ _ _ h => h) rfl (by rfl) ?_
    apply Exists.intro
    apply And.intro
    · intro W hW
      have e1 : IntKind.i64.wrap ((n : Int) + 1) = (n : Int) + 1 := by rw [IntKind.wrap_i64]; omega
      go_simp; rfl
    (try simp only [Act.put, List.setIfInBounds_toArray]); (try simp only [List.set_cons_succ]); (try simp only [List.set_cons_zero])
    refine r_flt (RK_refl g q) 12 43 #[true, true, true, true, true, true, true, true, true, true, true, true, true, false, false] (by simp only [List.getElem?_toArray, List.getElem?_cons_succ, List.getElem?_cons_zero]; rfl) (by rfl) (by kernel_rfl) (by kernel_rfl) (by kernel_rfl) (fun _ _ _ _ h => h) rfl (by rfl) ?_
    apply Exists.intro
    apply And.intro
    · intro W hW
      have e2 : n + 1 ≤ N := by omega
      have e3 : (0 : Int) ≤ (n : Int) + 1 ∧ (n : Int) + 1 ≤ (N : Int) := by omega
      have e4 : ((n : Int) + 1).toNat = n + 1 := by omega
      have e5 : N ≤ c := hc
      go_simp; rfl
    (try simp only [Act.put, List.setIfInBounds_toArray]); (try simp only [List.set_cons_succ]); (try simp only [List.set_cons_zero])
    refine r_one (RK_trans g q) 13 (by kernel_rfl) ?_
    obtain ⟨v', w5, hrunA, ho5, b5, hl5⟩ := hv.own.cutrow (c := c) (A := some ad) (by rw [EV.out, hrN, hNN.out]) n (by rw [hrN]; exact hn) (by
      intro u hu
      obtain ⟨s, _, rfl⟩ := List.mem_map.1 hu
      rfl) (by rw [hrN]; omega) hb3 55
    rw [hrN] at hrunA
    have hB5 := h.blk.below b5
    have hQ5 := hQ.below b5
    refine alt_val 44 #[true, true, true, true, true, true, true, true, true, true, true, true, true, true, false] (by simp only [List.getElem?_toArray, List.getElem?_cons_succ, List.getElem?_cons_zero]; rfl) (by rfl) rfl (by rfl) (exec_appS rfl rfl rfl hrunA) ?_ ?_
    · exact RK.of_below b5
    (try simp only [Act.put, List.setIfInBounds_toArray]); (try simp only [List.set_cons_succ]); (try simp only [List.set_cons_zero])
    refine r_one (RK_trans g q) 14 (by kernel_rfl) ?_
    obtain ⟨L', cl', w6, hrunU, hM6, hpt, m6, _⟩ := (h.msg.map.below b5).update (fr, tt) v'
    refine alt_none #[true, true, true, true, true, true, true, true, true, true, true, true, true, true, true] (by simp only [List.getElem?_toArray, List.getElem?_cons_succ, List.getElem?_cons_zero]; rfl) (by rfl) rfl (by rfl) (exec_update rfl rfl rfl rfl hrunU) ?_ ?_
    · exact RK.of_mod m6 hgm hqm
    (try simp only [Act.put, List.setIfInBounds_toArray]); (try simp only [List.set_cons_succ]); (try simp only [List.set_cons_zero])
    refine r_done (by kernel_rfl) ?_
    have hB6 := hB5.mod m6 hgm
    have hQ6 := hQ5.mod m6 hqm
    have hM5 := h.msg.map.below b5
    have ho6 := own_ofMap (own_below' ho b5) hM5 m6
    have n46 : NMod base w4 w6 := (NMod.of_below b5).trans (NMod.of_map m6 hM5 h.msg.hm)
    have n16 := (NMod.of_below (base := base) b13).trans n46
    by_cases h1 : N = 1
    · have hN1 : ((N : Int) == 1) = true := by rw [h1]; rfl
      go_upto_region 8 with fail
      refine r_start (R := RK g q) (by rfl) (n := 6) (L := #[false, false, false, false, false, false]) rfl rfl ?_
      have bd : Below w6.heap.size w6 w6.drew := (Below.refl _ _).drew
      have hB6 := hB6.below bd
      have hQ6 := hQ6.below bd
      have hM6 := hM6.below bd
      have ho6 := own_below' ho6 bd
      have n16 := n16.trans (NMod.of_below bd)
      have m6 : Mod (· = m) w5 w6.drew := m6.trans (Mod.of_below bd _)
      clear bd
      generalize w6.drew = w6 at *
      refine r_flt (RK_refl g q) 0 48 #[true, false, false, false, false, false] (by simp only [List.getElem?_toArray, List.getElem?_cons_zero]; rfl) (by rfl) (by kernel_rfl) (by kernel_rfl) (by kernel_rfl) (fun _ _ _ _ h => h) rfl (by rfl) ?_
      apply Exists.intro
      apply And.intro
      · intro W hW
        first | (go_simp; with_reducible rfl) | go_simp
      (try simp only [Act.put, List.setIfInBounds_toArray]); (try simp only [List.set_cons_succ]); (try simp only [List.set_cons_zero])
      refine r_flt (RK_refl g q) 1 49 #[true, true, false, false, false, false] (by simp only [List.getElem?_toArray, List.getElem?_cons_succ, List.getElem?_cons_zero]; rfl) (by rfl) (by kernel_rfl) (by kernel_rfl) (by kernel_rfl) (fun _ _ _ _ h => h) rfl (by rfl) ?_
      apply Exists.intro
      apply And.intro
      · intro W hW
        first | (go_simp; with_reducible rfl) | go_simp
      (try simp only [Act.put, List.setIfInBounds_toArray]); (try simp only [List.set_cons_succ]); (try simp only [List.set_cons_zero])
      refine r_flt (RK_refl g q) 2 50 #[true, true, true, false, false, false] (by simp only [List.getElem?_toArray, List.getElem?_cons_succ, List.getElem?_cons_zero]; rfl) (by rfl) (by kernel_rfl) (by kernel_rfl) (by kernel_rfl) (fun _ _ _ _ h => h) rfl (by rfl) ?_
      apply Exists.intro
      apply And.intro
      · intro W hW
        first | (go_simp; with_reducible rfl) | go_simp
      (try simp only [Act.put, List.setIfInBounds_toArray]); (try simp only [List.set_cons_succ]); (try simp only [List.set_cons_zero])
      refine r_flt (RK_refl g q) 3 51 #[true, true, true, true, false, false] (by simp only [List.getElem?_toArray, List.getElem?_cons_succ, List.getElem?_cons_zero]; rfl) (by rfl) (by kernel_rfl) (by kernel_rfl) (by kernel_rfl) (fun _ _ _ _ h => h) rfl (by rfl) ?_
      apply Exists.intro
      apply And.intro
      · intro W hW
        have c := (RK.blkG hW hB6).cell 0
        simp at c
        go_simp; rfl
      (try simp only [Act.put, List.setIfInBounds_toArray]); (try simp only [List.set_cons_succ]); (try simp only [List.set_cons_zero])
      refine r_flt (RK_refl g q) 4 52 #[true, true, true, true, true, false] (by simp only [List.getElem?_toArray, List.getElem?_cons_succ, List.getElem?_cons_zero]; rfl) (by rfl) (by kernel_rfl) (by kernel_rfl) (by kernel_rfl) (fun _ _ _ _ h => h) rfl (by rfl) ?_
      apply Exists.intro
      apply And.intro
      · intro W hW
        have d := RK.blkQ hW hQ6
        have d0 := d.cell 0
        have d1 := d.cell 1
        simp at d0 d1
        go_simp; rfl
      (try simp only [Act.put, List.setIfInBounds_toArray]); (try simp only [List.set_cons_succ]); (try simp only [List.set_cons_zero])
      refine r_one (RK_trans g q) 5 (by kernel_rfl) ?_
      obtain ⟨L2, w7, hrunD, hM7, hd, m7, _⟩ := hM6.drop (fr, tt) 0
      refine alt_noneV #[true, true, true, true, true, true] (by simp only [List.getElem?_toArray, List.getElem?_cons_succ, List.getElem?_cons_zero]; rfl) (by rfl) rfl (by rfl) (exec_del rfl rfl rfl hrunD) ?_ ?_
      · exact RK.of_mod m7 hgm hqm
      (try simp only [Act.put, List.setIfInBounds_toArray]); (try simp only [List.set_cons_succ]); (try simp only [List.set_cons_zero])
      refine r_done (by kernel_rfl) ?_
      have hB7 := hB6.mod m7 hgm
      have ho7 := own_ofMap ho6 hM6 m7
      have n17 := n16.trans (NMod.of_map m7 hM6 h.msg.hm)
      have hcore := take_none h.msg b5 hM6 hpt m6 hM7 hd m7 hp6 (by
        rw [hp5]
        refine List.eq_nil_of_length_eq_zero ?_
        rw [List.length_eraseIdx, if_pos (by rw [hNN.out]; exact hn), hNN.out]
        omega)
      have d1 := hB7.cell 1
      have f1 := hB7.frozen 1
      simp at d1
      go_wp2_with fail
      go_ret2
      obtain ⟨q1, q2, q3⟩ := take_done (cs := #[]) hB7 h.hg hcore hgm n17 ((S.length : Int) - 1) (by rw [hSl]; omega)
      exact ⟨_, rfl, q3 _ _ _ ho7, q1, q2⟩
    · have hN1 : ((N : Int) == 1) = false := by simp; omega
      have hcore := take_some h.msg hv (by rw [Go.ChangeMaps.map_eraseIdx]; exact ho5) b5 hl5 hM6 hpt m6 hp5 hp6 (by
        intro e
        have := congrArg List.length e
        rw [hp5, List.length_eraseIdx, if_pos (by rw [hNN.out]; exact hn), hNN.out] at this
        simp at this
        omega)
      have d1 := hB6.cell 1
      have f1 := hB6.frozen 1
      simp at d1
      go_wp2_with fail
      go_ret2
      obtain ⟨q1, q2, q3⟩ := take_done (cs := #[]) hB6 h.hg hcore hgm n16 ((S.length : Int) - 1) (by rw [hSl]; omega)
      exact ⟨_, rfl, q3 _ _ _ ho6, q1, q2⟩
  · have hT : takeP S fr tt i = (S, [], false) := by
      unfold takeP atP
      by_cases h0 : 0 ≤ i
      · rw [if_pos h0, place_none (fr, tt) S i.toNat (by omega)]
      · rw [if_neg h0]
    rw [hT]
    rw [decide_eq_false hi] at hhas
    have hhas := hhas _ h1
    go_enter Try.func16, Try.ntmps16
    go_wp2_with fail
    refine hhas.mono ?_
    clear hhas
    rintro x w2 ⟨rfl, b2⟩
    go_wp2_with fail
    go_ret2
    exact ⟨_, rfl, OwnB.nil, h1.below b2, NMod.of_below (b1.thenB' b2)⟩
end Go.Proofs.Ytpfbiamgnmbhnaa
