import Derived.Test.YtodfejeifbhoeaaDoorMd4
namespace Go.Proofs.YtodfejeifbhoeaaDoor
open Go.RowKit
set_option linter.unusedVariables false

theorem copied (n : Nat) (ys : List UInt8) (h : n = ys.length) : ys.take (List.replicate n (0 : UInt8)).length ++ (List.replicate n 0).drop ys.length = ys := by
  subst h
  rw [List.length_replicate, List.take_of_length_le (Nat.le_refl _), List.drop_of_length_le (by simp), List.append_nil]

set_option maxHeartbeats 4000000 in
set_option maxRecDepth 100000 in
theorem Records_any (base g : Nat) (v : Value) (s : MS) (w : World) (h : Med w base g v s) (hsl : s.b.length ≤ 1000000) (ht : Tab w) :
    Calls Tryd.prog 17 #[.pointer (some ⟨g, 0, none⟩)] w fun e w' => ∃ (v1 v2 : Value) (L : List BV), e = .returned (.tuple #[v1, v2]) ∧ OwnI w' w.heap.size v1 ((recO s.b).map (·.1)) ∧ OwnS w' w.heap.size v2 (L.map cS) ∧ L.map (·.l) = (recO s.b).map (·.2) ∧ (∀ t : BV, t ∈ L → RdB w' (fun k => w.heap.size ≤ k) t.A t.l) ∧ Below w.heap.size w w' := by
  obtain ⟨sv, h1, h2, h3, h4, h5⟩ := id h
  obtain ⟨A, n, c, rfl, en, hnc, hcm⟩ := OwnB.form' h2
  have c0 := h1.cell 0
  simp at c0
  have hn6 : n ≤ 1000000 := by rw [en.out]; exact hsl
  have hw0 := ht.lt
  have rb := h2.rd'
  go_enter Tryd.func17, Tryd.ntmps17
  go_wp2_with first
    | (at_make; refine wpList_makeB rfl (.tmp 17) (.tmp 17) rfl w.heap.size n rfl rfl (by unfold big; omega) (Nat.le_refl _) ?_; intro w2 o2 b2
       have h1' := h1.below b2
       have d0 := h1'.cell 0
       simp at d0
       have rb2 := RdB.below rb b2)
    | (with_reducible show wpList _ _ _ _ _ _
       refine wpList_copyB rfl (.tmp 19) (.tmp 23) rfl w.heap.size _ _ rfl o2 _ A n c s.b rfl en.out rb2 ?_; intro w3 o3 x3)
  rw [copied n s.b en.out] at o3
  have b3 : Below w.heap.size w w3 := b2.trans (below_app (Below.refl _ _) o2 x3 (Nat.le_refl _) b2.size)
  have r3 : RdB w3 (DR w.heap.size (.slice none 0 0) (.slice none 0 0) w3.heap.size) (some ⟨w.heap.size, 0, none⟩) s.b :=
    Rd.imp o3.rd' (fun k _ hk => ⟨hk.1, hk.2, by simp [Value.ownBlock], by simp [Value.ownBlock]⟩) (by decide)
  clear o3 x3 o2 b2 h1' rb2
  generalize goInt ((min s.b.length (List.replicate n (0 : UInt8)).length : Nat) : Int) = u24
  (try simp only [Act.put, List.setIfInBounds_toArray]); (try simp only [List.set_cons_succ]); (try simp only [List.set_cons_zero])
  go_loopw [4, 5, 6, 7, 8, 9, 10] (fun ks bs b s7 s8 s9 s10 wr => ∃ (f m cc : Nat) (pre : List (Int × List UInt8)) (cur : List UInt8) (L : List BV) (Ac : Option Addr), Hid (pre ++ recN f cur = recO s.b) ∧ b = .slice Ac m cc ∧ Hid (m = cur.length) ∧ m ≤ cc ∧ cc ≤ 9223372036854775807 ∧ Hid (12 * pre.length + cur.length ≤ s.b.length) ∧ Hid (pre.length + f = s.b.length + 1) ∧ RdB wr (DR w.heap.size ks bs wr.heap.size) Ac cur ∧ OwnI wr w.heap.size ks (pre.map (·.1)) ∧ OwnS wr w.heap.size bs (L.map cS) ∧ Sep ks bs ∧ Hid (L.map (·.l) = pre.map (·.2)) ∧ (∀ t : BV, t ∈ L → RdB wr (DR w.heap.size ks bs wr.heap.size) t.A t.l) ∧ Below w.heap.size w wr) (fun _ _ b _ _ _ _ _ => lenV b)
  case atStart => exact ⟨s.b.length + 1, n, n, [], s.b, [], some ⟨w.heap.size, 0, none⟩, Lib.hid rfl, rfl, en, Nat.le_refl _, by omega, by unfold Hid; simp, by unfold Hid; simp, r3, OwnI.nil, World.ownsRow_nil _ _ _ _, fun k hk => by simp [Value.ownBlock] at hk, Lib.hid rfl, fun t ht => by simp at ht, b3⟩
  case round =>
    clear r3 b3
    obtain ⟨f, m, cc, pre, cur, L, Ac, HP, rfl, em, hmc, hcc, HB, HF, rc, hks, hbs, hsep, HL, hrows, bb⟩ := hrel
    have hsz := bb.size
    have hcl : cur.length ≤ 1000000 := by have := HB.out; omega
    obtain ⟨f, rfl⟩ : ∃ f', f = f' + 1 := ⟨f - 1, by have := HF.out; have := HB.out; omega⟩
    have hnx := Next_any _ Ac cc cur wr rc hcl (by rw [← em.out]; exact hmc) hcc (ht.below bb)
    rw [← em.out] at hnx
    by_cases he : (nextO cur).e = 0
    · have HP2 := Lib.hid (recN_more f cur he pre)
      have hok := next_ok cur he
      have hrl : (nextO cur).rest.length + 12 ≤ cur.length := by rw [hok.2.2.2, List.length_drop]; omega
      have HRL := Lib.hid hrl
      rw [he] at hnx
      have hpl : pre.length ≤ 1000000 := by have := HB.out; omega
      have hLl : L.length = pre.length := by have := congrArg List.length HL.out; simpa using this
      have HLl := Lib.hid hLl
      clear he hok hrl hLl
      generalize (nextO cur).k = nk at *
      generalize (nextO cur).body = nb at *
      generalize (nextO cur).rest = nr at *
      go_wp2_with fail
      refine hnx.mono ?_
      clear hnx
      rintro e w4 ⟨v1, v2, rfl, o1, o2, b4⟩
      obtain ⟨A1, c1, rfl, _, _⟩ := own_form o1
      obtain ⟨A2, c2, rfl, hc2, hm2⟩ := own_form o2
      have hm2 : c2 ≤ 9223372036854775807 := hm2
      have hks4 := OwnI.below hks b4
      have hbs4 : OwnS w4 w.heap.size u5 (L.map cS) := own_below hbs b4
      have nD : ∀ k, wr.heap.size ≤ k ∧ k < w4.heap.size → DR w.heap.size u4 u5 w4.heap.size k := fun k hk => ⟨by omega, hk.2, fun e => by have := own_blk hks k e; omega, fun e => by have := own_blk hbs k e; omega⟩
      have rn : RdB w4 (DR w.heap.size u4 u5 w4.heap.size) A1 nb := Rd.imp (OwnB.rd' o1) (fun k _ hk => nD k hk) (by decide)
      have rr : RdB w4 (DR w.heap.size u4 u5 w4.heap.size) A2 nr := Rd.imp (OwnB.rd' o2) (fun k _ hk => nD k hk) (by decide)
      have hrows4 : ∀ t : BV, t ∈ L ++ [⟨A1, nb, c1⟩] → RdB w4 (DR w.heap.size u4 u5 w4.heap.size) t.A t.l := fun t ht => by
        rcases List.mem_append.1 ht with h | h
        · exact rdB_below (hrows t h) b4
        · obtain rfl : t = ⟨A1, nb, c1⟩ := by simpa using h
          exact rn
      have bb4 := bb.thenB' b4
      have hsz4 := bb4.size
      have nL := below_new w4 (.cells #[.int .i64 nk] 3)
      have hl1 : (pre.map (·.1)).length + [nk].length ≤ big := by rw [List.length_map]; unfold big; simp only [List.length_singleton]; omega
      have hl2 : L.length ≤ 1000000 := by rw [HLl.out]; exact hpl
      clear o1 o2 hrows hks hbs rn nD
      go_wp2_with first
        | (at_builtin; refine wpList_appI rfl (.tmp 36) (.tmp 38) rfl w.heap.size _ (pre.map (·.1)) rfl (OwnI.below hks4 nL) _ (some ⟨w4.heap.size, 0, none⟩) 1 1 [nk] rfl rfl (rd_newI w4 _) hl1 (Nat.le_trans hsz4 nL.size) ?_; intro vk w5 h5 x5
           have hbs5 : OwnS w5 w.heap.size u5 (L.map cS) := own_grown (own_below hbs4 nL) x5.grown hsep
           have hsep5 := hsep.ext x5 (own_blk (own_below hbs4 nL))
           have hrows5 : ∀ t : BV, t ∈ L ++ [⟨A1, nb, c1⟩] → RdB w5 (DR w.heap.size vk u5 w5.heap.size) t.A t.l := fun t ht => rdB_ext (rdB_below (hrows4 t ht) nL) x5
           have rr5 := rdB_ext (rdB_below rr nL) x5
           have bb5 := (bb4.thenB' nL).trans (x5.below (OwnI.below hks4 nL) (Nat.le_refl _) (Nat.le_trans hsz4 nL.size))
           have hsz5 := bb5.size
           have nM := below_new w5 (.cells #[cS ⟨A1, nb, c1⟩] 28)
           have hbs5' : OwnS (w5.alloc (.cells #[cS ⟨A1, nb, c1⟩] 28)) w.heap.size u5 (L.map cS) := own_below hbs5 nM)
        | (at_builtin; refine wpList_appS rfl (.tmp 40) (.tmp 42) rfl w.heap.size _ L rfl hbs5' _ (some ⟨w5.heap.size, 0, none⟩) 1 ⟨A1, nb, c1⟩ rfl (rd_newS w5 ⟨A1, nb, c1⟩) hl2 (Nat.le_trans hsz5 nM.size) ?_; intro vb w6 h6 x6)
      have hks6 : OwnI w6 w.heap.size vk _ := own_grown (OwnI.below h5 nM) x6.grown hsep5.symm
      have hsep6 := ((hsep5.symm).ext x6 (own_blk (OwnI.below h5 nM))).symm
      have hrows6 : ∀ t : BV, t ∈ L ++ [⟨A1, nb, c1⟩] → RdB w6 (DR w.heap.size vk vb w6.heap.size) t.A t.l := fun t ht => rdB_sym (rdB_ext (rdB_sym (rdB_below (hrows5 t ht) nM)) x6)
      have rr6 : RdB w6 (DR w.heap.size vk vb w6.heap.size) A2 nr := rdB_sym (rdB_ext (rdB_sym (rdB_below rr5 nM)) x6)
      have bb6 := (bb5.thenB' nM).trans (x6.below hbs5' (Nat.le_refl _) (Nat.le_trans hsz5 nM.size))
      go_roundw
      case rel => exact ⟨f, nr.length, c2, pre ++ [(nk, nb)], nr, L ++ [⟨A1, nb, c1⟩], A2, Lib.hid (HP2.out.symm.trans HP.out), rfl, Lib.hid rfl, hc2, hm2, Lib.hid (by have := HB.out; have := HRL.out; rw [List.length_append, List.length_singleton]; omega), Lib.hid (by have := HF.out; rw [List.length_append, List.length_singleton]; omega), rr6, by rw [List.map_append]; exact hks6, h6, hsep6, Lib.hid (by rw [List.map_append, List.map_append, HL.out]; rfl), hrows6, bb6⟩
      case measure =>
        show nr.length < m
        have := em.out
        have := HRL.out
        omega
    · have HP2 : Hid (pre = recO s.b) := Lib.hid ((recN_done f cur he pre).symm.trans HP.out)
      have heb : ((nextO cur).e != 0) = true := by simp [he]
      clear he
      generalize (nextO cur).e = ne at *
      go_wp2_with fail
      refine hnx.mono ?_
      clear hnx
      rintro e w4 ⟨v1, v2, rfl, o1, o2, b4⟩
      have hks4 := OwnI.below hks b4
      have hbs4 : OwnS w4 w.heap.size u5 (L.map cS) := own_below hbs b4
      have hr4 : ∀ t : BV, t ∈ L → RdB w4 (fun k => w.heap.size ≤ k) t.A t.l := fun t ht => Rd.imp (Rd.below (hrows t ht) b4) (fun k _ hk => hk.1) (by decide)
      go_wp2_with fail
      go_ret2
      rw [HP2.out] at hks4 HL
      exact ⟨_, _, L, rfl, hks4, hbs4, HL.out, hr4, bb.thenB' b4⟩
end Go.Proofs.YtodfejeifbhoeaaDoor
