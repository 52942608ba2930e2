/- Parts of the proof, joined: HdV HdW HdX HdY. -/
import Derived.Test.YtpgfhbkggchliaaQm
/- The objects that differ between two snapshots: the code. -/
namespace Go.Proofs.Ytpgfhbkggchliaa
open Go.RowKit
set_option linter.unusedVariables false

theorem mayO_len {m : List Int} (h : mayO m = true) : m.length ≤ 512 := by
  unfold mayO at h
  simp only [Bool.and_eq_true, decide_eq_true_eq] at h
  exact h.1.1

set_option maxHeartbeats 16000000 in
set_option maxRecDepth 100000 in
theorem Diff_any6 (D : Nat → Prop) (h : HdV) (fr tt : Int) (w : World) (hr : HdR w D h) :
    Calls Try.prog 25 #[hdV h, .int .i64 fr, .int .i64 tt] w fun e w' => ∃ v, e = .returned (.tuple #[v, .int .i64 (diffP h.p fr tt).2]) ∧ OwnI w' w.heap.size v (diffP h.p fr tt).1 ∧ Below w.heap.size w w' := by
  have b1 := below_new w (.cells (hdA h) 27)
  have hB := Blk.new w 27 (hdA h)
  have hr0 := hr.below b1
  have hmp := may_p h
  have hck := Check_any6 D h _ hr0
  generalize hw0 : w.alloc (.cells (hdA h) 27) = w0 at *
  clear hr
  cases hmay : mayH h
  focus
    have E : Hid (diffP h.p fr tt = ([], 60)) := by unfold Hid diffP; rw [← hmp, hmay]; rfl
    rw [hmay, show eno false 60 = 60 from rfl] at hck
    clear hmay hmp hr0
    obtain ⟨u, n, o, hz, MA, m, mc, A, L, sc, la, sq⟩ := h
    unfold hdV at *
    unfold hdA at *
    dsimp only at *
    go_enter Try.func25, Try.ntmps25
    go_wp2_with first
      | (with_reducible show wpList _ _ _ _ _ _
         refine wpList_load_row rfl 27 (.tmp 3) rfl w.heap.size rfl 27 _ (0, 0) _ hB Try.underlying27 rfl infoH ?_)
    refine hck.mono ?_
    rintro e w2 ⟨rfl, b2⟩
    go_wp2_with fail
    go_ret2
    rw [E.out]
    exact ⟨_, rfl, OwnI.nil, b1.thenB' b2⟩
  have hbd := mayP_bd (hmp ▸ hmay)
  have e0 : diffP h.p fr tt = if findO (idsP h.p.S) fr < 0 ∨ (tt ≠ 0 ∧ findO (idsP h.p.S) tt < findO (idsP h.p.S) fr) then ([], 182)
     else if tt = 0 then (changedO (mapAt h.p.S (findO (idsP h.p.S) fr).toNat) (restM h.p.S (findO (idsP h.p.S) fr).toNat h.p.S.length ++ [h.p.m]), 0)
     else (changedO (mapAt h.p.S (findO (idsP h.p.S) fr).toNat) (restM h.p.S (findO (idsP h.p.S) fr).toNat (findO (idsP h.p.S) tt).toNat), 0) := by unfold diffP; rw [← hmp, hmay]; rfl
  rw [show idsP h.p.S = idsO h.S from (ids_p h.S).symm] at e0
  have E0 := Lib.hid e0
  rw [hmay, show eno true 60 = 0 from rfl] at hck
  have hfd := fun (W : World) (hr : HdR W D h) => Find_any D h fr W hr
  have hfd2 := fun (W : World) (hr : HdR W D h) => Find_any D h tt W hr
  have hfb := findO_bd (idsO h.S) fr
  have hfb2 := findO_bd (idsO h.S) tt
  rw [ids_len] at hfb hfb2
  generalize findO (idsO h.S) fr = ra at *
  generalize findO (idsO h.S) tt = rb at *
  have hSbd : h.S.length ≤ 4 := by have := hbd.four; unfold HdV.p at this; rw [pure_len] at this; exact this
  clear hmay hmp e0 hbd
  obtain ⟨u, n, o, hz, MA, m, mc, A, L, sc, la, sq⟩ := h
  unfold hdV at *
  unfold hdA HdV.p at *
  dsimp only at *
  go_enter Try.func25, Try.ntmps25
  go_wp2_with first
    | (with_reducible show wpList _ _ _ _ _ _
       refine wpList_load_row rfl 27 (.tmp 3) rfl w.heap.size rfl 27 _ (0, 0) _ hB Try.underlying27 rfl infoH ?_)
  refine hck.mono ?_
  clear hck hw0
  rintro e w2 ⟨rfl, b2⟩
  have hB := hB.below b2
  have hr0 := hr0.below b2
  have bb := b1.thenB' b2
  clear b1 b2
  go_wp2_with fail
  refine r_start (R := RB) (by rfl) (n := 8) (L := #[false, false, false, false, false, false, false, false]) rfl rfl ?_
  have bd : Below w2.heap.size w2 w2.drew := (Below.refl _ _).drew
  have hB := hB.below bd
  have hr0 := hr0.below bd
  have bb := bb.thenB' bd
  clear bd
  generalize w2.drew = wd at *
  refine r_flt RB_refl 0 19 #[true, false, false, false, false, false, false, false] (by simp only [List.getElem?_toArray, List.getElem?_cons_zero]; rfl) (by rfl) (by kernel_rfl) (by kernel_rfl) (by kernel_rfl) (fun _ _ _ _ h => h) rfl (by rfl) ?_
  apply Exists.intro
  apply And.intro
  · intro W hW
    exact exec_load_row rfl rfl (hB.below hW) Try.underlying27 infoH
  (try simp only [Act.put, List.setIfInBounds_toArray]); (try simp only [List.set_cons_succ]); (try simp only [List.set_cons_zero])
  refine r_flt RB_refl 1 20 #[true, true, false, false, false, false, false, false] (by simp only [List.getElem?_toArray, List.getElem?_cons_succ, List.getElem?_cons_zero]; rfl) (by rfl) (by kernel_rfl) (by kernel_rfl) (by kernel_rfl) (fun _ _ _ _ h => h) rfl (by rfl) ?_
  apply Exists.intro
  apply And.intro
  · intro W hW
    first | (go_simp; with_reducible rfl) | go_simp
  (try simp only [Act.put, List.setIfInBounds_toArray]); (try simp only [List.set_cons_succ]); (try simp only [List.set_cons_zero])
  refine r_flt RB_refl 3 22 #[true, true, false, true, false, false, false, false] (by simp only [List.getElem?_toArray, List.getElem?_cons_succ, List.getElem?_cons_zero]; rfl) (by rfl) (by kernel_rfl) (by kernel_rfl) (by kernel_rfl) (fun _ _ _ _ h => h) rfl (by rfl) ?_
  apply Exists.intro
  apply And.intro
  · intro W hW
    exact exec_load_row rfl rfl (hB.below hW) Try.underlying27 infoH
  (try simp only [Act.put, List.setIfInBounds_toArray]); (try simp only [List.set_cons_succ]); (try simp only [List.set_cons_zero])
  refine r_flt RB_refl 4 23 #[true, true, false, true, true, false, false, false] (by simp only [List.getElem?_toArray, List.getElem?_cons_succ, List.getElem?_cons_zero]; rfl) (by rfl) (by kernel_rfl) (by kernel_rfl) (by kernel_rfl) (fun _ _ _ _ h => h) rfl (by rfl) ?_
  apply Exists.intro
  apply And.intro
  · intro W hW
    first | (go_simp; with_reducible rfl) | go_simp
  (try simp only [Act.put, List.setIfInBounds_toArray]); (try simp only [List.set_cons_succ]); (try simp only [List.set_cons_zero])
  refine r_one RB_trans 2 (by kernel_rfl) ?_
  refine alt_call 21 #[true, true, true, true, true, false, false, false] (by simp only [List.getElem?_toArray, List.getElem?_cons_succ, List.getElem?_cons_zero]; rfl) (by rfl) rfl (by rfl) (by go_simp; first | exact ⟨rfl, rfl⟩ | rfl) ?_
  with_reducible refine (hfd _ hr0).mono ?_
  rintro e' w2b ⟨rfl, b9⟩
  refine ⟨_, rfl, b9, ?_⟩
  have hB := hB.below b9
  have hr0 := hr0.below b9
  have bb := bb.thenB' b9
  clear b9
  (try simp only [Act.put, List.setIfInBounds_toArray]); (try simp only [List.set_cons_succ]); (try simp only [List.set_cons_zero])
  refine r_one RB_trans 5 (by kernel_rfl) ?_
  refine alt_call 24 #[true, true, true, true, true, true, false, false] (by simp only [List.getElem?_toArray, List.getElem?_cons_succ, List.getElem?_cons_zero]; rfl) (by rfl) rfl (by rfl) (by go_simp; first | exact ⟨rfl, rfl⟩ | rfl) ?_
  with_reducible refine (hfd2 _ hr0).mono ?_
  rintro e' w3 ⟨rfl, b9⟩
  refine ⟨_, rfl, b9, ?_⟩
  have hB := hB.below b9
  have hr0 := hr0.below b9
  have bb := bb.thenB' b9
  clear b9
  (try simp only [Act.put, List.setIfInBounds_toArray]); (try simp only [List.set_cons_succ]); (try simp only [List.set_cons_zero])
  refine r_flt RB_refl 6 9 #[true, true, true, true, true, true, true, false] (by simp only [List.getElem?_toArray, List.getElem?_cons_succ, List.getElem?_cons_zero]; rfl) (by rfl) (by kernel_rfl) (by kernel_rfl) (by kernel_rfl) (fun _ _ _ _ h => h) rfl (by rfl) ?_
  apply Exists.intro
  apply And.intro
  · intro W hW
    first | (go_simp; with_reducible rfl) | go_simp
  (try simp only [Act.put, List.setIfInBounds_toArray]); (try simp only [List.set_cons_succ]); (try simp only [List.set_cons_zero])
  refine r_flt RB_refl 7 10 #[true, true, true, true, true, true, true, true] (by simp only [List.getElem?_toArray, List.getElem?_cons_succ, List.getElem?_cons_zero]; rfl) (by rfl) (by kernel_rfl) (by kernel_rfl) (by kernel_rfl) (fun _ _ _ _ h => h) rfl (by rfl) ?_
  apply Exists.intro
  apply And.intro
  · intro W hW
    first | (go_simp; with_reducible rfl) | go_simp
  (try simp only [Act.put, List.setIfInBounds_toArray]); (try simp only [List.set_cons_succ]); (try simp only [List.set_cons_zero])
  refine r_done (by kernel_rfl) ?_
  clear hfd hfd2
  obtain ⟨rm, lm, mm, hS, hl, hm, hrs⟩ := hr0
  dsimp only at rm lm mm hS hl hm hrs
  have hq := hB.lt
  by_cases ha : ra < 0
  focus
    have F : Hid (diffP ⟨u, n, o, hz, m, pureS L, la, sq⟩ fr tt = ([], 182)) := by unfold Hid; rw [E0.out, if_pos (.inl ha)]
    clear E0
    go_wp2_with fail
    go_ret2
    rw [F.out]
    exact ⟨_, rfl, OwnI.nil, bb⟩
  obtain ⟨a, rfl⟩ : ∃ a : Nat, ra = (a : Int) := ⟨ra.toNat, by omega⟩
  have ha' : ¬ (a : Int) < 0 := ha
  have haL : a < L.length := by omega
  have haI : (a : Int) < (L.length : Int) := by omega
  have hLI : (L.length : Int) ≤ 9223372036854775807 := by omega
  clear hfb ha
  have c4 := hB.cell 4
  have c5 := hB.cell 5
  simp at c4 c5
  have HA : Hid (mapAt (pureS L) a = L[a].m) := by unfold Hid mapAt; rw [pure_getD L a haL]
  by_cases ht : tt = 0
  focus
    subst ht
    have F : Hid (diffP ⟨u, n, o, hz, m, pureS L, la, sq⟩ fr 0 = (changedO L[a].m ((accR L a L.length ++ [(⟨MA, m, mc⟩ : RV)]).map (·.l)), 0)) := by
      unfold Hid
      rw [E0.out, if_neg (by omega), if_pos rfl, pure_len]
      show (changedO (mapAt (pureS L) a) (restM (pureS L) a L.length ++ [m]), (0 : Int)) = _
      rw [HA.out, ← restR_l, List.map_append]
      unfold restR accR
      rw [List.take_of_length_le (Nat.le_succ _), List.take_of_length_le (Nat.le_refl _)]
      rfl
    clear E0 HA hfb2
    go_wp2_with fail
    go_loopw [11, 12, 13, 39] (fun v s12 s13 i wr => ∃ k : Nat, k ≤ L.length ∧ i = .int .i64 (k : Int) ∧ OwnR wr w3.heap.size v (accR L a k) ∧ Below w3.heap.size w3 wr) (fun _ _ _ i _ => L.length - (intOf i).toNat)
    case atStart => exact ⟨0, Nat.zero_le _, rfl, by rw [accR_less L a 0 (by omega)]; exact OwnR.nil, Below.refl _ _⟩
    case round =>
      obtain ⟨k, hk, rfl, oR, bw⟩ := hrel
      have bk := bb.thenB' bw
      have hBw := hB.below bw
      have hs1 : w3.heap.size ≤ wr.heap.size := bw.size
      by_cases hlt : k < L.length
      · obtain ⟨ad, rfl, d0, d1, d2⟩ := (hS.below bw).sn hlt
        have hsk := (hrs L[k] (List.getElem_mem hlt)).below bw
        have bn := below_new wr (.cells #[.int .i64 L[k].id, .int .i64 L[k].size, .slice L[k].A L[k].m.length L[k].c] 52)
        have hSn := Blk.new wr 52 #[.int .i64 L[k].id, .int .i64 L[k].size, .slice L[k].A L[k].m.length L[k].c]
        have g2 := hSn.cell 2
        simp at g2
        have oR1 := oR.below bn
        have bn2 := below_new (wr.alloc (.cells #[.int .i64 L[k].id, .int .i64 L[k].size, .slice L[k].A L[k].m.length L[k].c] 52)) (.cells #[.slice L[k].A L[k].m.length L[k].c] 24)
        have oR2 := oR1.below bn2
        have rS := rd_newR (wr.alloc (.cells #[.int .i64 L[k].id, .int .i64 L[k].size, .slice L[k].A L[k].m.length L[k].c] 52)) (rvOf L[k])
        rw [show (wr.alloc (.cells #[.int .i64 L[k].id, .int .i64 L[k].size, .slice L[k].A L[k].m.length L[k].c] 52)).heap.size = wr.heap.size + 1 from Array.size_push ..] at rS
        have hlr := accR_len L a k
        have hs2 : w3.heap.size ≤ ((wr.alloc (.cells #[.int .i64 L[k].id, .int .i64 L[k].size, .slice L[k].A L[k].m.length L[k].c] 52)).alloc (.cells #[.slice L[k].A L[k].m.length L[k].c] 24)).heap.size := by have := bn.size; have := bn2.size; omega
        have bn12 := bn.thenB' bn2
        have hll : (accR L a k).length ≤ 1000000 := by omega
        have hbl : w3.heap.size ≤ wr.heap.size := bw.size
        by_cases hak : a < k
        · have hakI : (a : Int) < (k : Int) := by omega
          have HN : Hid (accR L a (k + 1) = accR L a k ++ [rvOf L[k]]) := accR_next L a k hlt hak
          go_wp2_with first
            | (at_builtin
               refine wpList_appR rfl (.tmp 56) (.tmp 59) rfl w3.heap.size u11 (accR L a k) rfl oR2 _ _ 1 (rvOf L[k]) rfl rS hll hs2 ?_
               intro v6 w6 o6 e6)
          go_roundw
          case rel => exact ⟨k + 1, by omega, by go_num, by rw [HN.out]; exact o6, (bw.thenB' bn12).trans (e6.below oR2 (Nat.le_refl _) hs2)⟩
          case measure => simp [intOf] <;> omega
        · have hakI : ¬ (a : Int) < (k : Int) := by omega
          have HN : Hid (accR L a (k + 1) = accR L a k) := by unfold Hid; rw [accR_less L a k (by omega), accR_less L a (k + 1) (by omega)]
          go_wp2_with fail
          go_roundw
          case rel => exact ⟨k + 1, by omega, by go_num, by rw [HN.out]; exact oR1, bw.thenB' bn⟩
          case measure => simp [intOf] <;> omega
      · obtain rfl : k = L.length := by omega
        have c4 := hBw.cell 4
        have c5 := hBw.cell 5
        simp at c4 c5
        obtain ⟨ad, rfl, d0, d1, d2⟩ := (hS.below bw).sn haL
        have bn := below_new wr (.cells #[.slice MA m.length mc] 24)
        obtain ⟨ad', hA', d0', d1', d2'⟩ := ((hS.below bw).below bn).sn haL
        injection hA' with hA'
        subst hA'
        have oR1 := oR.below bn
        have rS := rd_newR wr ⟨MA, m, mc⟩
        have hll := accR_len L a L.length
        have hll2 : (accR L a L.length).length ≤ 1000000 := by omega
        have hs2 : w3.heap.size ≤ (wr.alloc (.cells #[.slice MA m.length mc] 24)).heap.size := by have := bn.size; omega
        go_wp2_with first
          | (at_builtin
             refine wpList_appR rfl (.tmp 64) (.tmp 67) rfl w3.heap.size u11 (accR L a L.length) rfl oR1 _ _ 1 ⟨MA, m, mc⟩ rfl rS hll2 hs2 ?_
             intro v6 w6 o6 e6
             have b6 : Below w3.heap.size w3 w6 := (bw.thenB' bn).trans (e6.below oR1 (Nat.le_refl _) hs2)
             have c5 := (hB.below b6).cell 5
             simp at c5
             obtain ⟨ad'', hA'', d0'', d1'', d2''⟩ := (hS.below b6).sn haL
             injection hA'' with hA''
             subst hA'')
        obtain ⟨A6, k6, rfl, l6, x6⟩ := o6.form
        have rg := ((hrs L[a] (List.getElem_mem haL)).below b6).1
        have rm6 := rm.below b6
        have hrl : ∀ s ∈ accR L a L.length ++ [(⟨MA, m, mc⟩ : RV)], RdI w6 D s.A s.l := fun s hs => by
          rcases List.mem_append.1 hs with hs | hs
          · obtain ⟨x, hx, rfl⟩ := accR_mem hs
            exact ((hrs x hx).below b6).1
          · obtain rfl : s = ⟨MA, m, mc⟩ := by simpa using hs
            exact rm6
        have hch := Changed_any D _ D L[a].A A6 L[a].c k6 L[a].m (accR L a L.length ++ [(⟨MA, m, mc⟩ : RV)]) w6 rg o6.rd hrl (by rw [List.length_append, List.length_singleton]; omega)
        refine hch.mono ?_
        rintro e w7 ⟨v7, rfl, o7, b7⟩
        go_wp2_with fail
        go_ret2
        rw [F.out]
        exact ⟨_, rfl, o7.low (bb.trans (b6.mono bb.size)).size, (bb.trans (b6.mono bb.size)).thenB' b7⟩
  have hto : (tt == 0) = false := by simp [ht]
  have hto2 : (tt != 0) = true := by simp [ht]
  by_cases hb : rb < (a : Int)
  focus
    have F : Hid (diffP ⟨u, n, o, hz, m, pureS L, la, sq⟩ fr tt = ([], 182)) := by unfold Hid; rw [E0.out, if_pos (.inr ⟨ht, hb⟩)]
    clear E0 ht
    go_wp2_with fail
    go_ret2
    rw [F.out]
    exact ⟨_, rfl, OwnI.nil, bb⟩
  obtain ⟨b, rfl⟩ : ∃ b : Nat, rb = (b : Int) := ⟨rb.toNat, by omega⟩
  have hbL : b < L.length := by omega
  have hba : a ≤ b := by omega
  focus
    have F : Hid (diffP ⟨u, n, o, hz, m, pureS L, la, sq⟩ fr tt = (changedO L[a].m ((accR L a (b + 1)).map (·.l)), 0)) := by
      unfold Hid
      rw [E0.out, if_neg (by omega), if_neg ht]
      show (changedO (mapAt (pureS L) a) (restM (pureS L) a b), (0 : Int)) = _
      rw [HA.out, ← restR_l]
      rfl
    clear E0 HA hfb2 ht
    go_wp2_with fail
    go_loopw [11, 12, 13, 39] (fun v s12 s13 i wr => ∃ k : Nat, k ≤ L.length ∧ i = .int .i64 (k : Int) ∧ OwnR wr w3.heap.size v (accR L a (min k (b + 1))) ∧ Below w3.heap.size w3 wr) (fun _ _ _ i _ => L.length - (intOf i).toNat)
    case atStart => exact ⟨0, Nat.zero_le _, rfl, by rw [accR_less L a _ (by omega)]; exact OwnR.nil, Below.refl _ _⟩
    case round =>
      obtain ⟨k, hk, rfl, oR, bw⟩ := hrel
      have bk := bb.thenB' bw
      have hBw := hB.below bw
      obtain ⟨acc, hacc⟩ : ∃ acc, acc = accR L a (min k (b + 1)) := ⟨_, rfl⟩
      have HACC := Lib.hid hacc.symm
      rw [← hacc] at oR
      clear hacc
      have hs1 : w3.heap.size ≤ wr.heap.size := bw.size
      by_cases hlt : k < L.length
      · obtain ⟨ad, rfl, d0, d1, d2⟩ := (hS.below bw).sn hlt
        have hsk := (hrs L[k] (List.getElem_mem hlt)).below bw
        have bn := below_new wr (.cells #[.int .i64 L[k].id, .int .i64 L[k].size, .slice L[k].A L[k].m.length L[k].c] 52)
        have hSn := Blk.new wr 52 #[.int .i64 L[k].id, .int .i64 L[k].size, .slice L[k].A L[k].m.length L[k].c]
        have g2 := hSn.cell 2
        simp at g2
        have oR1 := oR.below bn
        have bn2 := below_new (wr.alloc (.cells #[.int .i64 L[k].id, .int .i64 L[k].size, .slice L[k].A L[k].m.length L[k].c] 52)) (.cells #[.slice L[k].A L[k].m.length L[k].c] 24)
        have oR2 := oR1.below bn2
        have rS := rd_newR (wr.alloc (.cells #[.int .i64 L[k].id, .int .i64 L[k].size, .slice L[k].A L[k].m.length L[k].c] 52)) (rvOf L[k])
        rw [show (wr.alloc (.cells #[.int .i64 L[k].id, .int .i64 L[k].size, .slice L[k].A L[k].m.length L[k].c] 52)).heap.size = wr.heap.size + 1 from Array.size_push ..] at rS
        have hlr := accR_len L a (min k (b + 1))
        rw [HACC.out] at hlr
        have hs2 : w3.heap.size ≤ ((wr.alloc (.cells #[.int .i64 L[k].id, .int .i64 L[k].size, .slice L[k].A L[k].m.length L[k].c] 52)).alloc (.cells #[.slice L[k].A L[k].m.length L[k].c] 24)).heap.size := by have := bn.size; have := bn2.size; omega
        have bn12 := bn.thenB' bn2
        have hll : acc.length ≤ 1000000 := by omega
        have hbl : w3.heap.size ≤ wr.heap.size := bw.size
        by_cases hak : a < k
        · have hakI : (a : Int) < (k : Int) := by omega
          by_cases hkb : k ≤ b
          · have hkbI : (k : Int) ≤ (b : Int) := by omega
            have HN : Hid (accR L a (min (k + 1) (b + 1)) = acc ++ [rvOf L[k]]) := by
              unfold Hid
              rw [← HACC.out, show min (k + 1) (b + 1) = k + 1 by omega, show min k (b + 1) = k by omega]
              exact accR_next L a k hlt hak
            go_wp2_with first
              | (at_builtin
                 refine wpList_appR rfl (.tmp 56) (.tmp 59) rfl w3.heap.size u11 acc rfl oR2 _ _ 1 (rvOf L[k]) rfl rS hll hs2 ?_
                 intro v6 w6 o6 e6)
            go_roundw
            case rel => exact ⟨k + 1, by omega, by go_num, by rw [HN.out]; exact o6, (bw.thenB' bn12).trans (e6.below oR2 (Nat.le_refl _) hs2)⟩
            case measure => simp [intOf] <;> omega
          · have hkbI : ¬ (k : Int) ≤ (b : Int) := by omega
            have HN : Hid (accR L a (min (k + 1) (b + 1)) = acc) := by
              unfold Hid
              rw [← HACC.out, show min (k + 1) (b + 1) = b + 1 by omega, show min k (b + 1) = b + 1 by omega]
            go_wp2_with fail
            go_roundw
            case rel => exact ⟨k + 1, by omega, by go_num, by rw [HN.out]; exact oR1, bw.thenB' bn⟩
            case measure => simp [intOf] <;> omega
        · have hakI : ¬ (a : Int) < (k : Int) := by omega
          have HN : Hid (accR L a (min (k + 1) (b + 1)) = acc) := by unfold Hid; rw [← HACC.out, accR_less L a _ (by omega), accR_less L a _ (by omega)]
          go_wp2_with fail
          go_roundw
          case rel => exact ⟨k + 1, by omega, by go_num, by rw [HN.out]; exact oR1, bw.thenB' bn⟩
          case measure => simp [intOf] <;> omega
      · obtain rfl : k = L.length := by omega
        have hfin : acc = accR L a (b + 1) := by rw [← HACC.out, show min L.length (b + 1) = b + 1 by omega]
        subst hfin
        have c5 := hBw.cell 5
        simp at c5
        obtain ⟨ad, rfl, d0, d1, d2⟩ := (hS.below bw).sn haL
        have hll := accR_len L a (b + 1)
        obtain ⟨A6, k6, rfl, l6, x6⟩ := oR.form
        have rg := ((hrs L[a] (List.getElem_mem haL)).below bw).1
        have hrl : ∀ s ∈ accR L a (b + 1), RdI wr D s.A s.l := fun s hs => by
          obtain ⟨x, hx, rfl⟩ := accR_mem hs
          exact ((hrs x hx).below bw).1
        have hch := Changed_any D _ D L[a].A A6 L[a].c k6 L[a].m (accR L a (b + 1)) wr rg oR.rd hrl (by omega)
        go_wp2_with fail
        refine hch.mono ?_
        rintro e w7 ⟨v7, rfl, o7, b7⟩
        go_wp2_with fail
        go_ret2
        rw [F.out]
        exact ⟨_, rfl, o7.low bk.size, bk.thenB' b7⟩
end Go.Proofs.Ytpgfhbkggchliaa

/- The objects that differ between two snapshots: the document. -/
namespace Go.Proofs.Ytpgfhbkggchliaa
open Go.RowKit
set_option linter.unusedVariables false

set_option maxHeartbeats 16000000 in
set_option maxRecDepth 100000 in
theorem rDiff_any6 (D : Nat → Prop) (h : HdV) (fr tt : Int) (w : World) (hr : HdR w D h) :
    Calls Try.prog 26 #[hdV h, .int .i64 fr, .int .i64 tt] w fun e w' => ∃ v, e = .returned (.tuple #[v, .int .i64 (diffP h.p fr tt).2]) ∧ OwnI w' w.heap.size v (diffP h.p fr tt).1 ∧ Below w.heap.size w w' := by
  have b1 := below_new w (.cells (hdA h) 27)
  have hB := Blk.new w 27 (hdA h)
  have hr0 := hr.below b1
  have hmp := may_p h
  have hck := rMay_any D h _ hr0
  generalize hw0 : w.alloc (.cells (hdA h) 27) = w0 at *
  clear hr
  cases hmay : mayH h
  focus
    have E : Hid (diffP h.p fr tt = ([], 60)) := by unfold Hid diffP; rw [← hmp, hmay]; rfl
    rw [hmay] at hck
    clear hmay hmp hr0
    obtain ⟨u, n, o, hz, MA, m, mc, A, L, sc, la, sq⟩ := h
    unfold hdV at *
    unfold hdA at *
    dsimp only at *
    go_enter Try.func26, Try.ntmps26
    go_wp2_with first
      | (with_reducible show wpList _ _ _ _ _ _
         refine wpList_load_row rfl 27 (.tmp 3) rfl w.heap.size rfl 27 _ (0, 0) _ hB Try.underlying27 rfl infoH ?_)
    refine hck.mono ?_
    rintro e w2 ⟨rfl, b2⟩
    go_wp2_with fail
    go_ret2
    rw [E.out]
    exact ⟨_, rfl, OwnI.nil, b1.thenB' b2⟩
  have hbd := mayP_bd (hmp ▸ hmay)
  have e0 : diffP h.p fr tt = if findO (idsP h.p.S) fr < 0 ∨ (tt ≠ 0 ∧ findO (idsP h.p.S) tt < findO (idsP h.p.S) fr) then ([], 182)
     else if tt = 0 then (changedO (mapAt h.p.S (findO (idsP h.p.S) fr).toNat) (restM h.p.S (findO (idsP h.p.S) fr).toNat h.p.S.length ++ [h.p.m]), 0)
     else (changedO (mapAt h.p.S (findO (idsP h.p.S) fr).toNat) (restM h.p.S (findO (idsP h.p.S) fr).toNat (findO (idsP h.p.S) tt).toNat), 0) := by unfold diffP; rw [← hmp, hmay]; rfl
  rw [show idsP h.p.S = idsO h.S from (ids_p h.S).symm] at e0
  have E0 := Lib.hid e0
  rw [hmay] at hck
  have hfd := fun (W : World) (hr : HdR W D h) => rFind_any D h fr W hr
  have hfd2 := fun (W : World) (hr : HdR W D h) => rFind_any D h tt W hr
  have hfb := findO_bd (idsO h.S) fr
  have hfb2 := findO_bd (idsO h.S) tt
  rw [ids_len] at hfb hfb2
  generalize findO (idsO h.S) fr = ra at *
  generalize findO (idsO h.S) tt = rb at *
  have hSbd : h.S.length ≤ 4 := by have := hbd.four; unfold HdV.p at this; rw [pure_len] at this; exact this
  clear hmay hmp e0 hbd
  obtain ⟨u, n, o, hz, MA, m, mc, A, L, sc, la, sq⟩ := h
  unfold hdV at *
  unfold hdA HdV.p at *
  dsimp only at *
  go_enter Try.func26, Try.ntmps26
  go_wp2_with first
    | (with_reducible show wpList _ _ _ _ _ _
       refine wpList_load_row rfl 27 (.tmp 3) rfl w.heap.size rfl 27 _ (0, 0) _ hB Try.underlying27 rfl infoH ?_)
  refine hck.mono ?_
  clear hck hw0
  rintro e w2 ⟨rfl, b2⟩
  have hB := hB.below b2
  have hr0 := hr0.below b2
  have bb := b1.thenB' b2
  clear b1 b2
  go_wp2_with first
    | (with_reducible show wpList _ _ _ _ _ _
       refine wpList_load_row rfl 27 (.tmp 3) rfl w.heap.size rfl 27 _ (0, 0) _ hB Try.underlying27 rfl infoH ?_)
  refine (hfd _ hr0).mono ?_
  rintro e w2b ⟨rfl, b9⟩
  have hB := hB.below b9
  have hr0 := hr0.below b9
  have bb := bb.thenB' b9
  clear b9
  go_wp2_with first
    | (with_reducible show wpList _ _ _ _ _ _
       refine wpList_load_row rfl 27 (.tmp 3) rfl w.heap.size rfl 27 _ (0, 0) _ hB Try.underlying27 rfl infoH ?_)
  refine (hfd2 _ hr0).mono ?_
  rintro e w3 ⟨rfl, b9⟩
  have hB := hB.below b9
  have hr0 := hr0.below b9
  have bb := bb.thenB' b9
  clear b9
  clear hfd hfd2
  obtain ⟨rm, lm, mm, hS, hl, hm, hrs⟩ := hr0
  dsimp only at rm lm mm hS hl hm hrs
  have hq := hB.lt
  by_cases ha : ra < 0
  focus
    have F : Hid (diffP ⟨u, n, o, hz, m, pureS L, la, sq⟩ fr tt = ([], 182)) := by unfold Hid; rw [E0.out, if_pos (.inl ha)]
    clear E0
    go_wp2_with fail
    go_ret2
    rw [F.out]
    exact ⟨_, rfl, OwnI.nil, bb⟩
  obtain ⟨a, rfl⟩ : ∃ a : Nat, ra = (a : Int) := ⟨ra.toNat, by omega⟩
  have ha' : ¬ (a : Int) < 0 := ha
  have haL : a < L.length := by omega
  have haI : (a : Int) < (L.length : Int) := by omega
  have hLI : (L.length : Int) ≤ 9223372036854775807 := by omega
  have haB : (a : Int) + 1 ≤ 1000 := by omega
  clear hfb ha
  have c4 := hB.cell 4
  have c5 := hB.cell 5
  simp at c4 c5
  have HA : Hid (mapAt (pureS L) a = L[a].m) := by unfold Hid mapAt; rw [pure_getD L a haL]
  by_cases ht : tt = 0
  focus
    subst ht
    obtain ⟨E, hE⟩ : ∃ E, L.length = E + 1 := ⟨L.length - 1, by omega⟩
    have hsub : (L.length : Int) - 1 = (E : Int) := by omega
    have F : Hid (diffP ⟨u, n, o, hz, m, pureS L, la, sq⟩ fr 0 = (changedO L[a].m ((accR L a (E + 1) ++ [(⟨MA, m, mc⟩ : RV)]).map (·.l)), 0)) := by
      unfold Hid
      rw [E0.out, if_neg (by omega), if_pos rfl, pure_len]
      show (changedO (mapAt (pureS L) a) (restM (pureS L) a L.length ++ [m]), (0 : Int)) = _
      rw [HA.out, ← restR_l, List.map_append]
      unfold restR accR
      rw [List.take_of_length_le (Nat.le_succ _), List.take_of_length_le (by omega)]
      rfl
    have HE := Lib.hid hE
    clear E0 HA hfb2
    have hEL : E < L.length := by omega
    clear hE
    have hEI : (E : Int) ≤ 1000 := by omega
    go_wp2_with fail
    go_loopw [11, 12] (fun v i wr => ∃ k : Nat, a + 1 ≤ k ∧ k ≤ E + 1 ∧ i = .int .i64 (k : Int) ∧ OwnR wr w3.heap.size v (accR L a k) ∧ Below w3.heap.size w3 wr) (fun _ i _ => E + 1 - (intOf i).toNat)
    case atStart => exact ⟨a + 1, Nat.le_refl _, by omega, by go_num, by rw [accR_less L a _ (by omega)]; exact OwnR.nil, Below.refl _ _⟩
    case round =>
      obtain ⟨k, hak, hk, rfl, oR, bw⟩ := hrel
      have bk := bb.thenB' bw
      have hBw := hB.below bw
      have hs1 : w3.heap.size ≤ wr.heap.size := bw.size
      have c4 := hBw.cell 4
      have c5 := hBw.cell 5
      simp at c4 c5
      by_cases hlt : k ≤ E
      · have hkL : k < L.length := by omega
        have hkI : (k : Int) ≤ (E : Int) := by omega
        have hkLI : (k : Int) < (L.length : Int) := by omega
        obtain ⟨ad, rfl, d0, d1, d2⟩ := (hS.below bw).sn hkL
        have bn2 := below_new wr (.cells #[.slice L[k].A L[k].m.length L[k].c] 24)
        have oR2 := oR.below bn2
        have rS := rd_newR wr (rvOf L[k])
        have hlr := accR_len L a k
        have hs2 : w3.heap.size ≤ (wr.alloc (.cells #[.slice L[k].A L[k].m.length L[k].c] 24)).heap.size := by have := bn2.size; omega
        have hll : (accR L a k).length ≤ 1000000 := by omega
        have HN : Hid (accR L a (k + 1) = accR L a k ++ [rvOf L[k]]) := accR_next L a k hkL (by omega)
        go_wp2_with first
          | (at_builtin
             refine wpList_appR rfl (.tmp 47) (.tmp 54) rfl w3.heap.size u11 (accR L a k) rfl oR2 _ _ 1 (rvOf L[k]) rfl rS hll hs2 ?_
             intro v6 w6 o6 e6)
        go_roundw
        case rel => exact ⟨k + 1, by omega, by omega, by go_num, by rw [HN.out]; exact o6, (bw.thenB' bn2).trans (e6.below oR2 (Nat.le_refl _) hs2)⟩
        case measure => simp [intOf] <;> omega
      · have hkI : ¬ (k : Int) ≤ (E : Int) := by omega
        obtain rfl : k = E + 1 := by omega
        obtain ⟨ad, rfl, d0, d1, d2⟩ := (hS.below bw).sn haL
        have bn := below_new wr (.cells #[.slice MA m.length mc] 24)
        obtain ⟨ad', hA', d0', d1', d2'⟩ := ((hS.below bw).below bn).sn haL
        injection hA' with hA'
        subst hA'
        have oR1 := oR.below bn
        have rS := rd_newR wr ⟨MA, m, mc⟩
        have hll := accR_len L a (E + 1)
        have hll2 : (accR L a (E + 1)).length ≤ 1000000 := by omega
        have hs2 : w3.heap.size ≤ (wr.alloc (.cells #[.slice MA m.length mc] 24)).heap.size := by have := bn.size; omega
        go_wp2_with first
          | (at_builtin
             refine wpList_appR rfl (.tmp 58) (.tmp 61) rfl w3.heap.size u11 (accR L a (E + 1)) rfl oR1 _ _ 1 ⟨MA, m, mc⟩ rfl rS hll2 hs2 ?_
             intro v6 w6 o6 e6
             have b6 : Below w3.heap.size w3 w6 := (bw.thenB' bn).trans (e6.below oR1 (Nat.le_refl _) hs2)
             have c5 := (hB.below b6).cell 5
             simp at c5
             obtain ⟨ad'', hA'', d0'', d1'', d2''⟩ := (hS.below b6).sn haL
             injection hA'' with hA''
             subst hA'')
        obtain ⟨A6, k6, rfl, l6, x6⟩ := o6.form
        have rg := ((hrs L[a] (List.getElem_mem haL)).below b6).1
        have rm6 := rm.below b6
        have hrl : ∀ s ∈ accR L a (E + 1) ++ [(⟨MA, m, mc⟩ : RV)], RdI w6 D s.A s.l := fun s hs => by
          rcases List.mem_append.1 hs with hs | hs
          · obtain ⟨x, hx, rfl⟩ := accR_mem hs
            exact ((hrs x hx).below b6).1
          · obtain rfl : s = ⟨MA, m, mc⟩ := by simpa using hs
            exact rm6
        have hch := rChanged_any D _ D L[a].A A6 L[a].c k6 L[a].m (accR L a (E + 1) ++ [(⟨MA, m, mc⟩ : RV)]) w6 rg o6.rd hrl (by rw [List.length_append, List.length_singleton]; omega)
        refine hch.mono ?_
        rintro e w7 ⟨v7, rfl, o7, b7⟩
        go_wp2_with fail
        go_ret2
        rw [F.out]
        exact ⟨_, rfl, o7.low (bb.trans (b6.mono bb.size)).size, (bb.trans (b6.mono bb.size)).thenB' b7⟩
  have hto : (tt == 0) = false := by simp [ht]
  have hto2 : (tt != 0) = true := by simp [ht]
  by_cases hb : rb < (a : Int)
  focus
    have F : Hid (diffP ⟨u, n, o, hz, m, pureS L, la, sq⟩ fr tt = ([], 182)) := by unfold Hid; rw [E0.out, if_pos (.inr ⟨ht, hb⟩)]
    clear E0 ht
    go_wp2_with fail
    go_ret2
    rw [F.out]
    exact ⟨_, rfl, OwnI.nil, bb⟩
  obtain ⟨b, rfl⟩ : ∃ b : Nat, rb = (b : Int) := ⟨rb.toNat, by omega⟩
  have hbL : b < L.length := by omega
  have hba : a ≤ b := by omega
  have hdb : decide (b < a) = false := by simp; omega
  focus
    have F : Hid (diffP ⟨u, n, o, hz, m, pureS L, la, sq⟩ fr tt = (changedO L[a].m ((accR L a (b + 1)).map (·.l)), 0)) := by
      unfold Hid
      rw [E0.out, if_neg (by omega), if_neg ht]
      show (changedO (mapAt (pureS L) a) (restM (pureS L) a b), (0 : Int)) = _
      rw [HA.out, ← restR_l]
      rfl
    clear E0 HA hfb2 ht
    have hEI : (b : Int) ≤ 1000 := by omega
    go_wp2_with fail
    go_loopw [11, 12] (fun v i wr => ∃ k : Nat, a + 1 ≤ k ∧ k ≤ b + 1 ∧ i = .int .i64 (k : Int) ∧ OwnR wr w3.heap.size v (accR L a k) ∧ Below w3.heap.size w3 wr) (fun _ i _ => b + 1 - (intOf i).toNat)
    case atStart => exact ⟨a + 1, Nat.le_refl _, by omega, by go_num, by rw [accR_less L a _ (by omega)]; exact OwnR.nil, Below.refl _ _⟩
    case round =>
      obtain ⟨k, hak, hk, rfl, oR, bw⟩ := hrel
      have bk := bb.thenB' bw
      have hBw := hB.below bw
      have hs1 : w3.heap.size ≤ wr.heap.size := bw.size
      have c4 := hBw.cell 4
      have c5 := hBw.cell 5
      simp at c4 c5
      by_cases hlt : k ≤ b
      · have hkL : k < L.length := by omega
        have hkI : (k : Int) ≤ (b : Int) := by omega
        have hkLI : (k : Int) < (L.length : Int) := by omega
        obtain ⟨ad, rfl, d0, d1, d2⟩ := (hS.below bw).sn hkL
        have bn2 := below_new wr (.cells #[.slice L[k].A L[k].m.length L[k].c] 24)
        have oR2 := oR.below bn2
        have rS := rd_newR wr (rvOf L[k])
        have hlr := accR_len L a k
        have hs2 : w3.heap.size ≤ (wr.alloc (.cells #[.slice L[k].A L[k].m.length L[k].c] 24)).heap.size := by have := bn2.size; omega
        have hll : (accR L a k).length ≤ 1000000 := by omega
        have HN : Hid (accR L a (k + 1) = accR L a k ++ [rvOf L[k]]) := accR_next L a k hkL (by omega)
        go_wp2_with first
          | (at_builtin
             refine wpList_appR rfl (.tmp 47) (.tmp 54) rfl w3.heap.size u11 (accR L a k) rfl oR2 _ _ 1 (rvOf L[k]) rfl rS hll hs2 ?_
             intro v6 w6 o6 e6)
        go_roundw
        case rel => exact ⟨k + 1, by omega, by omega, by go_num, by rw [HN.out]; exact o6, (bw.thenB' bn2).trans (e6.below oR2 (Nat.le_refl _) hs2)⟩
        case measure => simp [intOf] <;> omega
      · have hkI : ¬ (k : Int) ≤ (b : Int) := by omega
        obtain rfl : k = b + 1 := by omega
        obtain ⟨ad, rfl, d0, d1, d2⟩ := (hS.below bw).sn haL
        have hll := accR_len L a (b + 1)
        obtain ⟨A6, k6, rfl, l6, x6⟩ := oR.form
        have rg := ((hrs L[a] (List.getElem_mem haL)).below bw).1
        have hrl : ∀ s ∈ accR L a (b + 1), RdI wr D s.A s.l := fun s hs => by
          obtain ⟨x, hx, rfl⟩ := accR_mem hs
          exact ((hrs x hx).below bw).1
        have hch := rChanged_any D _ D L[a].A A6 L[a].c k6 L[a].m (accR L a (b + 1)) wr rg oR.rd hrl (by omega)
        go_wp2_with fail
        refine hch.mono ?_
        rintro e w7 ⟨v7, rfl, o7, b7⟩
        go_wp2_with fail
        go_ret2
        rw [F.out]
        exact ⟨_, rfl, o7.low bk.size, bk.thenB' b7⟩
end Go.Proofs.Ytpgfhbkggchliaa

/- The document's example of heads. -/
namespace Go.Proofs.Ytpgfhbkggchliaa
open Go.RowKit
set_option linter.unusedVariables false

def exP : PH := ⟨2, 3, 4, 10, [2, 1], [(1, 10, [1])], 1, 0⟩
theorem ex_lay : layO 2 3 4 = true := by kernel_rfl
theorem ex_snap : snapP ⟨2, 3, 4, 10, [1], [], 0, 0⟩ = (⟨2, 3, 4, 10, [2], [(1, 10, [1])], 1, 0⟩, 1, 0) := by kernel_rfl
theorem ex_diff : diffP exP 1 0 = ([1], 0) := by kernel_rfl
theorem ex_back : unpP (packP exP) = (exP, 0) := by kernel_rfl
theorem ex_packlen : (packP exP).length ≤ 1000 := by
  have : packP exP = packB exP := by kernel_rfl
  rw [this]
  unfold packB
  have h1 := headB_len exP
  have h2 := flatS_len exP.S
  have h3 : exP.S.length = 1 := rfl
  rw [List.length_append]
  omega
theorem ex_may : mayP exP = true := by kernel_rfl

/-- A load of a whole struct behind a guard that lets it. -/
theorem wpList_load_rowG {ops : Array Oper} {rest : List Oper} {o : Oper} {a : Act} {w : World} {Q : Exit → Act → World → Prop} {j : Nat} {b : Bool} (hgd : o.guard = some (j, b)) (hy : yielded ops a.tmps j = some b) (ty : TypeId) (x : Operand) (ho : o.op = .load ty x)
    (g : Nat) (hx : a.eval x = .pointer (some ⟨g, 0, none⟩)) (t : TypeId) (cs : Array Value) (hg : Blk w g t cs) (fs : Array Field)
    (hu : Try.prog.underlying ty = some (.struct fs)) (hi : (Try.prog.info? ty).map (·.size) = some cs.size)
    (h : wpList Try.prog ops Q rest (a.put o.dst (.agg cs)) w) : wpList Try.prog ops Q (o :: rest) a w :=
  wpList_step fun K hK => by
    have hw : Region.wanted o (yielded ops a.tmps) = true := by simp [Region.wanted, hgd, hy]
    rw [if_pos hw]
    exact wp_load_row ty x ho g hx t cs (0, 0) _ hg hu rfl hi (hK _ _ h)

set_option maxHeartbeats 8000000 in
set_option maxRecDepth 100000 in
theorem awake_any6 (w : World) : Calls Try.prog 10 #[] w fun e w' => e = .returned (.bool true) ∧ Below w.heap.size w w' := by
  have hnew := New_any 2 3 4 10 w
  unfold layV at hnew
  go_enter Try.func10, Try.ntmps10
  go_wp2_with fail
  refine hnew.mono ?_
  clear hnew
  rintro e w1 ⟨hor, b1⟩
  rcases hor with ⟨-, -, -, rfl⟩ | ⟨hno, -⟩
  rotate_left
  · exact absurd ⟨ex_lay, by decide, by decide⟩ hno
  unfold freshH hdV hdA
  dsimp only [List.length_nil]
  have bn := below_new w1 (.cells #[.int .i64 2, .int .i64 3, .int .i64 4, .int .i64 10, .slice none 0 0, .slice none 0 0, .int .i64 0, .int .i64 0] 27)
  have hB := Blk.new w1 27 #[.int .i64 2, .int .i64 3, .int .i64 4, .int .i64 10, .slice none 0 0, .slice none 0 0, .int .i64 0, .int .i64 0]
  have bm := below_new (w1.alloc (.cells #[.int .i64 2, .int .i64 3, .int .i64 4, .int .i64 10, .slice none 0 0, .slice none 0 0, .int .i64 0, .int .i64 0] 27)) (.cells #[.int .i64 1] 3)
  have hB := hB.below bm
  have r1 := rd_newI (w1.alloc (.cells #[.int .i64 2, .int .i64 3, .int .i64 4, .int .i64 10, .slice none 0 0, .slice none 0 0, .int .i64 0, .int .i64 0] 27)) 1
  have bb := b1.thenB' (bn.thenB' bm)
  have hs1 := b1.size
  rw [show (w1.alloc (.cells #[.int .i64 2, .int .i64 3, .int .i64 4, .int .i64 10, .slice none 0 0, .slice none 0 0, .int .i64 0, .int .i64 0] 27)).heap.size = w1.heap.size + 1 from Array.size_push ..] at r1
  go_wp2_with first
    | (with_reducible show wpList _ _ _ _ _ _
       refine wpList_fldB rfl 24 (.tmp 16) (.tmp 15) rfl w1.heap.size 4 27 _ (.slice (some ⟨w1.heap.size + 1, 0, none⟩) 1 1) rfl rfl rfl infoM1 hB 8 rfl (by decide) ?_
       intro w2 hB2 m2
       replace hB2 : Blk w2 w1.heap.size 27 #[.int .i64 2, .int .i64 3, .int .i64 4, .int .i64 10, .slice (some ⟨w1.heap.size + 1, 0, none⟩) 1 1, .slice none 0 0, .int .i64 0, .int .i64 0] := hB2)
    | (with_reducible show wpList _ _ _ _ _ _
       refine wpList_load_row rfl 27 (.tmp 1) rfl w1.heap.size rfl 27 _ (0, 0) _ hB2 Try.underlying27 rfl infoH ?_)
  have r2 : RdI w2 (fun b => w1.heap.size < b) (some ⟨w1.heap.size + 1, 0, none⟩) [1] := Rd.mod (Rd.imp r1 (D' := fun b => w1.heap.size < b) (fun b _ hb => by rw [hb]; exact Nat.lt_succ_self _) (by decide)) m2 (fun b hb e => by omega)
  have hr1 : HdR w2 (fun _ => True) ⟨2, 3, 4, 10, some ⟨w1.heap.size + 1, 0, none⟩, [1], 1, none, [], 0, 0, 0⟩ :=
    ⟨Rd.imp r2 (fun _ _ _ => trivial) (by decide), Nat.le_refl _, by show (1 : Nat) ≤ _; omega, fun h => by simp at h, Nat.le_refl _, by show (0 : Nat) ≤ _; omega, fun s hs => by simp at hs⟩
  have bb := bb.thenM m2 bb.size (fun i hi e => by omega)
  have hsn := Snap_any6 _ _ w2 hr1
  rw [show snapP (HdV.p ⟨2, 3, 4, 10, some ⟨w1.heap.size + 1, 0, none⟩, [1], 1, none, [], 0, 0, 0⟩) = _ from ex_snap] at hsn
  unfold hdV hdA at hsn
  simp only [List.length_nil, List.length_cons, Nat.zero_add] at hsn
  clear r1 r2 hr1 m2 hB hB2 bm bn b1
  refine hsn.mono ?_
  clear hsn
  rintro e w3 ⟨⟨u, n, o, hz, MA, m, mc, A, L, sc, la, sq⟩, rfl, hp, hr3, b3⟩
  simp only [HdV.p, PH.mk.injEq] at hp
  obtain ⟨rfl, rfl, rfl, rfl, rfl, hPL, rfl, rfl⟩ := hp
  have hL1 : L.length = 1 := by rw [← pure_len L, hPL]; rfl
  have bb := bb.thenB' b3
  simp only [List.length_nil, List.length_cons, Nat.zero_add]
  rw [hL1]
  have bn := below_new w3 (.cells #[.int .i64 2, .int .i64 3, .int .i64 4, .int .i64 10, .slice MA 1 mc, .slice A 1 sc, .int .i64 1, .int .i64 0] 27)
  have hB := Blk.new w3 27 #[.int .i64 2, .int .i64 3, .int .i64 4, .int .i64 10, .slice MA 1 mc, .slice A 1 sc, .int .i64 1, .int .i64 0]
  have hr4 := hr3.old.below bn
  obtain ⟨rm, lm, mm, hS, hl, hm, hrs⟩ := hr4
  dsimp only at rm lm mm hS hl hm hrs
  have HL1 := Lib.hid hL1
  have HPL := Lib.hid hPL
  clear b3 hr3 hL1 hPL
  have hs3 : w.heap.size ≤ w3.heap.size := bb.size
  have bb := bb.thenB' bn
  have c4 := hB.cell 4
  have c5 := hB.cell 5
  simp at c4 c5
  have bm := below_new (w3.alloc (.cells #[.int .i64 2, .int .i64 3, .int .i64 4, .int .i64 10, .slice MA 1 mc, .slice A 1 sc, .int .i64 1, .int .i64 0] 27)) (.cells #[.int .i64 2] 3)
  have r2 := rd_newI (w3.alloc (.cells #[.int .i64 2, .int .i64 3, .int .i64 4, .int .i64 10, .slice MA 1 mc, .slice A 1 sc, .int .i64 1, .int .i64 0] 27)) 2
  rw [show (w3.alloc (.cells #[.int .i64 2, .int .i64 3, .int .i64 4, .int .i64 10, .slice MA 1 mc, .slice A 1 sc, .int .i64 1, .int .i64 0] 27)).heap.size = w3.heap.size + 1 from Array.size_push ..] at r2
  have hin := Ints_yes _ _ MA (some ⟨w3.heap.size + 1, 0, none⟩) 1 mc 1 [2] rfl (RdI.below rm bm) r2 (by unfold big; simp)
  go_wp2_with fail
  refine hin.mono ?_
  clear hin r2 c4 c5
  rintro e w5 ⟨rfl, b5⟩
  have b5 := bm.thenB' b5
  have hB := hB.below b5
  have bb := bb.thenB' b5
  have hS := hS.below b5
  have hrs := fun s hs => (hrs s hs).below b5
  clear bm b5 rm bn
  have bm := below_new w5 (.cells #[.int .i64 2, .int .i64 1] 3)
  have o6 := litI w5 [2, 1] 2 #[.int .i64 2, .int .i64 1] rfl rfl (by unfold big; simp)
  have hB5 := hB.below bm
  have hbl : w3.heap.size < w5.heap.size := hB.lt
  go_wp2_with first
    | (with_reducible show wpList _ _ _ _ _ _
       refine wpList_fldB rfl 24 (.tmp 47) (.tmp 46) rfl w3.heap.size 4 27 _ (.slice (some ⟨w5.heap.size, 0, none⟩) 2 2) rfl rfl rfl infoM1 hB5 8 rfl (by decide) ?_
       intro w6 hB6 m6
       replace hB6 : Blk w6 w3.heap.size 27 #[.int .i64 2, .int .i64 3, .int .i64 4, .int .i64 10, .slice (some ⟨w5.heap.size, 0, none⟩) 2 2, .slice A 1 sc, .int .i64 1, .int .i64 0] := hB6)
    | (with_reducible show wpList _ _ _ _ _ _
       refine wpList_load_row rfl 27 (.tmp 3) rfl w3.heap.size rfl 27 _ (0, 0) _ hB6 Try.underlying27 rfl infoH ?_)
  have hs6 : w3.heap.size < w6.heap.size := hB6.lt
  have bb := (bb.thenB' bm).thenM m6 (bb.thenB' bm).size (fun i hi e => by omega)
  have rm6 : RdI w6 (fun _ => True) (some ⟨w5.heap.size, 0, none⟩) [2, 1] := Rd.imp (Rd.mod (Rd.imp (OwnI.rdG o6) (D' := fun b => w5.heap.size ≤ b) (fun b _ hb => hb) (by decide)) m6 (fun b hb e => by omega)) (fun _ _ _ => trivial) (by decide)
  have hS6 := (hS.below bm).mod m6 (fun b hb e => by omega)
  have hrs6 := fun s hs => ((hrs s hs).below bm).mod m6 (fun b hb e => by omega)
  have hr6 : HdR w6 (fun _ => True) ⟨2, 3, 4, 10, some ⟨w5.heap.size, 0, none⟩, [2, 1], 2, A, L, sc, 1, 0⟩ :=
    ⟨rm6, Nat.le_refl _, by show (2 : Nat) ≤ _; omega, hS6.imp snC_pos fun _ _ _ => trivial, hl, hm, fun s hs => (hrs6 s hs).imp fun _ _ _ => trivial⟩
  have hp6 : Hid (HdV.p ⟨2, 3, 4, 10, some ⟨w5.heap.size, 0, none⟩, [2, 1], 2, A, L, sc, 1, 0⟩ = exP) := by
    unfold Hid HdV.p exP
    dsimp only
    rw [HPL.out]
  have hv6 : hdV ⟨2, 3, 4, 10, some ⟨w5.heap.size, 0, none⟩, [2, 1], 2, A, L, sc, 1, 0⟩ = .agg #[.int .i64 2, .int .i64 3, .int .i64 4, .int .i64 10, .slice (some ⟨w5.heap.size, 0, none⟩) 2 2, .slice A 1 sc, .int .i64 1, .int .i64 0] := by
    unfold hdV hdA
    dsimp only
    rw [HL1.out]
    rfl
  clear rm6 hS6 hrs6 hS hrs hB hB5 m6 o6 bm hl hm lm mm
  generalize hhg : (⟨2, 3, 4, 10, some ⟨w5.heap.size, 0, none⟩, [2, 1], 2, A, L, sc, 1, 0⟩ : HdV) = hg at *
  generalize (.slice (some ⟨w5.heap.size, 0, none⟩) 2 2 : Value) = vm at *
  have hdf := Diff_any6 _ hg 1 0 w6 hr6
  rw [hp6.out, ex_diff, hv6] at hdf
  refine hdf.mono ?_
  clear hdf
  rintro e w7 ⟨v7, rfl, o7, b7⟩
  obtain ⟨A7, c7, rfl, l7, k7⟩ := OwnI.form o7
  have hB7 := hB6.below b7
  have hr7 := hr6.below b7
  have bb := bb.thenB' b7
  clear hhg
  have hpk := Pack_any6 _ hg w7 hr7
  rw [hp6.out, hv6] at hpk
  go_wp2_with first
    | (with_reducible show wpList _ _ _ _ _ _
       refine wpList_load_row rfl 27 (.tmp 3) rfl w3.heap.size rfl 27 _ (0, 0) _ hB7 Try.underlying27 rfl infoH ?_)
  refine hpk.mono ?_
  clear hpk
  rintro e w8 ⟨v8, rfl, o8, b8⟩
  obtain ⟨A8, c8, rfl, l8, k8⟩ := OwnB.form o8
  have hB8 := hB7.below b8
  have hr8 := hr7.below b8
  have o7 := OwnI.below o7 b8
  have bb := bb.thenB' b8
  have hun := Unpack_any6 _ A8 c8 (packP exP) w8 o8.rdG (by have := ex_packlen; unfold big; omega)
  rw [ex_back] at hun
  generalize packP exP = pb at *
  go_wp2_with fail
  refine hun.mono ?_
  clear hun
  rintro e w9 ⟨u9, rfl, hp9, hr9, b9⟩
  have hB9 := hB8.below b9
  have hrg9 := hr8.below b9
  have o7 := OwnI.below o7 b9
  have bb := bb.thenB' b9
  have hv9 : hdV u9 = .agg (hdA u9) := rfl
  have bn := below_new w9 (.cells (hdA u9) 27)
  have hU := Blk.new w9 27 (hdA u9)
  have hu8 : (hdA u9).size = 8 := rfl
  have hbm : w3.heap.size < w9.heap.size := hB9.lt
  rw [hv9]
  have heq : EqH u9 hg := eqH_p (by rw [hp9, hp6.out])
  have hids : idsO hg.S = [1] := by
    rw [ids_p]
    show idsP (HdV.p hg).S = [1]
    rw [hp6.out]
    rfl
  have hbig : u9.m.length ≤ big ∧ ∀ s ∈ u9.S, s.m.length ≤ big := by
    have h1 : u9.m = [2, 1] := congrArg PH.m hp9
    have h2 : pureS u9.S = [(1, 10, [1])] := congrArg PH.S hp9
    refine ⟨by rw [h1]; unfold big; simp, fun s hs => ?_⟩
    have h3 : (s.id, s.size, s.m) ∈ pureS u9.S := List.mem_map.2 ⟨s, hs, rfl⟩
    rw [h2] at h3
    simp only [List.mem_singleton, Prod.mk.injEq] at h3
    rw [h3.2.2]
    unfold big
    simp
  have hmg : mayH hg = true := by rw [may_p, hp6.out]; exact ex_may
  have hsame := fun (W : World) (hb : Below w9.heap.size w9 W) => rSame_yes _ _ u9 hg W (hr9.below hb) (hrg9.below hb) heq hbig
  have hnew := fun (W : World) (hb : Below w9.heap.size w9 W) => Newest_any _ hg W (hrg9.below hb)
  have hfin := fun (W : World) (hb : Below w9.heap.size w9 W) => Find_any _ hg 1 W (hrg9.below hb)
  have hchk := fun (W : World) (hb : Below w9.heap.size w9 W) => Check_any6 _ hg W (hrg9.below hb)
  rw [hids] at hfin hnew
  rw [show findO [1] 1 = 0 from rfl] at hfin
  rw [show newO [1] = 1 from rfl] at hnew
  rw [hmg, show eno true 60 = 0 from rfl] at hchk
  rw [hv6] at hsame hnew hfin hchk
  rw [hv9] at hsame
  have r2 := rd_newI (w9.alloc (.cells (hdA u9) 27)) 1
  have bm := below_new (w9.alloc (.cells (hdA u9) 27)) (.cells #[.int .i64 1] 3)
  rw [show (w9.alloc (.cells (hdA u9) 27)).heap.size = w9.heap.size + 1 from Array.size_push ..] at r2
  have hin := Ints_yes _ _ A7 (some ⟨w9.heap.size + 1, 0, none⟩) 1 c7 1 [1] rfl (RdI.below (RdI.below (OwnI.rdG o7) bn) bm) r2 (by unfold big; simp)
  have hUm := hU.below bm
  have hBm := (hB9.below bn).below bm
  have b9m := bn.thenB' bm
  clear hB hB6 hB7 hB8 hr6 hr7 hr8 b7 b8 b9 o8 hp9 hids hbig hmg heq hr9 hrg9 bn bm r2 hu8
  obtain ⟨u, n, o, hz, MA, m, mc, A2, L2, sc2, la, sq⟩ := u9
  unfold hdA at *
  dsimp only at *
  go_wp2_with fail
  refine hin.mono ?_
  clear hin
  rintro e x1 ⟨rfl, z1⟩
  have hU1 := hUm.below z1
  have hB1 := hBm.below z1
  have b1 := b9m.thenB' z1
  go_wp2_with first
    | (with_reducible show wpList _ _ _ _ _ _
       refine wpList_load_rowG rfl rfl 27 (.tmp 8) rfl w9.heap.size rfl 27 _ hU1 _ Try.underlying27 infoH ?_)
    | (with_reducible show wpList _ _ _ _ _ _
       refine wpList_load_rowG rfl rfl 27 (.tmp 3) rfl w3.heap.size rfl 27 _ hB1 _ Try.underlying27 infoH ?_)
  refine (hsame _ b1).mono ?_
  rintro e x2 ⟨rfl, z2⟩
  have b2 := b1.thenB' z2
  have hB2 := hB1.below z2
  go_wp2_with first
    | (with_reducible show wpList _ _ _ _ _ _
       refine wpList_load_rowG rfl rfl 27 (.tmp 3) rfl w3.heap.size rfl 27 _ hB2 _ Try.underlying27 infoH ?_)
  refine (hnew _ b2).mono ?_
  rintro e x3 ⟨rfl, z3⟩
  have b3 := b2.thenB' z3
  have hB3 := hB2.below z3
  go_wp2_with first
    | (with_reducible show wpList _ _ _ _ _ _
       refine wpList_load_rowG rfl rfl 27 (.tmp 3) rfl w3.heap.size rfl 27 _ hB3 _ Try.underlying27 infoH ?_)
  refine (hfin _ b3).mono ?_
  rintro e x4 ⟨rfl, z4⟩
  have b4 := b3.thenB' z4
  have hB4 := hB3.below z4
  go_wp2_with first
    | (with_reducible show wpList _ _ _ _ _ _
       refine wpList_load_rowG rfl rfl 27 (.tmp 3) rfl w3.heap.size rfl 27 _ hB4 _ Try.underlying27 infoH ?_)
  refine (hchk _ b4).mono ?_
  rintro e x5 ⟨rfl, z5⟩
  have b5 := b4.thenB' z5
  have hB5 := hB4.below z5
  go_wp2_with fail
  go_ret
  exact ⟨rfl, bb.thenB' b5⟩
end Go.Proofs.Ytpgfhbkggchliaa

/- The laws HeadDiffs and HeadSnaps: the walks. -/
namespace Go.Proofs.Ytpgfhbkggchliaa
open Go.RowKit
set_option linter.unusedVariables false

theorem mayO_big {m : List Int} (h : mayO m = true) : m.length ≤ big := by have := mayO_len h; unfold big; omega
theorem rowF_big (f : Nat → Int) : (rowF f).length ≤ big := by have := rowF_len f; unfold big; omega
theorem zeroP_big : (zeroP.m.length ≤ big) ∧ ∀ s ∈ zeroP.S, s.2.2.length ≤ big := ⟨by show 0 ≤ big; unfold big; omega, fun s hs => by cases hs⟩
def BigP (p : PH) : Prop := p.m.length ≤ big ∧ ∀ s ∈ p.S, s.2.2.length ≤ big
theorem BigP.hd {h : HdV} (k : BigP h.p) : h.m.length ≤ big ∧ ∀ s ∈ h.S, s.m.length ≤ big := ⟨k.1, fun s hs => k.2 _ (List.mem_map.2 ⟨s, hs, rfl⟩)⟩
theorem may_big {p : PH} (h : mayP p = true) : BigP p := by
  have := mayP_bd h
  exact ⟨mayO_big this.size.2.2, fun s hs => mayO_big (this.snaps s hs).2.2.2.2⟩
theorem changed_big (a : List Int) (L : List (List Int)) : (changedO a L).length ≤ big := by
  unfold changedO
  rw [List.length_map]
  have := List.length_filter_le (diffO a L) (List.range 512)
  rw [List.length_range] at this
  unfold big
  omega
theorem diff_big (p : PH) (fr tt : Int) : (diffP p fr tt).1.length ≤ big := by
  have h0 : ([] : List Int).length ≤ big := by unfold big; simp
  have hc := changed_big
  generalize big = B at *
  unfold diffP
  split
  · split
    · exact h0
    · split
      · dsimp only
        apply hc
      · dsimp only
        apply hc
  · exact h0
theorem snap_big (p : PH) : BigP (snapP p).1 := by
  unfold snapP
  split
  · rename_i h
    split
    · exact zeroP_big
    · have hb := may_big h
      refine ⟨rowF_big _, fun s hs => ?_⟩
      rcases List.mem_append.1 hs with hs | hs
      · exact hb.2 s hs
      · obtain rfl : s = (p.last + 1, p.size, p.m) := by simpa using hs
        exact hb.1
  · exact zeroP_big
theorem drop_big (p : PH) (id : Int) : BigP (dropP p id).1 := by
  unfold dropP
  split
  · rename_i h
    have hb := may_big h
    split
    · exact zeroP_big
    · show BigP (dropAt p _)
      unfold dropAt
      split
      · refine ⟨hb.1, fun s hs => ?_⟩
        rcases List.mem_or_eq_of_mem_set hs with hs | rfl
        · exact hb.2 s (List.mem_of_mem_eraseIdx hs)
        · exact rowF_big _
      · exact ⟨rowF_big _, fun s hs => hb.2 s (List.mem_of_mem_eraseIdx hs)⟩
  · exact zeroP_big
theorem unp_big (b : List UInt8) : BigP (unpP b).1 := by
  unfold unpP
  split
  · split
    · rename_i h
      exact may_big h
    · exact zeroP_big
  · exact zeroP_big

set_option maxHeartbeats 4000000 in
set_option maxRecDepth 100000 in
theorem diffs_walk (D : Nat → Prop) (h : HdV) (fr tt : Int) (w : World) (hr : HdR w D h) :
    Calls Try.prog 5 #[hdV h, .int .i64 fr, .int .i64 tt] w fun e w' => e = .returned (.bool true) ∧ Below w.heap.size w w' := by
  have bb := below_new w (.cells (hdA h) 27)
  have hB := Blk.new w 27 (hdA h)
  have hr := hr.below bb
  have hv : hdV h = .agg (hdA h) := rfl
  have hfw := fun W hr => few_any D h W hr
  have hdf := fun W hr => Diff_any6 D h fr tt W hr
  have hdr := fun W hr => rDiff_any6 D h fr tt W hr
  have hbig := diff_big h.p fr tt
  rw [hv] at hfw hdf hdr ⊢
  generalize diffP h.p fr tt = d at *
  generalize hA : hdA h = cs at *
  have h8 : cs.size = 8 := by rw [← hA]; rfl
  have hone : cs.all (·.oneCell') = true := by rw [← hA]; exact hdA_ok h
  clear hv
  clear hA
  go_enter Try.func5, Try.ntmps5
  go_wp2_with fail
  refine (awake_any6 _).mono ?_
  rintro e w1 ⟨rfl, b1⟩
  have hB := hB.below b1
  have hr := hr.below b1
  have bb := bb.thenB' b1
  clear b1
  go_wp2_with first
    | (with_reducible show wpList _ _ _ _ _ _
       refine wpList_load_row rfl 27 (.tmp 3) rfl w.heap.size rfl 27 cs (0, 0) _ hB Try.underlying27 rfl (by rw [h8]; exact infoH) ?_)
  refine (hfw _ hr).mono ?_
  clear hfw
  rintro e w2 ⟨rfl, b2⟩
  have hB := hB.below b2
  have hr := hr.below b2
  have bb := bb.thenB' b2
  clear b2
  cases hf : fewO h
  focus
    go_wp2_with fail
    go_ret
    exact ⟨rfl, bb⟩
  go_wp2_with first
    | (with_reducible show wpList _ _ _ _ _ _
       refine wpList_load_row rfl 27 (.tmp 3) rfl w.heap.size rfl 27 cs (0, 0) _ hB Try.underlying27 rfl (by rw [h8]; exact infoH) ?_)
  refine (hdf _ hr).mono ?_
  clear hdf
  rintro e w3 ⟨v3, rfl, o3, b3⟩
  obtain ⟨A3, c3, rfl, l3, k3⟩ := OwnI.form o3
  have hB := hB.below b3
  have hr := hr.below b3
  have bb := bb.thenB' b3
  clear b3
  go_wp2_with first
    | (with_reducible show wpList _ _ _ _ _ _
       refine wpList_load_row rfl 27 (.tmp 3) rfl w.heap.size rfl 27 cs (0, 0) _ hB Try.underlying27 rfl (by rw [h8]; exact infoH) ?_)
  refine (hdr _ hr).mono ?_
  clear hdr
  rintro e w4 ⟨v4, rfl, o4, b4⟩
  obtain ⟨A4, c4, rfl, l4, k4⟩ := OwnI.form o4
  have o3 := OwnI.below o3 b4
  have bb := bb.thenB' b4
  have hin := Ints_yes _ _ A3 A4 d.1.length c3 c4 d.1 rfl (OwnI.rdG o3) (OwnI.rdG o4) hbig
  go_wp2_with fail
  refine hin.mono ?_
  rintro e w5 ⟨rfl, b5⟩
  go_wp2_with fail
  go_ret
  exact ⟨rfl, bb.thenB' b5⟩
end Go.Proofs.Ytpgfhbkggchliaa
