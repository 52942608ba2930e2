/- Parts of the proof, joined: SpE SpF AbR. -/
import Derived.Test.YthkeoimjjgmppaaDoorQe
import Derived.Test.YthkeoimjjgmppaaDoorQk
import Derived.BigQuiet
/- span.of: the clean row of what is wanted, for any function value: the walk. -/
namespace Go.Proofs.YthkeoimjjgmppaaDoor
open Go.RowKit
set_option linter.unusedVariables false

/-- What stands at the head of each round. -/
def CO (W : Int → Int → Bool) (a b : List Sp) (E : List En) (j : Nat) (L : List Sp) : Prop :=
  L.length ≤ j ∧ (∀ h : j < E.length, Upto (wantP W a b) L E[j].1) ∧ (j = E.length → IsR (wantP W a b) L)
def sA (E : List En) (j : Nat) : Int := sumE (fun e => e.2.1) (E.take j)
def sB (E : List En) (j : Nat) : Int := sumE (fun e => e.2.2) (E.take j)
theorem sA_succ (E : List En) (j : Nat) (h : j < E.length) : sA E (j + 1) = sA E j + E[j].2.1 := by
  unfold sA
  rw [List.take_succ_eq_append_getElem h, sumE_snoc]
theorem sB_succ (E : List En) (j : Nat) (h : j < E.length) : sB E (j + 1) = sB E j + E[j].2.2 := by
  unfold sB
  rw [List.take_succ_eq_append_getElem h, sumE_snoc]
theorem s_bd {a b : List Sp} {E : List En} (h : Rise a b E) : ∀ j, j ≤ E.length → (-(j : Int) ≤ sA E j ∧ sA E j ≤ j) ∧ -(j : Int) ≤ sB E j ∧ sB E j ≤ j
  | 0, _ => by unfold sA sB; exact ⟨⟨Int.le_refl _, Int.le_refl _⟩, Int.le_refl _, Int.le_refl _⟩
  | j + 1, hj => by
    have ih := s_bd h j (by omega)
    have hb := h.bd (List.getElem_mem (show j < E.length by omega))
    rw [sA_succ E j (by omega), sB_succ E j (by omega)]
    omega
section
variable {W : Int → Int → Bool} {a b : List Sp} {E : List En} {j : Nat} {L : List Sp}
theorem co_zero (hW : W 0 0 = false) (h : Rise a b E) : CO W a b E 0 [] :=
  ⟨Nat.le_refl _, fun h0 => of_start hW h h0, fun h0 => have := of_none hW h h0.symm; ⟨this.1, this.2⟩⟩
theorem co_end (hW : W 0 0 = false) (h : Rise a b E) (hc : CO W a b E j L) (hj : j + 1 = E.length) : CO W a b E (j + 1) L :=
  ⟨by have := hc.1; omega, fun h0 => by omega, fun _ => have := of_end hW h hj (hc.2.1 (by omega)); ⟨this.1, this.2⟩⟩
theorem co_same (hc : CO W a b E j L) (hj : j + 1 < E.length) (he : E[j + 1].1 = E[j].1) : CO W a b E (j + 1) L :=
  ⟨by have := hc.1; omega, fun _ => of_same hj he (hc.2.1 (by omega)), fun h0 => by omega⟩
theorem co_skip (h : Rise a b E) (hc : CO W a b E j L) (hj : j + 1 < E.length) (hw : W (sA E (j + 1)) (sB E (j + 1)) = false) : CO W a b E (j + 1) L :=
  ⟨by have := hc.1; omega, fun _ => of_skip h hj hw (hc.2.1 (by omega)), fun h0 => by omega⟩
theorem co_put (h : Rise a b E) (hc : CO W a b E j L) (hj : j + 1 < E.length) (he : ¬ E[j + 1].1 = E[j].1) (hw : W (sA E (j + 1)) (sB E (j + 1)) = true) : CO W a b E (j + 1) (addS L (E[j].1, E[j + 1].1)) :=
  ⟨by have := hc.1; have := addS_len L (E[j].1, E[j + 1].1); omega, fun _ => of_put h hj he hw (hc.2.1 (by omega)), fun h0 => by omega⟩
end
theorem mod_belowB {B : Nat} {a b : World} (h : Below B a b) : Mod (fun i => B ≤ i) a b := ⟨h.os, h.tape, h.output, h.size, fun i _ hx => h.block i (by have : ¬ B ≤ i := hx; omega)⟩
theorem RW_new2 (B : Nat) (w : World) (o o' : Obj) (h : B ≤ w.heap.size) : RW B (w.alloc o) (w.alloc o') :=
  ⟨rfl, rfl, rfl, by show (w.heap.push o).size ≤ (w.heap.push o').size; simp, fun k hk => by rw [Below.heap_alloc w o k (by omega), Below.heap_alloc w o' k (by omega)]⟩
theorem OwnC.rdr {α : Type} {C : α → List Value} {k : Nat} {T : TypeId} {w : World} {base : Nat} {A : Option Addr} {n c : Nat} {L : List α} (h : OwnC T k C w base (.slice A n c) L) : n = L.length ∧ Rd w (fun b => base ≤ b ∧ b < w.heap.size ∧ (Value.slice A n c).ownBlock = some b) k A n (flC C L) := by
  obtain ⟨A', c', e, _, _⟩ := OwnC.form h
  injection e with h1 h2 h3
  subst h2
  exact ⟨rfl, Rd.of_own h⟩
theorem RdEn.cells {w : World} {D : Nat → Prop} {A : Option Addr} {L : List En} (h : RdEn w D A L) {i : Nat} (hi : i < L.length) :
    ∃ ad, A = some ad ∧ D ad.block ∧ w.cell? (ad.add (i * 3)) = some (.int .i64 L[i].1) ∧ w.cell? ⟨(ad.add (i * 3)).block, (ad.add (i * 3)).off + 1, none⟩ = some (.int .i64 L[i].2.1) ∧ w.cell? ⟨(ad.add (i * 3)).block, (ad.add (i * 3)).off + 2, none⟩ = some (.int .i64 L[i].2.2) := by
  obtain ⟨ad, e, hD, hc⟩ := h (by omega)
  have hL := List.getElem?_eq_getElem hi
  exact ⟨ad, e, hD, hc i _ hL 0 _ rfl, by rw [← add_at _ _ 0]; exact hc i _ hL 1 _ rfl, by rw [← add_at _ _ 1]; exact hc i _ hL 2 _ rfl⟩

set_option maxHeartbeats 4000000 in
set_option maxRecDepth 100000 in
theorem of_any (k : FuncId) (W : Int → Int → Bool) (hW : W 0 0 = false) (hent : ∀ (args : Array Value) (w : World), (callFunc k args).run Tryd.prog w = .ok (.enter k args) w)
    (hf : ∀ (x y : Int) (w : World), Calls Tryd.prog k #[.int .i64 x, .int .i64 y] w fun e w' => e = .returned (.bool (W x y)) ∧ w = w')
    (D D' : Nat → Prop) (A A' : Option Addr) (c c' : Nat) (a b : List Sp) (w : World) (ha : RdSp w D A a) (hb : RdSp w D' A' b) (la : a.length ≤ 1000) (lb : b.length ≤ 1000) :
    Calls Tryd.prog 80 #[.slice A a.length c, .slice A' b.length c', .func (.func k) #[] #[]] w fun e w' => ∃ v L, e = .returned v ∧ OwnSp w' w.heap.size v L ∧ IsR (wantP W a b) L ∧ Below w.heap.size w w' ∧ L.length ≤ 2 * a.length + 2 * b.length := by
  go_enter Tryd.func80, Tryd.ntmps80
  go_wp2_with fail
  refine (ends_any D A c a 1 0 w ha (by omega) (by omega) (by omega)).mono ?_
  rintro e w1 ⟨v1, rfl, o1, b1⟩
  go_wp2_with fail
  refine (ends_any D' A' c' b 0 1 w1 (hb.below b1) (by omega) (by omega) (by omega)).mono ?_
  rintro e w2 ⟨v2, rfl, o2, b2⟩
  have o1 := OwnC.below o1 b2
  have bb := b1.thenB' b2
  obtain ⟨A2, n2, c2, rfl, hn2, _, _⟩ := OwnC.form' o2
  have o2r := (OwnC.rdr o2).2
  have hl1 := ends_len 1 0 a
  have hl2 := ends_len 0 1 b
  have HS : Hid (w.heap.size ≤ w2.heap.size) := bb.size
  go_wp2_with first
    | (at_builtin; go_loud (refine wpList_appEn rfl (.tmp 15) (.tmp 17) rfl w.heap.size v1 (endsP a 1 0) (endsP b 0 1) rfl o1 _ A2 n2 c2 rfl hn2.out o2r (by omega) HS.out ?_; intro v3 w3 o3 x3; have b3 := bb.trans (x3.below o1 (Nat.le_refl _) HS.out)))
  have hE : ∀ e ∈ endsP a 1 0 ++ endsP b 0 1, 0 ≤ e.1 ∧ e.1 ≤ 1099511627776 := fun e he => by
    rcases List.mem_append.1 he with h | h <;> exact (ends_in h).1
  have hs := sort_any _ hE (by rw [List.length_append]; omega) v3 w3 _ o3
  clear hE hl1 hl2 o1 o2 o2r x3 hn2 b1 b2 bb HS
  refine hs.mono ?_
  clear hs
  rintro e w4 ⟨rfl, E, hp, hu, o4, b4⟩
  have bw := b3.trans b4
  have hR : Rise a b E := ⟨hp, hu⟩
  have HR := Lib.hid hR
  have hlE : E.length ≤ 4000 := by have := hR.len; omega
  clear hp hu o3 b3 b4 hR
  obtain ⟨AE, nE, cE, rfl, hnE, lE, mE⟩ := OwnC.form' o4
  have hnE := hnE.out
  subst hnE
  have rE := RdL.imp (D' := fun b => b < w4.heap.size) (fun x => by rw [enC_len]; decide) (OwnC.rd enC_len o4) fun b hb _ => hb
  go_wp2_with fail
  have nB := Blk.new w4 124 #[.int .i64 0, .int .i64 0, .int .i64 0]
  have bn := below_new w4 (.cells #[.int .i64 0, .int .i64 0, .int .i64 0] 124)
  have rE := RdL.below rE bn
  have hwn := bw.size
  have bw := bw.trans (bn.mono bw.size)
  clear o4 bn
  generalize w4.alloc (.cells #[.int .i64 0, .int .i64 0, .int .i64 0] 124) = w5 at *
  generalize w4.heap.size = nb at *
  go_loopw [8, 10, 11, 12, 13, 23] (fun v s10 s11 s12 s13 i wq => ∃ (j : Nat) (L : List Sp), j ≤ E.length ∧ i = .int .i64 (j : Int) ∧ OwnSp wq w5.heap.size v L ∧ Hid (CO W a b E j L) ∧ Blk wq nb 124 #[.int .i64 0, .int .i64 (sA E j), .int .i64 (sB E j)] ∧ Mod (· = nb) w5 wq) (fun _ _ _ _ _ i _ => E.length - (intOf i).toNat)
  case atStart => exact ⟨0, [], Nat.zero_le _, rfl, OwnC.nil, Lib.hid (co_zero hW HR.out), nB, Mod.refl _ _⟩
  case round =>
    have hnb := nB.lt
    clear nB
    obtain ⟨j, L, hj, rfl, oL, HO, nB, mq⟩ := hrel
    by_cases hlt : j < E.length
    · obtain ⟨ad, rfl, hD, d0, d1, d2⟩ := RdEn.cells (RdL.mod rE mq (fun b hb e => by have e : b = nb := e; omega)) hlt
      have HB := Lib.hid (s_bd HR.out j hj)
      have HBE := Lib.hid (HR.out.bd (List.getElem_mem hlt))
      have HSA := Lib.hid (sA_succ E j hlt)
      have HSB := Lib.hid (sB_succ E j hlt)
      have HCE := Lib.hid (fun hW => co_end (j := j) (L := L) hW HR.out HO.out)
      have HCS := Lib.hid (fun h => co_same HO.out h)
      have HCK := Lib.hid (fun h => co_skip HR.out HO.out h)
      have HCP := Lib.hid (fun h => co_put HR.out HO.out h)
      have hLj := HO.out.1
      have hb1 := HB.out.1.1
      have hb2 := HB.out.1.2
      have hb3 := HB.out.2.1
      have hb4 := HB.out.2.2
      have he1 := HBE.out.2.1.1
      have he2 := HBE.out.2.1.2
      have he3 := HBE.out.2.2.1
      have he4 := HBE.out.2.2.2
      have he5 := HBE.out.1.1
      have he6 : E[j].1 ≤ 1099511627776 := HBE.out.1.2
      clear HO HB HBE
      generalize sA E j = SA at *
      generalize sB E j = SB at *
      generalize hpE : E[j].1 = p at *
      have HPE := Lib.hid hpE
      clear hpE
      generalize E[j].2.1 = pa at *
      generalize E[j].2.2 = pb at *
      have c1 := nB.cell 1
      have c2 := nB.cell 2
      have f1 := nB.frozen 1
      have f2 := nB.frozen 2
      simp at c1 c2
      have hnr := nB.lt
      go_upto_region 10 with fail
      have hsz : ((wr.setCell ⟨nb, 1, none⟩ (.int .i64 (SA + pa))).setCell ⟨nb, 2, none⟩ (.int .i64 (SB + pb))).heap.size = wr.heap.size := by simp [World.setCell]
      have hbE := Blk.new ((wr.setCell ⟨nb, 1, none⟩ (.int .i64 (SA + pa))).setCell ⟨nb, 2, none⟩ (.int .i64 (SB + pb))) 124 #[.int .i64 p, .int .i64 pa, .int .i64 pb]
      rw [hsz] at hbE
      have mz1 := (((Mod.refl (· = nb) wr).setG 1 (.int .i64 (SA + pa))).setG 2 (.int .i64 (SB + pb))).alloc (.cells #[.int .i64 p, .int .i64 pa, .int .i64 pb] 124)
      have mz := mq.trans mz1
      have hbN : Blk (((wr.setCell ⟨nb, 1, none⟩ (.int .i64 (SA + pa))).setCell ⟨nb, 2, none⟩ (.int .i64 (SB + pb))).alloc (.cells #[.int .i64 p, .int .i64 pa, .int .i64 pb] 124)) nb 124 #[.int .i64 0, .int .i64 (SA + pa), .int .i64 (SB + pb)] := ((nB.set_ 1 _).set_ 2 _).below (below_new _ _)
      have oL := OwnC.mod oL mz1 (fun i hi e => by have e : i = nb := e; have := (World.ownsRow.lt oL) i hi; omega)
      have hew : nb < wr.heap.size := hnr
      have heb : w5.heap.size ≤ wr.heap.size := mq.size
      clear mz1 mq nB c1 c2 f1 f2 hsz d0 d1 d2 hnr
      generalize (((wr.setCell ⟨nb, 1, none⟩ (.int .i64 (SA + pa))).setCell ⟨nb, 2, none⟩ (.int .i64 (SB + pb))).alloc (.cells #[.int .i64 p, .int .i64 pa, .int .i64 pb] 124)) = wz at *
      generalize wr.heap.size = eb at *
      generalize SA + pa = SA' at *
      generalize SB + pb = SB' at *
      have ce0 := hbE.cell 0
      have cn1 := hbN.cell 1
      have cn2 := hbN.cell 2
      simp at ce0 cn1 cn2
      have jW : IntKind.i64.wrap ((j : Int) + 1) = (j : Int) + 1 := by rw [IntKind.wrap_i64]; omega
      by_cases hl1 : j + 1 < E.length
      · have hd : ((j : Int) + 1 == (E.length : Int)) = false := by rw [beq_eq_false_iff_ne]; omega
        have j0 : (0 : Int) ≤ (j : Int) + 1 := by omega
        have jT : ((j : Int) + 1).toNat = j + 1 := by omega
        have j1 : (j : Int) + 1 < (E.length : Int) := by omega
        obtain ⟨ad', hA, _, e0, _, _⟩ := RdEn.cells (RdL.mod rE mz (fun b hb e => by have e : b = nb := e; omega)) hl1
        injection hA with hA
        subst hA
        have HS1 := Lib.hid (HCS.out hl1)
        have HK1 := Lib.hid (HCK.out hl1)
        have HP1 := Lib.hid (HCP.out hl1)
        rw [HPE.out] at HS1 HP1
        rw [show sA E (j + 1) = SA' from HSA.out, show sB E (j + 1) = SB' from HSB.out] at HK1 HP1
        clear HCE HCS HCK HCP
        generalize E[j + 1].1 = q at *
        by_cases hqp : q = p
        · subst hqp
          have HN := Lib.hid (HS1.out rfl)
          clear HS1 HK1 HP1
          go_quiet (fail)
          clear hd j0 jT j1 jW
          have bd : Below wz.heap.size wz (wz.drewN nq) := below_drewN (Below.refl _ _) _
          go_wp2_with fail
          go_roundw
          case rel => exact ⟨j + 1, L, by omega, by go_num, OwnC.below oL bd, HN.out, by rw [HSA.out, HSB.out]; exact hbN.below bd, mz.thenB bd⟩
          case measure => simp [intOf] <;> omega
        · have hqb : (q == p) = false := by rw [beq_eq_false_iff_ne]; exact hqp
          cases hWv : W SA' SB'
          · have HN := Lib.hid (HK1.out hWv)
            have hfq : ∀ n, Calls Tryd.prog k #[.int .i64 SA', .int .i64 SB'] (wz.drewN n) fun e w' => e = .returned (.bool false) ∧ ∃ m, w' = wz.drewN m := fun n => (hf SA' SB' (wz.drewN n)).mono fun e w' ⟨he, hw⟩ => ⟨by rw [he, hWv], n, hw.symm⟩
            have HFQ := Lib.hid hfq
            clear hfq
            clear HS1 HK1 HP1 hWv hqp
            go_quiet ((exact HFQ.out _))
            clear hd j0 jT j1 jW HFQ
            have bd : Below wz.heap.size wz (wz.drewN nq) := below_drewN (Below.refl _ _) _
            go_wp2_with fail
            go_roundw
            case rel => exact ⟨j + 1, L, by omega, by go_num, OwnC.below oL bd, HN.out, by rw [HSA.out, HSB.out]; exact hbN.below bd, mz.thenB bd⟩
            case measure => simp [intOf] <;> omega
          · have HN := Lib.hid (HP1.out hqp hWv)
            have hfq : ∀ n, Calls Tryd.prog k #[.int .i64 SA', .int .i64 SB'] (wz.drewN n) fun e w' => e = .returned (.bool true) ∧ ∃ m, w' = wz.drewN m := fun n => (hf SA' SB' (wz.drewN n)).mono fun e w' ⟨he, hw⟩ => ⟨by rw [he, hWv], n, hw.symm⟩
            have HFQ := Lib.hid hfq
            clear hfq HS1 HK1 HP1 hWv hqp
            go_quiet ((exact HFQ.out _))
            have bd : Below wz.heap.size wz (wz.drewN nq) := below_drewN (Below.refl _ _) _
            have oL := OwnC.below oL bd
            have mz := mz.thenB bd
            have hbN := hbN.below bd
            have hbE := hbE.below bd
            have e0 := cell_belowS e0 bd
            clear HFQ hd ce0 cn1 cn2
            generalize wz.drewN nq = wy at *
            clear bd
            obtain ⟨A9, n9, c9, rfl, hn9, l9, m9⟩ := OwnC.form' oL
            have hnj : n9 ≤ j := by rw [hn9.out]; exact hLj
            have hBe : eb < wy.heap.size := hbE.lt
            have hBa : ad.block < wy.heap.size := by have hD : ad.block < nb := hD; omega
            clear hD hLj hent hf
            go_wp2_with fail
            refine r_start (R := RW wy.heap.size) (by rfl) (n := 11) (L := #[false, false, false, false, false, false, false, false, false, false, false]) rfl rfl ?_
            have bd : Below wy.heap.size wy (wy.drew) := (Below.refl _ _).drew
            have oL := OwnC.below oL bd
            have hbN := hbN.below bd
            have e0 := cell_belowS e0 bd
            have mz := mz.thenB bd
            have hBs := bd.size
            have hbE := hbE.below bd
            generalize wy.drew = wd at *
            have ce0 := hbE.cell 0
            simp at ce0
            clear bd hbE
            refine r_flt (RW_refl _) 0 65 #[true, false, false, false, false, false, false, false, false, false, false] (by simp only [List.getElem?_toArray, List.getElem?_cons_zero]; rfl) (by rfl) (by kernel_rfl) (by kernel_rfl) (by kernel_rfl) (fun _ _ _ _ h => h) rfl (by rfl) ?_
            apply Exists.intro
            apply And.intro
            · intro W hW
              first | (go_simp; with_reducible rfl) | go_simp
            (try simp only [Act.put, List.setIfInBounds_toArray]); (try simp only [List.set_cons_succ]); (try simp only [List.set_cons_zero])
            refine r_flt (RW_refl _) 1 66 #[true, true, false, false, false, false, false, false, false, false, false] (by simp only [List.getElem?_toArray, List.getElem?_cons_succ, List.getElem?_cons_zero]; rfl) (by rfl) (by kernel_rfl) (by kernel_rfl) (by kernel_rfl) (fun _ _ _ _ h => h) rfl (by rfl) ?_
            apply Exists.intro
            apply And.intro
            · intro W hW
              have c9 := RW_cell hW ce0 hBe
              first | (go_simp; with_reducible rfl) | go_simp
            (try simp only [Act.put, List.setIfInBounds_toArray]); (try simp only [List.set_cons_succ]); (try simp only [List.set_cons_zero])
            refine r_flt (RW_refl _) 2 67 #[true, true, true, false, false, false, false, false, false, false, false] (by simp only [List.getElem?_toArray, List.getElem?_cons_succ, List.getElem?_cons_zero]; rfl) (by rfl) (by kernel_rfl) (by kernel_rfl) (by kernel_rfl) (fun _ _ _ _ h => h) rfl (by rfl) ?_
            apply Exists.intro
            apply And.intro
            · intro W hW
              first | (go_simp; with_reducible rfl) | go_simp
            (try simp only [Act.put, List.setIfInBounds_toArray]); (try simp only [List.set_cons_succ]); (try simp only [List.set_cons_zero])
            refine r_flt (RW_refl _) 3 68 #[true, true, true, true, false, false, false, false, false, false, false] (by simp only [List.getElem?_toArray, List.getElem?_cons_succ, List.getElem?_cons_zero]; rfl) (by rfl) (by kernel_rfl) (by kernel_rfl) (by kernel_rfl) (fun _ _ _ _ h => h) rfl (by rfl) ?_
            apply Exists.intro
            apply And.intro
            · intro W hW
              first | (go_simp; with_reducible rfl) | go_simp
            (try simp only [Act.put, List.setIfInBounds_toArray]); (try simp only [List.set_cons_succ]); (try simp only [List.set_cons_zero])
            refine r_flt (RW_refl _) 4 69 #[true, true, true, true, true, false, false, false, false, false, false] (by simp only [List.getElem?_toArray, List.getElem?_cons_succ, List.getElem?_cons_zero]; rfl) (by rfl) (by kernel_rfl) (by kernel_rfl) (by kernel_rfl) (fun _ _ _ _ h => h) rfl (by rfl) ?_
            apply Exists.intro
            apply And.intro
            · intro W hW
              first | (go_simp; with_reducible rfl) | go_simp
            (try simp only [Act.put, List.setIfInBounds_toArray]); (try simp only [List.set_cons_succ]); (try simp only [List.set_cons_zero])
            refine r_flt (RW_refl _) 5 70 #[true, true, true, true, true, true, false, false, false, false, false] (by simp only [List.getElem?_toArray, List.getElem?_cons_succ, List.getElem?_cons_zero]; rfl) (by rfl) (by kernel_rfl) (by kernel_rfl) (by kernel_rfl) (fun _ _ _ _ h => h) rfl (by rfl) ?_
            apply Exists.intro
            apply And.intro
            · intro W hW
              first | (go_simp; with_reducible rfl) | go_simp
            (try simp only [Act.put, List.setIfInBounds_toArray]); (try simp only [List.set_cons_succ]); (try simp only [List.set_cons_zero])
            refine r_flt (RW_refl _) 6 71 #[true, true, true, true, true, true, true, false, false, false, false] (by simp only [List.getElem?_toArray, List.getElem?_cons_succ, List.getElem?_cons_zero]; rfl) (by rfl) (by kernel_rfl) (by kernel_rfl) (by kernel_rfl) (fun _ _ _ _ h => h) rfl (by rfl) ?_
            apply Exists.intro
            apply And.intro
            · intro W hW
              first | (go_simp; with_reducible rfl) | go_simp
            (try simp only [Act.put, List.setIfInBounds_toArray]); (try simp only [List.set_cons_succ]); (try simp only [List.set_cons_zero])
            refine r_flt (RW_refl _) 7 72 #[true, true, true, true, true, true, true, true, false, false, false] (by simp only [List.getElem?_toArray, List.getElem?_cons_succ, List.getElem?_cons_zero]; rfl) (by rfl) (by kernel_rfl) (by kernel_rfl) (by kernel_rfl) (fun _ _ _ _ h => h) rfl (by rfl) ?_
            apply Exists.intro
            apply And.intro
            · intro W hW
              have c9 := RW_cell hW e0 (by rw [block_of_add]; exact hBa)
              first | (go_simp; with_reducible rfl) | go_simp
            (try simp only [Act.put, List.setIfInBounds_toArray]); (try simp only [List.set_cons_succ]); (try simp only [List.set_cons_zero])
            refine r_flt (RW_refl _) 8 73 #[true, true, true, true, true, true, true, true, true, false, false] (by simp only [List.getElem?_toArray, List.getElem?_cons_succ, List.getElem?_cons_zero]; rfl) (by rfl) (by kernel_rfl) (by kernel_rfl) (by kernel_rfl) (fun _ _ _ _ h => h) rfl (by rfl) ?_
            apply Exists.intro
            apply And.intro
            · intro W hW
              first | (go_simp; with_reducible rfl) | go_simp
            (try simp only [Act.put, List.setIfInBounds_toArray]); (try simp only [List.set_cons_succ]); (try simp only [List.set_cons_zero])
            refine r_one (RW_trans _) 9 (by kernel_rfl) ?_
            refine alt_val 12 #[true, true, true, true, true, true, true, true, true, true, false] (by simp only [List.getElem?_toArray, List.getElem?_cons_succ, List.getElem?_cons_zero]; rfl) (by rfl) rfl (by rfl) (by go_simp; first | exact ⟨rfl, rfl⟩ | rfl) ?_ ?_
            · exact RW_new _ _ _ hBs
            (try simp only [Act.put, List.setIfInBounds_toArray]); (try simp only [List.set_cons_succ]); (try simp only [List.set_cons_zero])
            refine r_one (RW_trans _) 10 (by kernel_rfl) ?_
            refine alt_none #[true, true, true, true, true, true, true, true, true, true, true] (by simp only [List.getElem?_toArray, List.getElem?_cons_succ, List.getElem?_cons_zero]; rfl) (by rfl) rfl (by rfl) (by go_simp; first | exact ⟨rfl, rfl⟩ | rfl) ?_ ?_
            · exact RW_new2 _ _ _ _ hBs
            (try simp only [Act.put, List.setIfInBounds_toArray]); (try simp only [List.set_cons_succ]); (try simp only [List.set_cons_zero])
            refine r_done (by kernel_rfl) ?_
            have hbX := Blk.new wd 84 #[.int .i64 p, .int .i64 q]
            have bn := below_new wd (.cells #[.int .i64 p, .int .i64 q] 84)
            have oL := OwnC.below oL bn
            have hbN := hbN.below bn
            have mz := mz.thenB bn
            have hxw : w5.heap.size ≤ wd.heap.size := by omega
            clear jW j0 jT j1 e0 ce0 bn hBs hBe hBa
            generalize wd.alloc (.cells #[.int .i64 p, .int .i64 q] 84) = wx at *
            generalize wd.heap.size = xb at *
            have cx0 := hbX.cell 0
            have cx1 := hbX.cell 1
            simp at cx0 cx1
            go_upto_region 13 with fail
            go_cut [93] from 24 to 104 (fun s wq' => s = .bool (lastIs L p) ∧ Below wx.heap.size wx wq')
            case first =>
              clear HN
              by_cases h0 : n9 = 0
              · have HLN : Hid (lastIs L p = false) := by
                  have h1 : L = [] := List.eq_nil_of_length_eq_zero (by rw [← hn9.out]; exact h0)
                  unfold Hid; rw [h1]; exact lastIs_nil p
                subst h0
                clear l9 oL hn9
                go_quiet (fail)
                go_wp2_with fail
                go_meet
                case rel => exact ⟨by rw [HLN.out], below_drewN (Below.refl _ _) _⟩
              · obtain ⟨m, rfl⟩ : ∃ m, n9 = m + 1 := ⟨n9 - 1, by omega⟩
                have hml : m < L.length := by rw [← hn9.out]; omega
                obtain ⟨ag, rfl, cg0, cg1⟩ := (OwnSp.rd oL).at_ hml
                have hLm : L.length = m + 1 := hn9.out.symm
                have HLS := Lib.hid (lastIs_get hLm p)
                clear oL hn9
                generalize hlm : L[m] = lm at *
                clear hlm
                generalize lastIs L p = z at *
                clear h0 hLm hml
                have g0 : (0 : Int) ≤ ((m + 1 : Nat) : Int) - 1 := by omega
                have gd : decide ((0 : Int) ≤ ((m + 1 : Nat) : Int) - 1) = true := decide_eq_true g0
                have hm1 : (m : Int) < (m : Int) + 1 := by omega
                obtain ⟨l1, l2⟩ := lm
                dsimp only at cg0 cg1 HLS
                by_cases hlp : l2 = p
                · subst hlp
                  have HZ : Hid (z = true) := by unfold Hid; rw [HLS.out]; simp
                  clear HLS
                  go_quiet (fail)
                  go_wp2_with fail
                  go_meet
                  case rel => exact ⟨by rw [HZ.out], below_drewN (Below.refl _ _) _⟩
                · have HZ : Hid (z = false) := by unfold Hid; rw [HLS.out]; simp [hlp]
                  have hlb : (l2 == p) = false := by simp [hlp]
                  clear HLS
                  go_quiet (fail)
                  go_wp2_with fail
                  go_meet
                  case rel => exact ⟨by rw [HZ.out], below_drewN (Below.refl _ _) _⟩
            case rest =>
              obtain ⟨hs93, b13⟩ := hcut
              have oL := OwnC.below oL b13
              have hbN := hbN.below b13
              have hbX := hbX.below b13
              have mz := mz.thenB b13
              have hxs := b13.size
              clear cx0 cx1 b13
              cases hz : lastIs L p
              · rw [hz] at hs93
                have HA := Lib.hid (lastIs_no hz q)
                clear hz
                subst hs93
                have hLn : L.length ≤ 5000 := by rw [← hn9.out]; omega
                have cx0 := hbX.cell 0
                have cx1 := hbX.cell 1
                simp at cx0 cx1
                have hrn := rd_newSp wc (p, q)
                have bn := below_new wc (.cells #[.int .i64 p, .int .i64 q] 84)
                have oL1 := OwnC.below oL bn
                have hBw : w5.heap.size ≤ (wc.alloc (.cells #[.int .i64 p, .int .i64 q] 84)).heap.size := by have := bn.size; have := mz.size; omega
                have HBW := Lib.hid hBw
                clear hBw
                go_wp2_with first
                  | (at_builtin; go_loud (refine wpList_appSp rfl (.tmp 100) (.tmp 102) rfl w5.heap.size (.slice A9 n9 c9) L [(p, q)] rfl oL1 _ (some ⟨wc.heap.size, 0, none⟩) 1 1 rfl rfl hrn (by simp only [List.length_cons, List.length_nil]; omega) HBW.out ?_; intro v4 w4 o4 x4; have b4 := (Below.refl w5.heap.size wc).alloc (by have := mz.size; omega) (.cells #[.int .i64 p, .int .i64 q] 84) |>.trans (x4.below oL1 (Nat.le_refl _) HBW.out)))
                go_roundw
                case rel => exact ⟨j + 1, _, by omega, by go_num, o4, by rw [← HA.out]; exact HN.out, by rw [HSA.out, HSB.out]; exact (b4.block nb (by omega)).trans hbN, mz.then_ (mod_belowB b4) (fun i hi h => by have h : w5.heap.size ≤ i := h; omega)⟩
                case measure => simp [intOf] <;> omega
              · rw [hz] at hs93
                obtain ⟨m, hm, he, hadd⟩ := lastIs_yes hz q
                have HA := Lib.hid hadd
                clear hz he hadd
                subst hs93
                obtain rfl : n9 = m + 1 := by rw [hn9.out]; exact hm
                have hml : m < L.length := by omega
                obtain ⟨ag, rfl, g1, g2, cg1, fg1, g3, g4⟩ := OwnSp.store oL hml
                have hO := g4 q
                have cx1 := hbX.cell 1
                simp at cx1
                have msz := mz.size
                have hgl : nb < (ag.add (m * 2)).block := by rw [g3]; omega
                have HbN : Hid (Blk (wc.setCell ⟨(ag.add (m * 2)).block, (ag.add (m * 2)).off + 1, none⟩ (.int .i64 q)) nb 124 #[.int .i64 0, .int .i64 SA', .int .i64 SB']) := by
                  unfold Hid Blk
                  rw [Below.heap_setCell _ _ _ _ (by show nb ≠ (ag.add (m * 2)).block; omega)]
                  exact hbN
                have HmZ : Hid (Mod (· = nb) w5 (wc.setCell ⟨(ag.add (m * 2)).block, (ag.add (m * 2)).off + 1, none⟩ (.int .i64 q))) := mz.setCell (.inr (by show w5.heap.size ≤ (ag.add (m * 2)).block; rw [g3]; exact g1)) _
                clear g1 g2 g3 g4 hn9 oL hgl
                generalize hL2 : L.set m (L[m].1, q) = L2 at *
                clear hL2
                generalize hLm : L[m] = lm at *
                clear hLm hml
                go_wp2_with fail
                go_roundw
                case rel => exact ⟨j + 1, L2, by omega, by go_num, hO, by rw [← HA.out]; exact HN.out, by rw [HSA.out, HSB.out]; exact HbN.out, HmZ.out⟩
                case measure => simp [intOf] <;> omega

      · have hlen : j + 1 = E.length := by omega
        have hd : ((j : Int) + 1 == (E.length : Int)) = true := by rw [beq_iff_eq]; omega
        have HN := Lib.hid (HCE.out hW hlen)
        clear HCE HCS HCK HCP hlen
        go_quiet (fail)
        clear hd jW
        have bd : Below wz.heap.size wz (wz.drewN nq) := below_drewN (Below.refl _ _) _
        go_wp2_with fail
        go_roundw
        case rel => exact ⟨j + 1, L, by omega, by go_num, OwnC.below oL bd, HN.out, by rw [HSA.out, HSB.out]; exact hbN.below bd, mz.thenB bd⟩
        case measure => simp [intOf] <;> omega
    · obtain rfl : j = E.length := by omega
      have HZ := Lib.hid (HO.out.2.2 rfl)
      have HLN : Hid (L.length ≤ 2 * a.length + 2 * b.length) := by have := HO.out.1; have := HR.out.len; unfold Hid; omega
      go_wp2_with fail
      go_ret
      exact ⟨_, L, rfl, OwnC.low oL (by have := bw.size; omega), HZ.out, bw.thenM mq bw.size (fun i hi e => by have e : i = nb := e; omega), HLN.out⟩
end Go.Proofs.YthkeoimjjgmppaaDoor

/- span: Clean, Join, Meet, Less, Within, Many. -/
namespace Go.Proofs.YthkeoimjjgmppaaDoor
open Go.RowKit
set_option linter.unusedVariables false

theorem hasS_wC (l : List Sp) (n : Int) : wantP wC l [] n = hasS l n := want_clean l n
def joinF (a b : List Sp) (n : Int) : Bool := hasS a n || hasS b n
def meetF (a b : List Sp) (n : Int) : Bool := hasS a n && hasS b n
def lessF (a b : List Sp) (n : Int) : Bool := hasS a n && !hasS b n
theorem IsR.to {f g : Int → Bool} {L : List Sp} (h : IsR f L) (e : ∀ n, f n = g n) : IsR g L := ⟨h.clean, fun n => by rw [h.is, e]⟩
theorem docW_join (a b : List Sp) (n : Int) : docW (docB 1) a b n = joinF a b n := by unfold docW docB joinF; rw [if_neg (by decide), if_neg (by decide)]
theorem docW_meet (a b : List Sp) (n : Int) : docW (docB 2) a b n = meetF a b n := rfl
theorem docW_less (a b : List Sp) (n : Int) : docW (docB 3) a b n = lessF a b n := rfl
/-- What a call tells that answers with the row of a set. -/
def Row (N : Nat) (f : Int → Bool) (w : World) (e : Ending) (w' : World) : Prop := ∃ v L, e = .returned v ∧ OwnSp w' w.heap.size v L ∧ IsR f L ∧ Below w.heap.size w w' ∧ L.length ≤ N

section
variable (D D' : Nat → Prop) (A A' : Option Addr) (c c' : Nat) (a b : List Sp) (w : World) (ha : RdSp w D A a) (hb : RdSp w D' A' b) (la : a.length ≤ 1000) (lb : b.length ≤ 1000)
include ha la
theorem Clean_any : Calls Tryd.prog 76 #[.slice A a.length c] w (Row (2 * a.length) (hasS a) w) := by
  have hc := of_any 81 wC rfl (enters_of Tryd.func81 (by kernel_rfl) rfl) clC_any D _ A none c 0 a [] w ha (RdSp.none w) la (by decide)
  have HF := Lib.hid (hasS_wC a)
  go_enter Tryd.func76, Tryd.ntmps76
  go_wp2_with fail
  refine hc.mono ?_
  clear hc
  rintro e w1 ⟨v, L, rfl, h1, h2, h3, h4⟩
  have HR := Lib.hid (h2.to HF.out)
  clear h2
  go_wp2_with fail
  go_ret
  exact ⟨v, L, rfl, h1, HR.out, h3, h4⟩
include hb lb
theorem Less_any : Calls Tryd.prog 79 #[.slice A a.length c, .slice A' b.length c'] w (Row (2 * a.length + 2 * b.length) (lessF a b) w) := by
  have hc := of_any 83 wL rfl (enters_of Tryd.func83 (by kernel_rfl) rfl) clL_any D D' A A' c c' a b w ha hb la lb
  have HF := Lib.hid (want_less a b)
  go_enter Tryd.func79, Tryd.ntmps79
  go_wp2_with fail
  refine hc.mono ?_
  clear hc
  rintro e w1 ⟨v, L, rfl, h1, h2, h3, h4⟩
  have HR : Hid (IsR (lessF a b) L) := h2.to HF.out
  clear h2
  go_wp2_with fail
  go_ret
  exact ⟨v, L, rfl, h1, HR.out, h3, h4⟩
theorem Within_any : Calls Tryd.prog 66 #[.slice A a.length c, .slice A' b.length c'] w fun e w' => ∃ L, IsR (lessF a b) L ∧ e = .returned (.bool ((L.length : Int) == 0)) ∧ Below w.heap.size w w' := by
  have hc := Less_any D D' A A' c c' a b w ha hb la lb
  go_enter Tryd.func66, Tryd.ntmps66
  go_wp2_with fail
  refine hc.mono ?_
  clear hc
  rintro e w1 ⟨v, L, rfl, h1, h2, h3, h4⟩
  obtain ⟨A9, n9, c9, rfl, hn9, l9, m9⟩ := OwnC.form' h1
  have HR := Lib.hid h2
  clear h1 h2
  go_wp2_with fail
  go_ret
  exact ⟨L, HR.out, by rw [← hn9.out] <;> rfl, h3⟩
end

end Go.Proofs.YthkeoimjjgmppaaDoor

/- Where two differ: the document. -/
namespace Go.Proofs.YthkeoimjjgmppaaDoor
open Go.RowKit
set_option linter.unusedVariables false
set_option maxRecDepth 100000

def diffF (a b : List UInt8) (n : Int) : Bool := decide (0 ≤ n ∧ n < 512) && (atO a n.toNat != atO b n.toNat)
def diffE (p : PI) (a b : Int) : Int := if asE p a ≠ 0 then asE p a else asE p b
def diffR (p : PI) (a b : Int) : Int → Bool := diffF (asD p a) (asD p b)
/-- What the two functions tell. -/
def Differs (w : World) (p : PI) (a b : Int) (e : Ending) (w' : World) : Prop := ∃ v L, e = .returned (.tuple #[v, .int .i64 (diffE p a b)]) ∧ OwnSp w' w.heap.size v L ∧ (diffE p a b = 0 → IsR (diffR p a b) L) ∧ (diffE p a b ≠ 0 → L = []) ∧ Below w.heap.size w w'
theorem diff_nat (a b : List UInt8) (k : Nat) (h : k < 512) : diffF a b (k : Int) = (atO a k != atO b k) := by
  unfold diffF
  rw [decide_eq_true (by omega), Bool.true_and, Int.toNat_natCast]
theorem diff_out (a b : List UInt8) (n : Int) (h : n < 0 ∨ 512 ≤ n) : diffF a b n = false := by
  unfold diffF
  rw [decide_eq_false (by omega), Bool.false_and]
theorem differs_nil {w w' : World} {p : PI} {a b v : Int} (h : diffE p a b = v) (h0 : v ≠ 0) (bb : Below w.heap.size w w') : Differs w p a b (.returned (.tuple #[.slice none 0 0, .int .i64 v])) w' := by
  subst h
  exact ⟨_, [], rfl, OwnC.nil, fun e => absurd e h0, fun _ => rfl, bb⟩
theorem diffE_a {p : PI} {a b : Int} (h : mayI p = false) : diffE p a b = 1 := by unfold diffE asE; rw [if_pos h]; rfl
theorem diffE_b {p : PI} {a b : Int} (h : mayI p = true) (h' : (asO p a).isSome = false ∨ (asO p b).isSome = false) : diffE p a b = 182 := by
  have hn : ¬ (mayI p = false) := by rw [h]; decide
  unfold diffE asE
  simp only [if_neg hn]
  cases ha : (asO p a).isSome
  · rfl
  · rw [ha] at h'
    rcases h' with h' | h'
    · cases h'
    · rw [h']; rfl
theorem diffE_c {p : PI} {a b : Int} (h : mayI p = true) (h1 : (asO p a).isSome = true) (h2 : (asO p b).isSome = true) : diffE p a b = 0 := by
  have hn : ¬ (mayI p = false) := by rw [h]; decide
  unfold diffE asE
  simp only [if_neg hn]
  rw [h1, h2]; rfl
theorem asD_is {p : PI} {a : Int} (h : mayI p = true) : asD p a = bytesD p a := by unfold asD bytesD; rw [if_neg (by rw [h]; decide)]
theorem cB_beq (x y : UInt8) : (((x.toNat : Int)) == ((y.toNat : Int))) = (x == y) := by
  cases h : x == y
  · have : x ≠ y := by simpa using h
    have h2 : x.toNat ≠ y.toNat := fun e => this (UInt8.toNat_inj.1 e)
    simp
    omega
  · have : x = y := by simpa using h
    subst this
    simp
set_option maxHeartbeats 8000000 in
theorem rDiffer_any (D : Nat → Prop) (i : ImV) (fr tt : Int) (w : World) (hr : ImR w D i) :
    Calls Tryd.prog 45 #[.agg (imA i), .int .i64 fr, .int .i64 tt] w (Differs w i.p fr tt) := by
  have bb := below_new w (.cells (imA i) 35)
  have hB := Blk.new w 35 (imA i)
  have has := rMay18_any D i _ (hr.below bb)
  have hby := fun W (b : Below w.heap.size w W) snap => bytes_any D i snap W (hr.below b)
  have hEa := diffE_a (p := i.p) (a := fr) (b := tt)
  have hEb := diffE_b (p := i.p) (a := fr) (b := tt)
  have hEc := diffE_c (p := i.p) (a := fr) (b := tt)
  have hD := fun a => asD_is (p := i.p) (a := a)
  have hR : diffR i.p fr tt = diffF (asD i.p fr) (asD i.p tt) := rfl
  have hl := asD_len (p := i.p)
  unfold imA at *
  generalize hw0 : w.alloc (.cells #[.slice i.DA i.d.length i.dc, .slice i.CA i.S.length i.cc, .int .i64 i.last] 35) = w0 at *
  cases hm : mayI i.p
  focus
    rw [hm] at has
    have E := Lib.hid (hEa hm)
    clear hEa hEb hEc hD hR hl hby hm
    go_enter Tryd.func45, Tryd.ntmps45
    go_wp2_with first
      | (with_reducible show wpList _ _ _ _ _ _
         refine wpList_load_row rfl 35 (.tmp 3) rfl w.heap.size rfl 35 _ (0, 0) _ hB Tryd.underlying35 rfl infoIm ?_)
    refine has.mono ?_
    clear has hw0
    rintro e w2 ⟨rfl, b2⟩
    go_wp2_with fail
    (try simp only [Exit.inBlock, Exit.then])
    refine bodyPost_ret (results_tmp2 rfl _ _ _) rfl ?_
    exact differs_nil E.out (by decide) (bb.thenB' b2)
  rw [hm] at has
  rw [hD fr hm, hD tt hm] at hR
  have hla := hD fr hm ▸ hl fr
  have hlb := hD tt hm ▸ hl tt
  clear hEa hD hl
  have hEb := hEb hm
  have hEc := hEc hm
  clear hm
  have hbya := fun W b => hby W b fr
  have hbyb := fun W b => hby W b tt
  clear hby
  generalize (asO i.p fr).isSome = s1 at *
  generalize (asO i.p tt).isSome = s2 at *
  generalize bytesD i.p fr = a at *
  generalize bytesD i.p tt = b at *
  go_enter Tryd.func45, Tryd.ntmps45
  go_wp2_with first
    | (with_reducible show wpList _ _ _ _ _ _
       refine wpList_load_row rfl 35 (.tmp 3) rfl w.heap.size rfl 35 _ (0, 0) _ hB Tryd.underlying35 rfl infoIm ?_)
  refine has.mono ?_
  clear has hw0
  rintro e w2 ⟨rfl, b2⟩
  replace hB := hB.below b2
  replace bb := bb.thenB' b2
  have hbya := hbya w2 bb
  go_wp2_with first
    | (with_reducible show wpList _ _ _ _ _ _
       refine wpList_load_row rfl 35 (.tmp 3) rfl w.heap.size rfl 35 _ (0, 0) _ hB Tryd.underlying35 rfl infoIm ?_)
  refine hbya.mono ?_
  clear hbya b2
  rintro e w3 ⟨A1, c1, rfl, ra, la, ma, b3⟩
  replace hB := hB.below b3
  replace bb := bb.thenB' b3
  have hbyb := hbyb w3 bb
  go_wp2_with first
    | (with_reducible show wpList _ _ _ _ _ _
       refine wpList_load_row rfl 35 (.tmp 3) rfl w.heap.size rfl 35 _ (0, 0) _ hB Tryd.underlying35 rfl infoIm ?_)
  refine hbyb.mono ?_
  clear hbyb
  rintro e w4 ⟨A2, c2, rfl, rb, lb, mb, b4⟩
  replace bb := bb.thenB' b4
  have ra := ra.below b4
  clear b4 b3 hB
  cases s1
  focus
    have E := Lib.hid (hEb (.inl rfl))
    clear hEb hEc
    go_wp2_with fail
    (try simp only [Exit.inBlock, Exit.then])
    refine bodyPost_ret (results_tmp2 rfl _ _ _) rfl ?_
    exact differs_nil E.out (by decide) bb
  cases s2
  focus
    have E := Lib.hid (hEb (.inr rfl))
    clear hEb hEc
    go_wp2_with fail
    (try simp only [Exit.inBlock, Exit.then])
    refine bodyPost_ret (results_tmp2 rfl _ _ _) rfl ?_
    exact differs_nil E.out (by decide) bb
  have E := Lib.hid (hEc rfl rfl)
  have HR := Lib.hid hR
  clear hEb hEc hR
  go_wp2_with fail
  go_loopw [13, 14] (fun v n wr => ∃ (k : Nat) (L : List Sp), k ≤ 512 ∧ n = .int .i64 (k : Int) ∧ OwnSp wr w4.heap.size v L ∧ Hid (Upto (diffF a b) L (k : Int)) ∧ L.length ≤ k ∧ Below w4.heap.size w4 wr) (fun _ n _ => 512 - (intOf n).toNat)
  case atStart => exact ⟨0, [], by decide, rfl, OwnC.nil, Lib.hid (Upto.nil fun n hn => diff_out a b n (.inl hn)), Nat.le_refl _, Below.refl _ _⟩
  case round =>
    obtain ⟨k, L, hk, rfl, oL, HU, hLk, bq⟩ := hrel
    by_cases hlt : k < 512
    · have hN := diff_nat a b k hlt
      have hca := at_any D A1 c1 a k wr (ra.below bq) (by omega) (by omega)
      have g1 : (k : Int) < 512 := by omega
      go_upto_region 12 with fail
      go_wp2_with fail
      refine hca.mono ?_
      clear hca
      rintro e w5 ⟨rfl, b5⟩
      have bq5 := bq.thenB' b5
      have hcb := at_any D A2 c2 b k w5 (rb.below bq5) (by omega) (by omega)
      have oL := OwnC.below oL b5
      clear b5 bq
      go_wp2_with fail
      refine hcb.mono ?_
      clear hcb
      rintro e w6 ⟨rfl, b6⟩
      have bq := bq5.thenB' b6
      have oL := OwnC.below oL b6
      clear b6 bq5
      unfold cB
      have hx := cB_beq (atO a k) (atO b k)
      have hx2 : (((atO a k).toNat : Int) == ((atO b k).toNat : Int)) = !(diffF a b (k : Int)) := by rw [hx, hN]; unfold bne; cases atO a k == atO b k <;> rfl
      clear hx hN
      generalize ((atO a k).toNat : Int) = x at *
      generalize ((atO b k).toNat : Int) = y at *
      cases hz : diffF a b (k : Int)
      · rw [hz] at hx2
        have HS := Lib.hid (HU.out.skip (q := (k : Int) + 1) (by omega) (fun n h1 h2 => by rw [show n = (k : Int) from by omega]; exact hz))
        clear hz
        go_wp2_with fail
        go_roundw
        case rel => exact ⟨k + 1, L, by omega, by go_num, oL, HS, by omega, bq⟩
        case measure => simp [intOf] <;> omega
      · rw [hz] at hx2
        have HS := Lib.hid (HU.out.put (q := (k : Int) + 1) (by omega) (by omega) (by unfold farS; omega) (fun n h1 h2 => by rw [show n = (k : Int) from by omega]; exact hz))
        clear hz
        obtain ⟨ao, n9, c9, rfl, hn9, l9, m9⟩ := OwnC.form' oL
        have hnj : n9 ≤ k := by rw [hn9.out]; exact hLk
        go_upto_region 14 with fail
        go_cut [62] from 52 to 75 (fun s wx => s = .bool (lastIs L (k : Int)) ∧ Below w6.heap.size w6 wx)
        case first =>
          by_cases h0 : n9 = 0
          · have HLN : Hid (lastIs L (k : Int) = false) := by
              have h1 : L = [] := List.eq_nil_of_length_eq_zero (by rw [← hn9.out]; exact h0)
              unfold Hid; rw [h1]; exact lastIs_nil _
            subst h0
            clear l9 oL hn9
            go_wp2_with fail
            go_meet
            case rel => exact ⟨by rw [HLN.out], Below.refl _ _⟩
          · obtain ⟨m, rfl⟩ : ∃ m, n9 = m + 1 := ⟨n9 - 1, by omega⟩
            have hml : m < L.length := by rw [← hn9.out]; omega
            obtain ⟨ag, rfl, _, c5⟩ := (OwnSp.rd oL).at_ hml
            have hLm : L.length = m + 1 := hn9.out.symm
            have HLS := Lib.hid (lastIs_get hLm (k : Int))
            clear oL hn9
            generalize hlm : L[m] = lm at *
            clear hlm
            generalize lastIs L (k : Int) = z at *
            clear h0 hLm hml
            have g0 : (0 : Int) ≤ ((m + 1 : Nat) : Int) - 1 := by omega
            have gd : decide ((0 : Int) ≤ ((m + 1 : Nat) : Int) - 1) = true := decide_eq_true g0
            go_wp2_with fail
            go_meet
            case rel => exact ⟨by rw [HLS.out], Below.refl _ _⟩
        case rest =>
          obtain ⟨hs62, b7⟩ := hcut
          have oL := OwnC.below oL b7
          have bq := bq.thenB' b7
          clear b7
          cases hz : lastIs L (k : Int)
          · rw [hz] at hs62
            have HA := Lib.hid (lastIs_no hz ((k : Int) + 1))
            clear hz
            subst hs62
            have bn := below_new wc (.cells #[.int .i64 (k : Int), .int .i64 ((k : Int) + 1)] 84)
            have hwB := bq.size
            go_wp2_with first
              | (with_reducible show wpList _ _ _ _ _ _
                 refine wpList_appSp rfl (.tmp 69) (.tmp 74) rfl w4.heap.size _ L [((k : Int), (k : Int) + 1)] rfl (OwnC.below oL bn) (· = wc.heap.size) (some ⟨wc.heap.size, 0, none⟩) 1 1 rfl rfl (rd_newSp wc ((k : Int), (k : Int) + 1)) (by simp; omega) (Nat.le_trans hwB bn.size) ?_
                 intro v4 w7 o4 x4)
            go_roundw
            case rel => exact ⟨k + 1, L ++ [((k : Int), (k : Int) + 1)], by omega, by go_num, o4, by rw [← HA.out]; exact HS.out, by simp; omega, (bq.thenB' bn).trans (x4.below (OwnC.below oL bn) (Nat.le_refl _) (Nat.le_trans hwB bn.size))⟩
            case measure => simp [intOf] <;> omega
          · rw [hz] at hs62
            obtain ⟨m, hm, he, hadd⟩ := lastIs_yes hz ((k : Int) + 1)
            have HA := Lib.hid hadd
            clear hz he hadd
            subst hs62
            obtain rfl : n9 = m + 1 := by rw [hn9.out]; exact hm
            have hml : m < L.length := by omega
            obtain ⟨ag, rfl, g1', g2, c5, f1, g3, g4⟩ := OwnSp.store oL hml
            have hO := g4 ((k : Int) + 1)
            have hB4 := Lib.hid (bq.setCell (p := ⟨(ag.add (m * 2)).block, (ag.add (m * 2)).off + 1, none⟩) (by show _ ≤ (ag.add (m * 2)).block; rw [g3]; exact g1') (.int .i64 ((k : Int) + 1)))
            have hl2 : (L.set m (L[m].1, (k : Int) + 1)).length ≤ k + 1 := by rw [List.length_set]; omega
            have HL2 := Lib.hid hl2
            clear g4 hn9 oL g1' g2 g3 hl2
            generalize hL2 : L.set m (L[m].1, (k : Int) + 1) = L2 at *
            clear hL2
            generalize hLm : L[m] = lm at *
            clear hLm hml
            go_wp2_with fail
            go_roundw
            case rel => exact ⟨k + 1, L2, by omega, by go_num, hO, by rw [← HA.out]; exact HS.out, HL2.out, hB4.out⟩
            case measure => simp [intOf] <;> omega
    · obtain rfl : k = 512 := by omega
      have HZ := Lib.hid (HU.out.end_ (fun n hn => diff_out a b n (.inr hn)))
      go_wp2_with fail
      (try simp only [Exit.inBlock, Exit.then])
      refine bodyPost_ret (results_tmp2 rfl _ _ _) rfl ?_
      refine ⟨_, L, by rw [E.out]; rfl, OwnC.low oL bb.size, fun _ => ⟨HZ.out.1, fun n => by rw [HR.out]; exact HZ.out.2 n⟩, fun h => absurd E.out h, bb.thenB' bq⟩
end Go.Proofs.YthkeoimjjgmppaaDoor
