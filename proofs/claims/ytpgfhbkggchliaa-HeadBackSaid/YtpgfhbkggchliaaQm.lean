/- Parts of the proof, joined: HdS HdT HdU. -/
import Derived.Test.YtpgfhbkggchliaaQl
/- A head without a snapshot: the code. -/
namespace Go.Proofs.Ytpgfhbkggchliaa
open Go.RowKit
set_option linter.unusedVariables false

def idsP (S : List (Int × Int × List Int)) : List Int := S.map fun s => s.1
theorem ids_p (S : List SnV) : idsO S = idsP (pureS S) := by unfold idsO idsP pureS; rw [List.map_map]; rfl
def mapAt (S : List (Int × Int × List Int)) (k : Nat) : List Int := (S.getD k (0, 0, [])).2.2
def dropAt (p : PH) (k : Nat) : PH :=
  if k < (p.S.eraseIdx k).length then { p with S := (p.S.eraseIdx k).set k (((p.S.eraseIdx k).getD k (0, 0, [])).1, ((p.S.eraseIdx k).getD k (0, 0, [])).2.1, mergeO (mapAt p.S k) (mapAt (p.S.eraseIdx k) k)) }
  else { p with S := p.S.eraseIdx k, m := mergeO (mapAt p.S k) p.m }
def dropP (p : PH) (id : Int) : PH × Int :=
  if mayP p then (if findO (idsP p.S) id < 0 then (zeroP, 182) else (dropAt p (findO (idsP p.S) id).toNat, 0)) else (zeroP, 60)
theorem findAt_bd (id : Int) : ∀ (l : List Int) (k : Nat), findAt l id k = -1 ∨ ((k : Int) ≤ findAt l id k ∧ findAt l id k < (k : Int) + l.length)
  | [], k => .inl rfl
  | s :: r, k => by
    unfold findAt
    split
    · exact .inr ⟨Int.le_refl _, by simp; omega⟩
    · rcases findAt_bd id r (k + 1) with h | h
      · exact .inl h
      · refine .inr ?_
        simp only [List.length_cons]
        omega
theorem findO_bd (l : List Int) (id : Int) : findO l id = -1 ∨ (0 ≤ findO l id ∧ findO l id < l.length) := by
  have := findAt_bd id l 0
  unfold findO
  simpa using this
theorem ownB_eq (A : Option Addr) (n m c d : Nat) : (Value.slice A n c).ownBlock = (Value.slice A m d).ownBlock := by
  rcases A with _ | ⟨g, o, s⟩
  · rfl
  · cases o <;> cases s <;> rfl
theorem pure_erase (L : List SnV) (k : Nat) : pureS (L.eraseIdx k) = (pureS L).eraseIdx k := by
  unfold pureS
  rw [erase_eq, List.map_append, List.map_take, List.map_drop, List.eraseIdx_eq_take_drop_succ]
theorem pure_getD (L : List SnV) (k : Nat) (h : k < L.length) : (pureS L).getD k (0, 0, []) = (L[k].id, L[k].size, L[k].m) := by
  rw [List.getD_eq_getElem?_getD, List.getElem?_eq_getElem (by rw [pure_len]; exact h), pure_get L k h]; rfl

set_option maxHeartbeats 8000000 in
set_option maxRecDepth 100000 in
theorem Drop_any6 (D : Nat → Prop) (h : HdV) (id : Int) (w : World) (hr : HdR w D h) :
    Calls Try.prog 30 #[hdV h, .int .i64 id] w fun e w' => ∃ h' : HdV, e = .returned (.tuple #[hdV h', .int .i64 (dropP h.p id).2]) ∧ h'.p = (dropP h.p id).1 ∧ HdR w' (fun _ => True) h' ∧ Below w.heap.size w w' := by
  have b1 := below_new w (.cells (hdA h) 27)
  have hB := Blk.new w 27 (hdA h)
  have s1 : (w.alloc (.cells (hdA h) 27)).heap.size = w.heap.size + 1 := Array.size_push ..
  have b2 := below_new (w.alloc (.cells (hdA h) 27)) (.cells hzA 27)
  have hQ := Blk.new (w.alloc (.cells (hdA h) 27)) 27 hzA
  have s2 : ((w.alloc (.cells (hdA h) 27)).alloc (.cells hzA 27)).heap.size = w.heap.size + 1 + 1 := by rw [← s1]; exact Array.size_push ..
  rw [s1] at hQ
  have hB := hB.below b2
  have bb := b1.thenB' b2
  have hr0 := (hr.below b1).below b2
  clear b1 b2 s1
  have hmp := may_p h
  have hck := Check_any6 D h _ hr0
  generalize hw0 : (w.alloc (.cells (hdA h) 27)).alloc (.cells hzA 27) = w0 at *
  have hs0 : w.heap.size + 2 ≤ w0.heap.size := by omega
  clear s2 hr
  cases hmay : mayH h
  focus
    have E : Hid (dropP h.p id = (zeroP, 60)) := by unfold Hid dropP; rw [← hmp, hmay]; rfl
    rw [hmay, show eno false 60 = 60 from rfl] at hck
    clear hmay hmp hr0
    obtain ⟨u, n, o, hz, MA, m, mc, A, L, sc, la, sq⟩ := h
    unfold hdV at *
    unfold hdA hzA at *
    dsimp only at *
    go_enter Try.func30, Try.ntmps30
    go_wp2_with first
      | (with_reducible show wpList _ _ _ _ _ _
         refine wpList_load_row rfl 27 (.tmp 2) rfl w.heap.size rfl 27 _ (0, 0) _ hB Try.underlying27 rfl infoH ?_)
    refine hck.mono ?_
    rintro e w2 ⟨rfl, b2⟩
    have hQ := hQ.below b2
    go_wp2_with first
      | (with_reducible show wpList _ _ _ _ _ _
         refine wpList_rowB rfl 27 (.tmp 4) (.tmp 13) rfl (w.heap.size + 1) 27 _ hzA rfl rfl hQ infoH rfl hzA_ok ?_
         intro w4 hq4 m4)
    (try simp only [Exit.inBlock, Exit.then])
    refine bodyPost_ret (results_cell_tmp rfl _ _ (w.heap.size + 1) _ _ (0, 0) _ rfl hq4 Try.underlying27 rfl infoH) rfl ?_
    rw [E.out]
    have bb := bb.thenB' b2
    exact ⟨zeroH, rfl, rfl, freshH_rd 0 0 0 0 _ _, bb.thenM m4 bb.size (fun i hi e => by omega)⟩
  have hbd := mayP_bd (hmp ▸ hmay)
  have e0 : dropP h.p id = if findO (idsP h.p.S) id < 0 then (zeroP, 182) else (dropAt h.p (findO (idsP h.p.S) id).toNat, 0) := by unfold dropP; rw [← hmp, hmay]; rfl
  rw [show idsP h.p.S = idsO h.S from (ids_p h.S).symm] at e0
  have E0 := Lib.hid e0
  clear e0
  have hfd := fun w (hr : HdR w D h) => Find_any D h id w hr
  have hfb := findO_bd (idsO h.S) id
  rw [ids_len] at hfb
  generalize findO (idsO h.S) id = r at *
  rw [hmay, show eno true 60 = 0 from rfl] at hck
  clear hmay hmp
  have hmbd : h.m.length ≤ 512 := by
    have := hbd.size.2.2
    unfold mayO at this
    simp only [Bool.and_eq_true, decide_eq_true_eq] at this
    exact this.1.1
  have hSbd : h.S.length ≤ 4 := by have := hbd.four; unfold HdV.p at this; rw [pure_len] at this; exact this
  have hsbd : ∀ s ∈ h.S, s.m.length ≤ 1000 := fun s hs => by
    have hm : (s.id, s.size, s.m) ∈ h.p.S := List.mem_map.2 ⟨s, hs, rfl⟩
    have := (hbd.snaps _ hm).2.2.2.2
    unfold mayO at this
    simp only [Bool.and_eq_true, decide_eq_true_eq] at this
    have := this.1.1
    omega
  obtain ⟨p9, p10⟩ := hbd.last
  clear hbd
  have hown := fun w2 (hr : HdR w2 D h) => own_any6 D h w2 hr (by omega) (by omega) hsbd
  have hhd : hdV h = .agg (hdA h) := rfl
  obtain ⟨u, n, o, hz, MA, m, mc, A, L, sc, la, sq⟩ := h
  unfold hdV at *
  unfold hdA hzA HdV.p at *
  dsimp only at *
  go_enter Try.func30, Try.ntmps30
  go_wp2_with first
    | (with_reducible show wpList _ _ _ _ _ _
       refine wpList_load_row rfl 27 (.tmp 2) rfl w.heap.size rfl 27 _ (0, 0) _ hB Try.underlying27 rfl infoH ?_)
  refine hck.mono ?_
  clear hck hw0
  rintro e w2 ⟨rfl, b2⟩
  have hB := hB.below b2
  have hQ := hQ.below b2
  have hr0 := hr0.below b2
  have bb := bb.thenB' b2
  have hs2 : w.heap.size + 2 ≤ w2.heap.size := by have := b2.size; omega
  clear b2
  have hfd := hfd w2 hr0
  go_wp2_with first
    | (with_reducible show wpList _ _ _ _ _ _
       refine wpList_load_row rfl 27 (.tmp 2) rfl w.heap.size rfl 27 _ (0, 0) _ hB Try.underlying27 rfl infoH ?_)
  refine hfd.mono ?_
  clear hfd
  rintro e w2' ⟨rfl, b2⟩
  have hB := hB.below b2
  have hQ := hQ.below b2
  have hr0 := hr0.below b2
  have bb := bb.thenB' b2
  have hs2 : w.heap.size + 2 ≤ w2'.heap.size := by have := b2.size; omega
  clear b2
  by_cases h4 : r < 0
  focus
    have F : Hid (dropP ⟨u, n, o, hz, m, pureS L, la, sq⟩ id = (zeroP, 182)) := by unfold Hid; rw [E0.out, if_pos h4]
    clear E0 hown
    go_wp2_with first
      | (with_reducible show wpList _ _ _ _ _ _
         refine wpList_rowB rfl 27 (.tmp 4) (.tmp 20) rfl (w.heap.size + 1) 27 _ hzA rfl rfl hQ infoH rfl hzA_ok ?_
         intro w4 hq4 m4)
    (try simp only [Exit.inBlock, Exit.then])
    refine bodyPost_ret (results_cell_tmp rfl _ _ (w.heap.size + 1) _ _ (0, 0) _ rfl hq4 Try.underlying27 rfl infoH) rfl ?_
    rw [F.out]
    exact ⟨zeroH, rfl, rfl, freshH_rd 0 0 0 0 _ _, bb.thenM m4 bb.size (fun i hi e => by omega)⟩
  obtain ⟨k, rfl⟩ : ∃ k : Nat, r = (k : Int) := ⟨r.toNat, by omega⟩
  have hkL : k < L.length := by omega
  have F : Hid (dropP ⟨u, n, o, hz, m, pureS L, la, sq⟩ id = (dropAt ⟨u, n, o, hz, m, pureS L, la, sq⟩ k, 0)) := by unfold Hid; rw [E0.out, if_neg h4]; rfl
  clear E0 hfb
  have hown := hown w2' hr0
  have h4' : ¬ (k : Int) < 0 := h4
  go_wp2_with first
    | (with_reducible show wpList _ _ _ _ _ _
       refine wpList_load_row rfl 27 (.tmp 2) rfl w.heap.size rfl 27 _ (0, 0) _ hB Try.underlying27 rfl infoH ?_)
  refine hown.mono ?_
  clear hown
  rintro e w3 ⟨⟨u', n', o', hz', MA', m', mc', A', L', sc', la', sq'⟩, rfl, hp, hO, b3⟩
  simp only [PH.mk.injEq] at hp
  obtain ⟨rfl, rfl, rfl, rfl, rfl, hPL, rfl, rfl⟩ := hp
  have hB := hB.below b3
  have hQ := hQ.below b3
  have bb := bb.thenB' b3
  have hO := hO.low hs2
  clear b3 hr0
  rw [← hPL] at F
  have hLL : L'.length = L.length := by rw [← pure_len L', hPL, pure_len]
  have hL4 : L'.length ≤ 4 := by omega
  have hkL : k < L'.length := by omega
  have hkI : (k : Int) < (L'.length : Int) := by omega
  have hLI : (L'.length : Int) ≤ 9223372036854775807 := by omega
  have HPL := Lib.hid hPL
  clear hLL hPL hSbd hmbd hsbd
  have hd := fun W (h : OwnSn W (w.heap.size + 2) (.slice A' L'.length sc') L') => delete_any (w.heap.size + 2) A' L' sc' k W h hkL (by omega)
  go_wp2_with first
    | (with_reducible show wpList _ _ _ _ _ _
       refine wpList_rowB rfl 27 (.tmp 2) (.tmp 22) rfl w.heap.size 27 _ (hdA ⟨u', n', o', hz', MA', m', mc', A', L', sc', la', sq'⟩) rfl rfl hB infoH rfl (hdA_ok _) ?_
       intro w4 hB m4
       replace hB : Blk w4 w.heap.size 27 #[.int .i64 u', .int .i64 n', .int .i64 o', .int .i64 hz', .slice MA' m'.length mc', .slice A' L'.length sc', .int .i64 la', .int .i64 sq'] := hB
       have hO4 := hO.mod m4 (fun i e => by omega)
       have hQ4 := hQ.mod m4 (by omega)
       have bb4 := bb.thenM m4 bb.size (fun i hi e => by omega)
       have c5 := hB.cell 5
       simp at c5
       obtain ⟨ad, hA', d0, d1, d2⟩ := (hO4.own.rd).sn hkL
       subst hA'
       dsimp only at d0 d1 d2)
  have hk2 := hO4.own
  have hv : ∀ b, (Value.slice (some ad) L'.length sc').ownBlock = some b → w.heap.size + 2 ≤ b := fun b hb => (hk2.lt b hb).1
  refine (hd w4 hk2).mono ?_
  clear hd
  rintro e w5 ⟨nn, hnn, rfl, o5, m5⟩
  have hB5 := hB.mod m5 (fun e => by have := hv _ e; omega)
  have hQ5 := hQ4.mod m5 (fun e => by have := hv _ e; omega)
  have bb5 := bb4.thenM m5 bb4.size (fun i hi e => by have := hv i e; omega)
  have rm5 : RdI w5 (DH (w.heap.size + 2) (.slice (some ad) L'.length sc')) MA' m' := Rd.mod hO4.rm m5 (fun b hb => hb.2)
  have sn5 : ∀ s ∈ L', SnR w5 (DH (w.heap.size + 2) (.slice (some ad) L'.length sc')) s := fun s hs => (hO4.sn s hs).mod m5 (fun b hb => hb.2)
  have lm := hO4.lm
  have mm := hO4.mm
  dsimp only at lm mm
  have hg5 := sn5 L'[k] (List.getElem_mem hkL)
  obtain ⟨gA, gm, gc, hgA, hgm, hgc⟩ : ∃ gA gm gc, gA = L'[k].A ∧ gm = L'[k].m ∧ gc = L'[k].c := ⟨_, _, _, rfl, rfl, rfl⟩
  have HG : Hid (mapAt (pureS L') k = gm) := by unfold Hid mapAt; rw [pure_getD L' k hkL, hgm]
  unfold SnR at hg5
  rw [← hgA, ← hgm, ← hgc] at hg5 ⊢
  clear hgA hgm hgc hO hO4 hk2 hB hQ4 bb4 m4 c5 d0 d1 d2 hQ bb
  obtain ⟨rg, lg, kg⟩ := hg5
  have HN := Lib.hid hnn
  have hnl : (L'.eraseIdx k).length = nn := by rw [List.length_eraseIdx, if_pos hkL]; omega
  obtain ⟨S, hS⟩ : ∃ S, S = L'.eraseIdx k := ⟨_, rfl⟩
  have HS : Hid (pureS S = (pureS L').eraseIdx k) := by unfold Hid; rw [hS, pure_erase]
  have snS : ∀ s ∈ S, SnR w5 (DH (w.heap.size + 2) (.slice (some ad) nn sc')) s := fun s hs => (sn5 s (by rw [hS] at hs; exact List.mem_of_mem_eraseIdx hs)).imp fun b _ hb => ⟨hb.1, by rw [ownB_eq (some ad) nn L'.length sc' sc']; exact hb.2⟩
  have rmS : RdI w5 (DH (w.heap.size + 2) (.slice (some ad) nn sc')) MA' m' := Rd.imp rm5 (fun b _ hb => ⟨hb.1, by rw [ownB_eq (some ad) nn L'.length sc' sc']; exact hb.2⟩) (by decide)
  have rgS : RdI w5 (DH (w.heap.size + 2) (.slice (some ad) nn sc')) gA gm := Rd.imp rg (fun b _ hb => ⟨hb.1, by rw [ownB_eq (some ad) nn L'.length sc' sc']; exact hb.2⟩) (by decide)
  rw [← hS] at o5 hnl
  have HSL := Lib.hid hnl
  clear rm5 sn5 rg m5 hS hnl
  have hnnI : (nn : Int) ≤ 9223372036854775807 := by omega
  have hnn4 : nn ≤ 4 := by omega
  by_cases hkn : k < nn
  focus
    have hknI : (k : Int) < (nn : Int) := by omega
    have hkS : k < S.length := by rw [HSL.out]; exact hkn
    have HF : Hid (dropAt ⟨u', n', o', hz', m', pureS L', la', sq'⟩ k = ⟨u', n', o', hz', m', (pureS S).set k (S[k].id, S[k].size, mergeO gm S[k].m), la', sq'⟩) := by
      unfold Hid dropAt
      dsimp only
      rw [← HS.out, pure_len, if_pos hkS, pure_getD S k hkS, HG.out]
      unfold mapAt
      rw [pure_getD S k hkS]
    rw [HF.out] at F
    clear HF HS HG
    go_wp2_with first
      | (with_reducible show wpList _ _ _ _ _ _
         refine wpList_fldB rfl 25 (.tmp 35) (.tmp 34) rfl w.heap.size 5 27 _ (.slice (some ad) nn sc') rfl rfl rfl infoS1 hB5 8 rfl (by decide) ?_
         intro w6 hB6 m6
         replace hB6 : Blk w6 w.heap.size 27 #[.int .i64 u', .int .i64 n', .int .i64 o', .int .i64 hz', .slice MA' m'.length mc', .slice (some ad) nn sc', .int .i64 la', .int .i64 sq'] := hB6
         have c4 := hB6.cell 4
         have c5 := hB6.cell 5
         simp at c4 c5)
    have o6 := o5.mod m6 (fun b hb e => by have := (o5.lt b hb).1; omega)
    have sn6 := fun s hs => (snS s hs).mod m6 (fun b hb e => by have := hb.1; omega)
    have rm6 := Rd.mod rmS m6 (fun b hb e => by have := hb.1; omega)
    have rg6 := Rd.mod rgS m6 (fun b hb e => by have := hb.1; omega)
    have hQ6 := hQ5.mod m6 (by omega)
    have bb6 := bb5.thenM m6 bb5.size (fun i hi e => by omega)
    clear o5 snS rmS rgS hQ5 bb5 hB5 m6 c4 c5
    have hsz6 : w.heap.size + 2 ≤ w6.heap.size := by have := hQ6.lt; omega
    obtain ⟨ad', hA', hadB, hob, hcell, hfr, -, -⟩ := OwnSn.store' (by rw [← HSL.out] at o6; exact o6) hkS
    injection hA' with hA'
    subst hA'
    have hob : (Value.slice (some ad) nn sc').ownBlock = some ad.block := by rw [ownB_eq (some ad) nn S.length sc' sc']; exact hob
    have hobl : ad.block < w6.heap.size := (o6.lt _ hob).2
    have HOB := Lib.hid hob
    obtain ⟨rx, lx, kx⟩ := sn6 S[k] (List.getElem_mem hkS)
    have hset := fun (W : World) (hW : OwnSn W (w.heap.size + 2) (.slice (some ad) nn sc') S) => (OwnSn.store' (by rw [← HSL.out] at hW; exact hW) hkS)
    have hq1 : ¬ w.heap.size = ad.block := by omega
    clear hob
    have hx : Hid (S[k].m = S[k].m) := rfl
    obtain ⟨x, hxe⟩ : ∃ x, x = S[k].m := ⟨_, rfl⟩
    have hx : Hid (S[k].m = x) := hxe.symm
    rw [← hxe] at rx lx hcell F
    clear hxe
    generalize hAx : S[k].A = Ax at *
    generalize hcx : S[k].c = cx at *
    refine r_start (R := RG ad.block) (by rfl) (n := 14) (L := #[false, false, false, false, false, false, false, false, false, false, false, false, false, false]) rfl rfl ?_
    have bd : Below w6.heap.size w6 w6.drew := (Below.refl _ _).drew
    have hB6 := hB6.below bd
    have hQ6 := hQ6.below bd
    have o6 := o6.below bd
    have rx := rx.below bd
    have rg6 := rg6.below bd
    have rm6 := rm6.below bd
    have sn6 := fun s hs => (sn6 s hs).below bd
    have bb6 := bb6.thenB' bd
    have hsz6 := Nat.le_trans hsz6 bd.size
    have hobl := Nat.lt_of_lt_of_le hobl bd.size
    have hfr : w6.drew.frozen? ⟨(ad.add (k * 3)).block, (ad.add (k * 3)).off + 2, none⟩ = false := hfr
    have hcell := cell_below hcell bd
    clear bd
    generalize w6.drew = wd at *
    have c5 := hB6.cell 5
    simp at c5
    refine r_flt (RG_refl ad.block) 0 41 #[true, false, false, false, false, false, false, false, false, false, false, false, false, false] (by simp only [List.getElem?_toArray, List.getElem?_cons_zero]; rfl) (by rfl) (by kernel_rfl) (by kernel_rfl) (by kernel_rfl) (fun _ _ _ _ h => h) rfl (by rfl) ?_
    apply Exists.intro
    apply And.intro
    · intro W hW
      first | (go_simp; with_reducible rfl) | go_simp
    (try simp only [Act.put, List.setIfInBounds_toArray]); (try simp only [List.set_cons_succ]); (try simp only [List.set_cons_zero])
    refine r_flt (RG_refl ad.block) 1 42 #[true, true, false, false, false, false, false, false, false, false, false, false, false, false] (by simp only [List.getElem?_toArray, List.getElem?_cons_succ, List.getElem?_cons_zero]; rfl) (by rfl) (by kernel_rfl) (by kernel_rfl) (by kernel_rfl) (fun _ _ _ _ h => h) rfl (by rfl) ?_
    apply Exists.intro
    apply And.intro
    · intro W hW
      have c := (hB6.mod hW hq1).cell 5
      simp at c
      go_simp; rfl
    (try simp only [Act.put, List.setIfInBounds_toArray]); (try simp only [List.set_cons_succ]); (try simp only [List.set_cons_zero])
    refine r_flt (RG_refl ad.block) 2 43 #[true, true, true, false, false, false, false, false, false, false, false, false, false, false] (by simp only [List.getElem?_toArray, List.getElem?_cons_succ, List.getElem?_cons_zero]; rfl) (by rfl) (by kernel_rfl) (by kernel_rfl) (by kernel_rfl) (fun _ _ _ _ h => h) rfl (by rfl) ?_
    apply Exists.intro
    apply And.intro
    · intro W hW
      first | (go_simp; with_reducible rfl) | go_simp
    (try simp only [Act.put, List.setIfInBounds_toArray]); (try simp only [List.set_cons_succ]); (try simp only [List.set_cons_zero])
    refine r_flt (RG_refl ad.block) 3 44 #[true, true, true, true, false, false, false, false, false, false, false, false, false, false] (by simp only [List.getElem?_toArray, List.getElem?_cons_succ, List.getElem?_cons_zero]; rfl) (by rfl) (by kernel_rfl) (by kernel_rfl) (by kernel_rfl) (fun _ _ _ _ h => h) rfl (by rfl) ?_
    apply Exists.intro
    apply And.intro
    · intro W hW
      first | (go_simp; with_reducible rfl) | go_simp
    (try simp only [Act.put, List.setIfInBounds_toArray]); (try simp only [List.set_cons_succ]); (try simp only [List.set_cons_zero])
    refine r_flt (RG_refl ad.block) 4 45 #[true, true, true, true, true, false, false, false, false, false, false, false, false, false] (by simp only [List.getElem?_toArray, List.getElem?_cons_succ, List.getElem?_cons_zero]; rfl) (by rfl) (by kernel_rfl) (by kernel_rfl) (by kernel_rfl) (fun _ _ _ _ h => h) rfl (by rfl) ?_
    apply Exists.intro
    apply And.intro
    · intro W hW
      first | (go_simp; with_reducible rfl) | go_simp
    (try simp only [Act.put, List.setIfInBounds_toArray]); (try simp only [List.set_cons_succ]); (try simp only [List.set_cons_zero])
    refine r_flt (RG_refl ad.block) 5 46 #[true, true, true, true, true, true, false, false, false, false, false, false, false, false] (by simp only [List.getElem?_toArray, List.getElem?_cons_succ, List.getElem?_cons_zero]; rfl) (by rfl) (by kernel_rfl) (by kernel_rfl) (by kernel_rfl) (fun _ _ _ _ h => h) rfl (by rfl) ?_
    apply Exists.intro
    apply And.intro
    · intro W hW
      have c := (hB6.mod hW hq1).cell 5
      simp at c
      go_simp; rfl
    (try simp only [Act.put, List.setIfInBounds_toArray]); (try simp only [List.set_cons_succ]); (try simp only [List.set_cons_zero])
    refine r_flt (RG_refl ad.block) 6 47 #[true, true, true, true, true, true, true, false, false, false, false, false, false, false] (by simp only [List.getElem?_toArray, List.getElem?_cons_succ, List.getElem?_cons_zero]; rfl) (by rfl) (by kernel_rfl) (by kernel_rfl) (by kernel_rfl) (fun _ _ _ _ h => h) rfl (by rfl) ?_
    apply Exists.intro
    apply And.intro
    · intro W hW
      first | (go_simp; with_reducible rfl) | go_simp
    (try simp only [Act.put, List.setIfInBounds_toArray]); (try simp only [List.set_cons_succ]); (try simp only [List.set_cons_zero])
    refine r_flt (RG_refl ad.block) 7 48 #[true, true, true, true, true, true, true, true, false, false, false, false, false, false] (by simp only [List.getElem?_toArray, List.getElem?_cons_succ, List.getElem?_cons_zero]; rfl) (by rfl) (by kernel_rfl) (by kernel_rfl) (by kernel_rfl) (fun _ _ _ _ h => h) rfl (by rfl) ?_
    apply Exists.intro
    apply And.intro
    · intro W hW
      go_simp; rfl
    (try simp only [Act.put, List.setIfInBounds_toArray]); (try simp only [List.set_cons_succ]); (try simp only [List.set_cons_zero])
    refine r_flt (RG_refl ad.block) 8 49 #[true, true, true, true, true, true, true, true, true, false, false, false, false, false] (by simp only [List.getElem?_toArray, List.getElem?_cons_succ, List.getElem?_cons_zero]; rfl) (by rfl) (by kernel_rfl) (by kernel_rfl) (by kernel_rfl) (fun _ _ _ _ h => h) rfl (by rfl) ?_
    apply Exists.intro
    apply And.intro
    · intro W hW
      first | (go_simp; with_reducible rfl) | go_simp
    (try simp only [Act.put, List.setIfInBounds_toArray]); (try simp only [List.set_cons_succ]); (try simp only [List.set_cons_zero])
    refine r_one (RG_trans ad.block) 9 (by kernel_rfl) ?_
    refine alt_val 50 #[true, true, true, true, true, true, true, true, true, true, false, false, false, false] (by simp only [List.getElem?_toArray, List.getElem?_cons_succ, List.getElem?_cons_zero]; rfl) (by rfl) rfl (by rfl) (by go_simp; first | exact ⟨rfl, rfl⟩ | rfl) ?_ ?_
    · exact RG_refl _ _
    (try simp only [Act.put, List.setIfInBounds_toArray]); (try simp only [List.set_cons_succ]); (try simp only [List.set_cons_zero])
    refine r_one (RG_trans ad.block) 10 (by kernel_rfl) ?_
    refine alt_call 51 #[true, true, true, true, true, true, true, true, true, true, true, false, false, false] (by simp only [List.getElem?_toArray, List.getElem?_cons_succ, List.getElem?_cons_zero]; rfl) (by rfl) rfl (by rfl) (by go_simp; first | exact ⟨rfl, rfl⟩ | rfl) ?_
    have hM := Merge_any _ _ Ax gA cx gc gm x _ rg6 rx
    generalize mergeO gm x = fm at *
    with_reducible refine hM.mono ?_
    clear hM
    rintro e' w9 ⟨A9, c9, rfl, r9, l9, k9, b9⟩
    refine ⟨_, rfl, RG.of_below b9, ?_⟩
    obtain ⟨ad', hA', -, -, hcell9, hfr9, -, hset9⟩ := hset _ (o6.below b9)
    injection hA' with hA'
    subst hA'
    rw [HSL.out] at hset9
    have hB9 := hB6.below b9
    have hQ9 := hQ6.below b9
    have bb9 := bb6.thenB' b9
    rw [hx.out] at hcell9
    (try simp only [Act.put, List.setIfInBounds_toArray]); (try simp only [List.set_cons_succ]); (try simp only [List.set_cons_zero])
    refine r_flt (RG_refl ad.block) 11 52 #[true, true, true, true, true, true, true, true, true, true, true, true, false, false] (by simp only [List.getElem?_toArray, List.getElem?_cons_succ, List.getElem?_cons_zero]; rfl) (by rfl) (by kernel_rfl) (by kernel_rfl) (by kernel_rfl) (fun _ _ _ _ h => h) rfl (by rfl) ?_
    apply Exists.intro
    apply And.intro
    · intro W hW
      go_simp; rfl
    (try simp only [Act.put, List.setIfInBounds_toArray]); (try simp only [List.set_cons_succ]); (try simp only [List.set_cons_zero])
    refine r_flt (RG_refl ad.block) 12 53 #[true, true, true, true, true, true, true, true, true, true, true, true, true, false] (by simp only [List.getElem?_toArray, List.getElem?_cons_succ, List.getElem?_cons_zero]; rfl) (by rfl) (by kernel_rfl) (by kernel_rfl) (by kernel_rfl) (fun _ _ _ _ h => h) rfl (by rfl) ?_
    apply Exists.intro
    apply And.intro
    · intro W hW
      first | (go_simp; with_reducible rfl) | go_simp
    (try simp only [Act.put, List.setIfInBounds_toArray]); (try simp only [List.set_cons_succ]); (try simp only [List.set_cons_zero])
    refine r_one (RG_trans ad.block) 13 (by kernel_rfl) ?_
    refine alt_none #[true, true, true, true, true, true, true, true, true, true, true, true, true, true] (by simp only [List.getElem?_toArray, List.getElem?_cons_succ, List.getElem?_cons_zero]; rfl) (by rfl) rfl (by rfl) (by go_simp; first | exact ⟨rfl, rfl⟩ | rfl) ?_ ?_
    · exact mod_fld _ ad _ _ _
    (try simp only [Act.put, List.setIfInBounds_toArray]); (try simp only [List.set_cons_succ]); (try simp only [List.set_cons_zero])
    refine r_done (by kernel_rfl) ?_
    have m10 := mod_fld w9 ad (k * 3) 2 (.slice A9 fm.length c9)
    have o10 := hset9 A9 fm c9
    generalize hwz : w9.setCell ⟨(ad.add (k * 3)).block, (ad.add (k * 3)).off + 2, none⟩ (.slice A9 fm.length c9) = wz at *
    have hBz := hB9.mod m10 hq1
    have hQz := hQ9.mod m10 (by omega)
    have hall := all8 (a := .int .i64 u') (b := .int .i64 n') (c := .int .i64 o') (d := .int .i64 hz') (e := .slice MA' m'.length mc') (f := .slice (some ad) nn sc') (g := .int .i64 la') (i := .int .i64 sq') rfl rfl rfl rfl rfl rfl rfl rfl
    go_wp2_with first
      | (with_reducible show wpList _ _ _ _ _ _
         refine wpList_load_row rfl 27 (.tmp 2) rfl w.heap.size rfl 27 _ (0, 0) _ hBz Try.underlying27 rfl infoH ?_)
      | (with_reducible show wpList _ _ _ _ _ _
         refine wpList_rowB rfl 27 (.tmp 4) (.tmp 59) rfl (w.heap.size + 1) 27 _ #[.int .i64 u', .int .i64 n', .int .i64 o', .int .i64 hz', .slice MA' m'.length mc', .slice (some ad) nn sc', .int .i64 la', .int .i64 sq'] rfl rfl hQz infoH rfl hall ?_
         intro w11 hq11 m11)
    (try simp only [Exit.inBlock, Exit.then])
    refine bodyPost_ret (results_cell_tmp rfl _ _ (w.heap.size + 1) _ _ (0, 0) _ rfl hq11 Try.underlying27 rfl infoH) rfl ?_
    rw [← HPL.out, F.out]
    have o11 := o10.mod m11 (fun b hb e => by have := (o6.lt b hb).1; omega)
    have rm11 := Rd.mod (Rd.mod (RdI.below rm6 b9) m10 (fun b hb e => hb.2 (by rw [e]; exact HOB.out))) m11 (fun b hb e => by have := hb.1; omega)
    have r11 : RdI w11 (DH (w.heap.size + 2) (.slice (some ad) nn sc')) A9 fm := Rd.mod (Rd.mod (Rd.imp r9.rd (D' := DH (w.heap.size + 2) (.slice (some ad) nn sc')) (fun b _ hb => ⟨Nat.le_trans hsz6 hb, fun e => by
      have := HOB.out.symm.trans e
      injection this with this
      omega⟩) (by decide)) m10 (fun b hb e => hb.2 (by rw [e]; exact HOB.out))) m11 (fun b hb e => by have := hb.1; omega)
    have sn11 : ∀ s ∈ S.set k ⟨S[k].id, S[k].size, A9, fm, c9⟩, SnR w11 (DH (w.heap.size + 2) (.slice (some ad) nn sc')) s := fun s hs => by
      rcases List.mem_or_eq_of_mem_set hs with hs | rfl
      · exact (((sn6 s hs).below b9).mod m10 (fun b hb e => hb.2 (by rw [e]; exact HOB.out))).mod m11 (fun b hb e => by have := hb.1; omega)
      · exact ⟨r11, l9, k9⟩
    have hbig := (bb9.thenM m10 bb9.size (fun i hi e => by omega)).thenM m11 (by have := bb9.size; have := m10.size; omega) (fun i hi e => by omega)
    have hl11 : (S.set k ⟨S[k].id, S[k].size, A9, fm, c9⟩).length = nn := by rw [List.length_set]; exact HSL.out
    obtain ⟨_, c12, e12, l12, k12⟩ := o11.form
    injection e12 with _ _ e12
    subst e12
    rw [← hl11] at o11 sn11 ⊢
    refine ⟨⟨u', n', o', hz', MA', m', mc', some ad, _, sc', la', sq'⟩, rfl, ?_, hd_of rm11 lm mm o11 l12 k12 sn11, hbig⟩
    show PH.mk u' n' o' hz' m' _ la' sq' = _
    unfold pureS
    rw [List.map_set]
  focus
    have hknI : ¬ (k : Int) < (nn : Int) := by omega
    have HF : Hid (dropAt ⟨u', n', o', hz', m', pureS L', la', sq'⟩ k = ⟨u', n', o', hz', mergeO gm m', pureS S, la', sq'⟩) := by
      unfold Hid dropAt
      dsimp only
      rw [← HS.out, pure_len, if_neg (by rw [HSL.out]; exact hkn), HG.out]
    rw [HF.out] at F
    clear HF HS HG
    go_wp2_with first
      | (with_reducible show wpList _ _ _ _ _ _
         refine wpList_fldB rfl 25 (.tmp 35) (.tmp 34) rfl w.heap.size 5 27 _ (.slice (some ad) nn sc') rfl rfl rfl infoS1 hB5 8 rfl (by decide) ?_
         intro w6 hB6 m6
         replace hB6 : Blk w6 w.heap.size 27 #[.int .i64 u', .int .i64 n', .int .i64 o', .int .i64 hz', .slice MA' m'.length mc', .slice (some ad) nn sc', .int .i64 la', .int .i64 sq'] := hB6
         have c4 := hB6.cell 4
         have c5 := hB6.cell 5
         simp at c4 c5)
    have o6 := o5.mod m6 (fun b hb e => by have := (o5.lt b hb).1; omega)
    have sn6 := fun s hs => (snS s hs).mod m6 (fun b hb e => by have := hb.1; omega)
    have rm6 := Rd.mod rmS m6 (fun b hb e => by have := hb.1; omega)
    have rg6 := Rd.mod rgS m6 (fun b hb e => by have := hb.1; omega)
    have hQ6 := hQ5.mod m6 (by omega)
    have bb6 := bb5.thenM m6 bb5.size (fun i hi e => by omega)
    clear o5 snS rmS rgS hQ5 bb5 hB5 m6 c4 c5
    have hsz6 : w.heap.size + 2 ≤ w6.heap.size := by have := hQ6.lt; omega
    have hM := Merge_any _ _ MA' gA mc' gc gm m' w6 rg6 rm6
    generalize mergeO gm m' = fm at *
    refine hM.mono ?_
    clear hM
    rintro e w7 ⟨A9, c9, rfl, r9, l9, k9, b9⟩
    have hB7 := hB6.below b9
    have hQ7 := hQ6.below b9
    have hall := all8 (a := .int .i64 u') (b := .int .i64 n') (c := .int .i64 o') (d := .int .i64 hz') (e := .slice A9 fm.length c9) (f := .slice (some ad) nn sc') (g := .int .i64 la') (i := .int .i64 sq') rfl rfl rfl rfl rfl rfl rfl rfl
    go_wp2_with first
      | (with_reducible show wpList _ _ _ _ _ _
         refine wpList_fldB rfl 24 (.tmp 58) (.tmp 57) rfl w.heap.size 4 27 _ (.slice A9 fm.length c9) rfl rfl rfl infoM1 hB7 8 rfl (by decide) ?_
         intro w8 hB8 m8
         replace hB8 : Blk w8 w.heap.size 27 #[.int .i64 u', .int .i64 n', .int .i64 o', .int .i64 hz', .slice A9 fm.length c9, .slice (some ad) nn sc', .int .i64 la', .int .i64 sq'] := hB8
         have hQ8 := hQ7.mod m8 (by omega))
      | (with_reducible show wpList _ _ _ _ _ _
         refine wpList_load_row rfl 27 (.tmp 2) rfl w.heap.size rfl 27 _ (0, 0) _ hB8 Try.underlying27 rfl infoH ?_)
      | (with_reducible show wpList _ _ _ _ _ _
         refine wpList_rowB rfl 27 (.tmp 4) (.tmp 59) rfl (w.heap.size + 1) 27 _ #[.int .i64 u', .int .i64 n', .int .i64 o', .int .i64 hz', .slice A9 fm.length c9, .slice (some ad) nn sc', .int .i64 la', .int .i64 sq'] rfl rfl hQ8 infoH rfl hall ?_
         intro w9 hq9 m9)
    (try simp only [Exit.inBlock, Exit.then])
    refine bodyPost_ret (results_cell_tmp rfl _ _ (w.heap.size + 1) _ _ (0, 0) _ rfl hq9 Try.underlying27 rfl infoH) rfl ?_
    rw [← HPL.out, F.out]
    have rm8 : RdI w9 (fun b => w.heap.size + 2 ≤ b) A9 fm := Rd.mod (Rd.mod (Rd.imp r9.rd (D' := fun b => w.heap.size + 2 ≤ b) (fun b _ hb => Nat.le_trans hsz6 hb) (by decide)) m8 (fun b hb e => by omega)) m9 (fun b hb e => by omega)
    have o9 := ((o6.below b9).mod m8 (fun b hb e => by have := (o6.lt b hb).1; omega)).mod m9 (fun b hb e => by have := (o6.lt b hb).1; omega)
    have sn9 := fun s hs => (((sn6 s hs).below b9).mod m8 (fun b hb e => by have := hb.1; omega)).mod m9 (fun b hb e => by have := hb.1; omega)
    have bb9 := ((bb6.thenB' b9).thenM m8 (bb6.thenB' b9).size (fun i hi e => by omega)).thenM m9 (by have := (bb6.thenB' b9).size; have := m8.size; omega) (fun i hi e => by omega)
    obtain ⟨_, c10, e10, l10, k10⟩ := o9.form
    injection e10 with _ _ e10
    subst e10
    rw [← HSL.out] at o9 sn9 ⊢
    exact ⟨⟨u', n', o', hz', A9, fm, c9, some ad, S, sc', la', sq'⟩, rfl, rfl, hd_of rm8 l9 k9 o9 l10 k10 sn9, bb9⟩
end Go.Proofs.Ytpgfhbkggchliaa

/- A head without a snapshot: the document. -/
namespace Go.Proofs.Ytpgfhbkggchliaa
open Go.RowKit
set_option linter.unusedVariables false

set_option maxHeartbeats 8000000 in
set_option maxRecDepth 100000 in
theorem rDrop_any6 (D : Nat → Prop) (h : HdV) (id : Int) (w : World) (hr : HdR w D h) :
    Calls Try.prog 31 #[hdV h, .int .i64 id] w fun e w' => ∃ h' : HdV, e = .returned (.tuple #[hdV h', .int .i64 (dropP h.p id).2]) ∧ h'.p = (dropP h.p id).1 ∧ HdR w' (fun _ => True) h' ∧ Below w.heap.size w w' := by
  have hr := hr.old
  have b1 := below_new w (.cells (hdA h) 27)
  have hB := Blk.new w 27 (hdA h)
  have s1 : (w.alloc (.cells (hdA h) 27)).heap.size = w.heap.size + 1 := Array.size_push ..
  have b2 := below_new (w.alloc (.cells (hdA h) 27)) (.cells hzA 27)
  have hQ := Blk.new (w.alloc (.cells (hdA h) 27)) 27 hzA
  have s2 : ((w.alloc (.cells (hdA h) 27)).alloc (.cells hzA 27)).heap.size = w.heap.size + 1 + 1 := by rw [← s1]; exact Array.size_push ..
  rw [s1] at hQ
  have hB := hB.below b2
  have bb := b1.thenB' b2
  have hr0 := (hr.below b1).below b2
  clear b1 b2 s1
  have hmp := may_p h
  have hck := rMay_any _ h _ hr0
  generalize hw0 : (w.alloc (.cells (hdA h) 27)).alloc (.cells hzA 27) = w0 at *
  have hs0 : w.heap.size + 2 ≤ w0.heap.size := by omega
  clear s2 hr
  cases hmay : mayH h
  focus
    have E : Hid (dropP h.p id = (zeroP, 60)) := by unfold Hid dropP; rw [← hmp, hmay]; rfl
    rw [hmay] at hck
    clear hmay hmp hr0
    obtain ⟨u, n, o, hz, MA, m, mc, A, L, sc, la, sq⟩ := h
    unfold hdV at *
    unfold hdA hzA at *
    dsimp only at *
    go_enter Try.func31, Try.ntmps31
    go_wp2_with first
      | (with_reducible show wpList _ _ _ _ _ _
         refine wpList_load_row rfl 27 (.tmp 2) rfl w.heap.size rfl 27 _ (0, 0) _ hB Try.underlying27 rfl infoH ?_)
    refine hck.mono ?_
    rintro e w2 ⟨rfl, b2⟩
    have hQ := hQ.below b2
    go_wp2_with first
      | (with_reducible show wpList _ _ _ _ _ _
         refine wpList_rowB rfl 27 (.tmp 4) (.tmp 14) rfl (w.heap.size + 1) 27 _ hzA rfl rfl hQ infoH rfl hzA_ok ?_
         intro w4 hq4 m4)
    (try simp only [Exit.inBlock, Exit.then])
    refine bodyPost_ret (results_cell_tmp rfl _ _ (w.heap.size + 1) _ _ (0, 0) _ rfl hq4 Try.underlying27 rfl infoH) rfl ?_
    rw [E.out]
    have bb := bb.thenB' b2
    exact ⟨zeroH, rfl, rfl, freshH_rd 0 0 0 0 _ _, bb.thenM m4 bb.size (fun i hi e => by omega)⟩
  have hbd := mayP_bd (hmp ▸ hmay)
  have e0 : dropP h.p id = if findO (idsP h.p.S) id < 0 then (zeroP, 182) else (dropAt h.p (findO (idsP h.p.S) id).toNat, 0) := by unfold dropP; rw [← hmp, hmay]; rfl
  rw [show idsP h.p.S = idsO h.S from (ids_p h.S).symm] at e0
  have E0 := Lib.hid e0
  clear e0
  have hfd := fun W (hr : HdR W (· < w.heap.size) h) => rFind_any _ h id W hr
  have hfb := findO_bd (idsO h.S) id
  rw [ids_len] at hfb
  generalize findO (idsO h.S) id = r at *
  rw [hmay] at hck
  clear hmay hmp
  have hSbd : h.S.length ≤ 4 := by have := hbd.four; unfold HdV.p at this; rw [pure_len] at this; exact this
  obtain ⟨p9, p10⟩ := hbd.last
  clear hbd
  have hhd : hdV h = .agg (hdA h) := rfl
  obtain ⟨u, n, o, hz, MA, m, mc, A, L, sc, la, sq⟩ := h
  unfold hdV at *
  unfold hdA hzA HdV.p at *
  dsimp only at *
  go_enter Try.func31, Try.ntmps31
  go_wp2_with first
    | (with_reducible show wpList _ _ _ _ _ _
       refine wpList_load_row rfl 27 (.tmp 2) rfl w.heap.size rfl 27 _ (0, 0) _ hB Try.underlying27 rfl infoH ?_)
  refine hck.mono ?_
  clear hck hw0
  rintro e w2 ⟨rfl, b2⟩
  have hB := hB.below b2
  have hQ := hQ.below b2
  have hr0 := hr0.below b2
  have bb := bb.thenB' b2
  have hs2 : w.heap.size + 2 ≤ w2.heap.size := by have := b2.size; omega
  clear b2
  have hfd := hfd w2 hr0
  go_wp2_with first
    | (with_reducible show wpList _ _ _ _ _ _
       refine wpList_load_row rfl 27 (.tmp 2) rfl w.heap.size rfl 27 _ (0, 0) _ hB Try.underlying27 rfl infoH ?_)
  refine hfd.mono ?_
  clear hfd
  rintro e w2' ⟨rfl, b2⟩
  have hB := hB.below b2
  have hQ := hQ.below b2
  have hr0 := hr0.below b2
  have bb := bb.thenB' b2
  have hs2 : w.heap.size + 2 ≤ w2'.heap.size := by have := b2.size; omega
  clear b2
  by_cases h4 : r < 0
  focus
    have F : Hid (dropP ⟨u, n, o, hz, m, pureS L, la, sq⟩ id = (zeroP, 182)) := by unfold Hid; rw [E0.out, if_pos h4]
    clear E0
    go_wp2_with first
      | (with_reducible show wpList _ _ _ _ _ _
         refine wpList_rowB rfl 27 (.tmp 4) (.tmp 20) rfl (w.heap.size + 1) 27 _ hzA rfl rfl hQ infoH rfl hzA_ok ?_
         intro w4 hq4 m4)
    (try simp only [Exit.inBlock, Exit.then])
    refine bodyPost_ret (results_cell_tmp rfl _ _ (w.heap.size + 1) _ _ (0, 0) _ rfl hq4 Try.underlying27 rfl infoH) rfl ?_
    rw [F.out]
    exact ⟨zeroH, rfl, rfl, freshH_rd 0 0 0 0 _ _, bb.thenM m4 bb.size (fun i hi e => by omega)⟩
  obtain ⟨k, rfl⟩ : ∃ k : Nat, r = (k : Int) := ⟨r.toNat, by omega⟩
  have hkL : k < L.length := by omega
  have F : Hid (dropP ⟨u, n, o, hz, m, pureS L, la, sq⟩ id = (dropAt ⟨u, n, o, hz, m, pureS L, la, sq⟩ k, 0)) := by unfold Hid; rw [E0.out, if_neg h4]; rfl
  clear E0 hfb
  obtain ⟨rm, lm, mm, hS, hl, hm, hrs⟩ := hr0
  dsimp only at rm lm mm hS hl hm hrs
  obtain ⟨n1, hn1⟩ : ∃ n1, L.length = n1 + 1 := ⟨L.length - 1, by omega⟩
  have HN := Lib.hid hn1
  have hkn1 : k ≤ n1 := by omega
  have hn4 : n1 ≤ 3 := by omega
  have hnsc : n1 + 1 ≤ sc := by omega
  have h4' : ¬ (k : Int) < 0 := h4
  have i2 : (k : Int) < ((n1 + 1 : Nat) : Int) := by omega
  have i4 : k ≤ sc := by omega
  have i6 : (0 : Int) ≤ (k : Int) + 1 := by omega
  have i8 : (k : Int) + 1 ≤ ((n1 + 1 : Nat) : Int) := by omega
  have i9 : (k : Int) ≤ ((n1 + 1 : Nat) : Int) := by omega
  have hf1 : Rd w2' (· < w.heap.size) 3 A k (snF (L.take k)) := by
    have := Rd.take hS.flat (k := k) (by omega)
    rw [← snF_take] at this
    exact this
  have hf2 : Rd w2' (· < w.heap.size) 3 (cutA A (k + 1) sc 3) (n1 - k) (snF (L.drop (k + 1))) := by
    have := Rd.cut (cap := sc) hS.flat (k := k + 1) (by omega) (by omega)
    rw [← snF_drop _ _ (by omega)] at this
    rw [show n1 - k = L.length - (k + 1) by omega]
    exact this
  have lt1 : (L.take k).length = k := by rw [List.length_take, Nat.min_eq_left (by omega)]
  have lt2 : (L.drop (k + 1)).length = n1 - k := by rw [List.length_drop]; omega
  have hle1 : ([] : List SnV).length + (L.take k).length ≤ 1000000 := by rw [lt1]; simp only [List.length_nil]; omega
  have hle2 : ([] ++ L.take k).length + (L.drop (k + 1)).length ≤ 1000000 := by rw [List.nil_append, lt1, lt2]; omega
  have HT1 := Lib.hid lt1.symm
  have HT2 := Lib.hid lt2.symm
  obtain ⟨ad, hA', d0, d1, d2⟩ := hS.sn hkL
  subst hA'
  have hg5 := hrs L[k] (List.getElem_mem hkL)
  obtain ⟨gA, gm, gc, hgA, hgm, hgc⟩ : ∃ gA gm gc, gA = L[k].A ∧ gm = L[k].m ∧ gc = L[k].c := ⟨_, _, _, rfl, rfl, rfl⟩
  have HG : Hid (mapAt (pureS L) k = gm) := by unfold Hid mapAt; rw [pure_getD L k hkL, hgm]
  unfold SnR at hg5
  rw [← hgA, ← hgm, ← hgc] at hg5 d2
  rw [hn1] at hB
  clear hgA hgm hgc lt1 lt2
  obtain ⟨rg, lg, kg⟩ := hg5
  obtain ⟨S, hSe⟩ : ∃ S, S = L.eraseIdx k := ⟨_, rfl⟩
  have HS : Hid (pureS S = (pureS L).eraseIdx k) := by unfold Hid; rw [hSe, pure_erase]
  have snS : ∀ s ∈ S, SnR w2' (· < w.heap.size) s := fun s hs => hrs s (by rw [hSe] at hs; exact List.mem_of_mem_eraseIdx hs)
  have hnl : S.length = n1 := by rw [hSe, List.length_eraseIdx, if_pos hkL]; omega
  have HSe : Hid ([] ++ L.take k ++ L.drop (k + 1) = S) := by unfold Hid; rw [List.nil_append, hSe, erase_eq]
  have HSL := Lib.hid hnl
  have hoN : OwnSn w2' (w.heap.size + 2) (.slice none 0 0) [] := OwnSn.nil
  have c5 := hB.cell 5
  simp at c5
  clear hSe hnl hn1 d0 d1 hrs
  by_cases hkn : k < n1
  focus
    have hknI : (k : Int) < (n1 : Int) := by omega
    have hnI : (n1 : Int) ≤ 9223372036854775807 := by omega
    have hkS : k < S.length := by rw [HSL.out]; exact hkn
    have HF : Hid (dropAt ⟨u, n, o, hz, m, pureS L, la, sq⟩ k = ⟨u, n, o, hz, m, (pureS S).set k (S[k].id, S[k].size, mergeO gm S[k].m), la, sq⟩) := by
      unfold Hid dropAt
      dsimp only
      rw [← HS.out, pure_len, if_pos hkS, pure_getD S k hkS, HG.out]
      unfold mapAt
      rw [pure_getD S k hkS]
    rw [HF.out] at F
    clear HF HS HG
    obtain ⟨x, hxe⟩ : ∃ x, x = S[k].m := ⟨_, rfl⟩
    have hx : Hid (S[k].m = x) := hxe.symm
    obtain ⟨Ax, hAx⟩ : ∃ x, x = S[k].A := ⟨_, rfl⟩
    obtain ⟨cx, hcx⟩ : ∃ x, x = S[k].c := ⟨_, rfl⟩
    rw [← hxe] at F
    have HX := Lib.hid (And.intro hxe (And.intro hAx hcx))
    clear hxe hAx hcx
    go_wp2_with first
      | (at_builtin
         refine wpList_appSn rfl (.tmp 27) (.tmp 31) rfl (w.heap.size + 2) (.slice none 0 0) [] (L.take k) rfl hoN _ (some ad) k sc rfl HT1.out hf1 hle1 hs2 ?_
         intro v6 w6 o6 e6
         have b6 : Below w2'.heap.size w2' w6 := Ext.of_nil e6
         have hB6 := hB.below b6
         have hs6 : w.heap.size + 2 ≤ w6.heap.size := by have := b6.size; omega
         have hf26 := hf2.below b6
         have c5 := hB6.cell 5
         simp at c5)
      | (at_builtin
         refine wpList_appSn rfl (.tmp 33) (.tmp 38) rfl (w.heap.size + 2) v6 ([] ++ L.take k) (L.drop (k + 1)) rfl o6 _ _ (n1 - k) _ rfl HT2.out hf26 hle2 hs6 ?_
         intro v7 w7 o7 e7
         have hv6 : ∀ b, v6.ownBlock = some b → w.heap.size + 2 ≤ b := fun b hb => (o6.lt b hb).1
         have hB7 := hB6.ext e7 (fun e => by have := hv6 _ e; omega)
         have hQ7 := (hQ.below b6).ext e7 (fun e => by have := hv6 _ e; omega)
         have bb7 := (bb.thenB' b6).trans (e7.below o6 (Nat.le_trans (by omega) (Nat.le_refl (w.heap.size + 2))) (by have := bb.size; have := b6.size; omega))
         rw [HSe.out] at o7
         obtain ⟨A7, c7, hv7, l7, x7⟩ := o7.form
         rw [HSL.out] at hv7 l7
         subst hv7
         have keep7 : ∀ b, b < w.heap.size → w7.heap[b]? = w6.heap[b]? := fun b hb => e7.grown.block b (by omega) (fun e => by have := hv6 b e.symm; omega)
         have rm7 : RdI w7 (· < w.heap.size) MA m := Rd.keep (RdI.below rm b6) (fun b _ hd => keep7 b hd)
         have rg7 : RdI w7 (· < w.heap.size) gA gm := Rd.keep (RdI.below rg b6) (fun b _ hd => keep7 b hd)
         have sn7 : ∀ s ∈ S, SnR w7 (· < w.heap.size) s := fun s hs => ⟨Rd.keep ((snS s hs).below b6).1 (fun b _ hd => keep7 b hd), (snS s hs).2⟩
         have hs7 : w.heap.size + 2 ≤ w7.heap.size := Nat.le_trans hs6 e7.grown.size
         obtain ⟨ad7, hA7, e0, e1, e2⟩ := (o7.rd).sn hkS
         subst hA7
         rw [← HX.out.1, ← HX.out.2.1, ← HX.out.2.2] at e2)
    have rx7 : RdI w7 (· < w.heap.size) Ax x := by
      have := (sn7 S[k] (List.getElem_mem hkS)).1
      rw [← HX.out.1, ← HX.out.2.1] at this
      exact this
    have hM := rMerge_any _ _ Ax gA cx gc gm x w7 rg7 rx7 (by
      have := (sn7 S[k] (List.getElem_mem hkS)).2.1
      rw [← HX.out.1, ← HX.out.2.2] at this
      exact this) (by
      have := (sn7 S[k] (List.getElem_mem hkS)).2.2
      rw [← HX.out.2.2] at this
      exact this)
    generalize mergeO gm x = fm at *
    refine hM.mono ?_
    clear hM e0 e1 e2
    rintro e w9 ⟨A9, c9, rfl, r9, l9, k9, b9⟩
    have o9 := o7.below b9
    obtain ⟨ad', hA', hadB, hob, hcell, hfr, -, hset⟩ := OwnSn.store' (by rw [← HSL.out] at o9; exact o9) hkS
    injection hA' with hA'
    subst hA'
    rw [← HX.out.1, ← HX.out.2.1, ← HX.out.2.2] at hcell
    rw [HSL.out] at hset
    have hq1 : ¬ w.heap.size = ad7.block := by omega
    have m10 := mod_fld w9 ad7 (k * 3) 2 (.slice A9 fm.length c9)
    have o10 := hset A9 fm c9
    have hBz := (hB7.below b9).mod m10 hq1
    have hQz := (hQ7.below b9).mod m10 (by omega)
    have hobl : ad7.block < w7.heap.size := (o7.lt _ (by rw [ownB_eq (some ad7) n1 S.length c7 c7]; exact hob)).2
    have HOB : Hid ((Value.slice (some ad7) n1 c7).ownBlock = some ad7.block) := by unfold Hid; rw [ownB_eq (some ad7) n1 S.length c7 c7]; exact hob
    clear hob hset hq1 hadB
    have hall := all8 (a := .int .i64 u) (b := .int .i64 n) (c := .int .i64 o) (d := .int .i64 hz) (e := .slice MA m.length mc) (f := .slice (some ad7) n1 c7) (g := .int .i64 la) (i := .int .i64 sq) rfl rfl rfl rfl rfl rfl rfl rfl
    go_wp2_with first
      | (with_reducible show wpList _ _ _ _ _ _
         refine wpList_fldB rfl 25 (.tmp 61) (.tmp 60) rfl w.heap.size 5 27 _ (.slice (some ad7) n1 c7) rfl rfl rfl infoS1 hBz 8 rfl (by decide) ?_
         intro w11 hB11 m11
         replace hB11 : Blk w11 w.heap.size 27 #[.int .i64 u, .int .i64 n, .int .i64 o, .int .i64 hz, .slice MA m.length mc, .slice (some ad7) n1 c7, .int .i64 la, .int .i64 sq] := hB11
         have hQ11 := hQz.mod m11 (by omega))
      | (with_reducible show wpList _ _ _ _ _ _
         refine wpList_load_row rfl 27 (.tmp 2) rfl w.heap.size rfl 27 _ (0, 0) _ hB11 Try.underlying27 rfl infoH ?_)
      | (with_reducible show wpList _ _ _ _ _ _
         refine wpList_rowB rfl 27 (.tmp 4) (.tmp 62) rfl (w.heap.size + 1) 27 _ #[.int .i64 u, .int .i64 n, .int .i64 o, .int .i64 hz, .slice MA m.length mc, .slice (some ad7) n1 c7, .int .i64 la, .int .i64 sq] rfl rfl hQ11 infoH rfl hall ?_
         intro w12 hq12 m12)
    (try simp only [Exit.inBlock, Exit.then])
    refine bodyPost_ret (results_cell_tmp rfl _ _ (w.heap.size + 1) _ _ (0, 0) _ rfl hq12 Try.underlying27 rfl infoH) rfl ?_
    rw [F.out]
    generalize hwz : w9.setCell ⟨(ad7.add (k * 3)).block, (ad7.add (k * 3)).off + 2, none⟩ (.slice A9 fm.length c9) = wz at *
    have o12 := (o10.mod m11 (fun b hb e => by have := (o7.lt b hb).1; omega)).mod m12 (fun b hb e => by have := (o7.lt b hb).1; omega)
    have hadB : w.heap.size + 2 ≤ ad7.block := (o7.lt _ HOB.out).1
    have rm12 := Rd.mod (Rd.mod (Rd.mod (RdI.below rm7 b9) m10 (fun b hb e => by omega)) m11 (fun b hb e => by omega)) m12 (fun b hb e => by omega)
    have r12 : RdI w12 (fun b => w.heap.size + 2 ≤ b) A9 fm := Rd.mod (Rd.mod (Rd.imp (Rd.mod (Rd.imp r9.rd (D' := fun b => w7.heap.size ≤ b) (fun b _ hb => hb) (by decide)) m10 (fun b hb e => by omega)) (D' := fun b => w.heap.size + 2 ≤ b) (fun b _ hb => Nat.le_trans hs7 hb) (by decide)) m11 (fun b hb e => by omega)) m12 (fun b hb e => by omega)
    have sn12 : ∀ s ∈ S.set k ⟨S[k].id, S[k].size, A9, fm, c9⟩, SnR w12 (fun _ => True) s := fun s hs => by
      rcases List.mem_or_eq_of_mem_set hs with hs | rfl
      · exact (((((sn7 s hs).below b9).mod m10 (fun b hb e => by omega)).mod m11 (fun b hb e => by omega)).mod m12 (fun b hb e => by omega)).imp fun _ _ _ => trivial
      · exact ⟨Rd.imp r12 (fun _ _ _ => trivial) (by decide), l9, k9⟩
    have bb9 := bb7.thenB' b9
    have hbig := ((bb9.thenM m10 bb9.size (fun i hi e => by omega)).thenM m11 (by have := bb9.size; have := m10.size; omega) (fun i hi e => by omega)).thenM m12 (by have := bb9.size; have := m10.size; have := m11.size; omega) (fun i hi e => by omega)
    have hl11 : (S.set k ⟨S[k].id, S[k].size, A9, fm, c9⟩).length = n1 := by rw [List.length_set]; exact HSL.out
    obtain ⟨_, c12, e12, l12, k12⟩ := o12.form
    injection e12 with _ _ e12
    subst e12
    rw [← hl11] at o12 ⊢
    refine ⟨⟨u, n, o, hz, MA, m, mc, some ad7, _, c7, la, sq⟩, rfl, ?_, hd_of6 rm12 lm mm o12 l12 k12 sn12, hbig⟩
    show PH.mk u n o hz m _ la sq = _
    unfold pureS
    rw [List.map_set]
  focus
    have hknI : ¬ (k : Int) < (n1 : Int) := by omega
    have HF : Hid (dropAt ⟨u, n, o, hz, m, pureS L, la, sq⟩ k = ⟨u, n, o, hz, mergeO gm m, pureS S, la, sq⟩) := by
      unfold Hid dropAt
      dsimp only
      rw [← HS.out, pure_len, if_neg (by rw [HSL.out]; exact hkn), HG.out]
    rw [HF.out] at F
    clear HF HS HG
    go_wp2_with first
      | (at_builtin
         refine wpList_appSn rfl (.tmp 27) (.tmp 31) rfl (w.heap.size + 2) (.slice none 0 0) [] (L.take k) rfl hoN _ (some ad) k sc rfl HT1.out hf1 hle1 hs2 ?_
         intro v6 w6 o6 e6
         have b6 : Below w2'.heap.size w2' w6 := Ext.of_nil e6
         have hB6 := hB.below b6
         have hs6 : w.heap.size + 2 ≤ w6.heap.size := by have := b6.size; omega
         have hf26 := hf2.below b6
         have c5 := hB6.cell 5
         simp at c5)
      | (at_builtin
         refine wpList_appSn rfl (.tmp 33) (.tmp 38) rfl (w.heap.size + 2) v6 ([] ++ L.take k) (L.drop (k + 1)) rfl o6 _ _ (n1 - k) _ rfl HT2.out hf26 hle2 hs6 ?_
         intro v7 w7 o7 e7
         have hv6 : ∀ b, v6.ownBlock = some b → w.heap.size + 2 ≤ b := fun b hb => (o6.lt b hb).1
         have hB7 := hB6.ext e7 (fun e => by have := hv6 _ e; omega)
         have hQ7 := (hQ.below b6).ext e7 (fun e => by have := hv6 _ e; omega)
         have bb7 := (bb.thenB' b6).trans (e7.below o6 (Nat.le_trans (by omega) (Nat.le_refl (w.heap.size + 2))) (by have := bb.size; have := b6.size; omega))
         rw [HSe.out] at o7
         obtain ⟨A7, c7, hv7, l7, x7⟩ := o7.form
         rw [HSL.out] at hv7 l7
         subst hv7
         have keep7 : ∀ b, b < w.heap.size → w7.heap[b]? = w6.heap[b]? := fun b hb => e7.grown.block b (by omega) (fun e => by have := hv6 b e.symm; omega)
         have rm7 : RdI w7 (· < w.heap.size) MA m := Rd.keep (RdI.below rm b6) (fun b _ hd => keep7 b hd)
         have rg7 : RdI w7 (· < w.heap.size) gA gm := Rd.keep (RdI.below rg b6) (fun b _ hd => keep7 b hd)
         have sn7 : ∀ s ∈ S, SnR w7 (· < w.heap.size) s := fun s hs => ⟨Rd.keep ((snS s hs).below b6).1 (fun b _ hd => keep7 b hd), (snS s hs).2⟩
         have hs7 : w.heap.size + 2 ≤ w7.heap.size := Nat.le_trans hs6 e7.grown.size
         have c4 := hB7.cell 4
         simp at c4)
    have hM := rMerge_any _ _ MA gA mc gc gm m w7 rg7 rm7 lm mm
    generalize mergeO gm m = fm at *
    refine hM.mono ?_
    clear hM
    rintro e w9 ⟨A9, c9, rfl, r9, l9, k9, b9⟩
    have hBz := hB7.below b9
    have hQz := hQ7.below b9
    have hall := all8 (a := .int .i64 u) (b := .int .i64 n) (c := .int .i64 o) (d := .int .i64 hz) (e := .slice A9 fm.length c9) (f := .slice A7 n1 c7) (g := .int .i64 la) (i := .int .i64 sq) rfl rfl rfl rfl rfl rfl rfl rfl
    go_wp2_with first
      | (with_reducible show wpList _ _ _ _ _ _
         refine wpList_fldB rfl 24 (.tmp 59) (.tmp 58) rfl w.heap.size 4 27 _ (.slice A9 fm.length c9) rfl rfl rfl infoM1 hBz 8 rfl (by decide) ?_
         intro w10 hB10 m10
         replace hB10 : Blk w10 w.heap.size 27 #[.int .i64 u, .int .i64 n, .int .i64 o, .int .i64 hz, .slice A9 fm.length c9, .slice (some ad) (n1 + 1) sc, .int .i64 la, .int .i64 sq] := hB10)
      | (with_reducible show wpList _ _ _ _ _ _
         refine wpList_fldB rfl 25 (.tmp 61) (.tmp 60) rfl w.heap.size 5 27 _ (.slice A7 n1 c7) rfl rfl rfl infoS1 hB10 8 rfl (by decide) ?_
         intro w11 hB11 m11
         replace hB11 : Blk w11 w.heap.size 27 #[.int .i64 u, .int .i64 n, .int .i64 o, .int .i64 hz, .slice A9 fm.length c9, .slice A7 n1 c7, .int .i64 la, .int .i64 sq] := hB11
         have hQ11 := (hQz.mod m10 (by omega)).mod m11 (by omega))
      | (with_reducible show wpList _ _ _ _ _ _
         refine wpList_load_row rfl 27 (.tmp 2) rfl w.heap.size rfl 27 _ (0, 0) _ hB11 Try.underlying27 rfl infoH ?_)
      | (with_reducible show wpList _ _ _ _ _ _
         refine wpList_rowB rfl 27 (.tmp 4) (.tmp 62) rfl (w.heap.size + 1) 27 _ #[.int .i64 u, .int .i64 n, .int .i64 o, .int .i64 hz, .slice A9 fm.length c9, .slice A7 n1 c7, .int .i64 la, .int .i64 sq] rfl rfl hQ11 infoH rfl hall ?_
         intro w12 hq12 m12)
    (try simp only [Exit.inBlock, Exit.then])
    refine bodyPost_ret (results_cell_tmp rfl _ _ (w.heap.size + 1) _ _ (0, 0) _ rfl hq12 Try.underlying27 rfl infoH) rfl ?_
    rw [F.out]
    have o12 := (((o7.below b9).mod m10 (fun b hb e => by have := (o7.lt b hb).1; omega)).mod m11 (fun b hb e => by have := (o7.lt b hb).1; omega)).mod m12 (fun b hb e => by have := (o7.lt b hb).1; omega)
    have r12 : RdI w12 (fun b => w.heap.size + 2 ≤ b) A9 fm := Rd.mod (Rd.mod (Rd.mod (Rd.imp r9.rd (D' := fun b => w.heap.size + 2 ≤ b) (fun b _ hb => Nat.le_trans hs7 hb) (by decide)) m10 (fun b hb e => by omega)) m11 (fun b hb e => by omega)) m12 (fun b hb e => by omega)
    have sn12 := fun s hs => ((((sn7 s hs).below b9).mod m10 (fun b hb e => by omega)).mod m11 (fun b hb e => by omega)).mod m12 (fun b hb e => by omega)
    have bb9 := bb7.thenB' b9
    have hbig := ((bb9.thenM m10 bb9.size (fun i hi e => by omega)).thenM m11 (by have := bb9.size; have := m10.size; omega) (fun i hi e => by omega)).thenM m12 (by have := bb9.size; have := m10.size; have := m11.size; omega) (fun i hi e => by omega)
    obtain ⟨_, c12, e12, l12, k12⟩ := o12.form
    injection e12 with _ _ e12
    subst e12
    rw [← HSL.out] at o12 ⊢
    exact ⟨⟨u, n, o, hz, A9, fm, c9, A7, S, c7, la, sq⟩, rfl, rfl, hd_of6 r12 l9 k9 o12 l12 k12 sn12, hbig⟩
end Go.Proofs.Ytpgfhbkggchliaa

/- Rows of maps of the call's own; what differs between two snapshots, as plain data. -/
namespace Go.Proofs.Ytpgfhbkggchliaa
open Go.RowKit
set_option linter.unusedVariables false

def restM (S : List (Int × Int × List Int)) (a e : Nat) : List (List Int) := ((S.take (e + 1)).drop (a + 1)).map fun s => s.2.2
def diffP (p : PH) (fr tt : Int) : List Int × Int :=
  if mayP p then
    (if findO (idsP p.S) fr < 0 ∨ (tt ≠ 0 ∧ findO (idsP p.S) tt < findO (idsP p.S) fr) then ([], 182)
     else if tt = 0 then (changedO (mapAt p.S (findO (idsP p.S) fr).toNat) (restM p.S (findO (idsP p.S) fr).toNat p.S.length ++ [p.m]), 0)
     else (changedO (mapAt p.S (findO (idsP p.S) fr).toNat) (restM p.S (findO (idsP p.S) fr).toNat (findO (idsP p.S) tt).toNat), 0))
  else ([], 60)
def rvOf (s : SnV) : RV := ⟨s.A, s.m, s.c⟩
def restR (S : List SnV) (a e : Nat) : List RV := ((S.take (e + 1)).drop (a + 1)).map rvOf
theorem restR_l (S : List SnV) (a e : Nat) : (restR S a e).map (·.l) = restM (pureS S) a e := by
  unfold restR restM pureS rvOf
  rw [← List.map_take, ← List.map_drop, List.map_map, List.map_map]
  rfl
/-- The maps up to below k. -/
def accR (S : List SnV) (a k : Nat) : List RV := ((S.take k).drop (a + 1)).map rvOf
theorem accR_less (S : List SnV) (a k : Nat) (h : k ≤ a + 1) : accR S a k = [] := by
  unfold accR
  rw [List.drop_of_length_le (by rw [List.length_take]; omega)]
  rfl
theorem accR_next (S : List SnV) (a k : Nat) (hk : k < S.length) (h : a < k) : accR S a (k + 1) = accR S a k ++ [rvOf S[k]] := by
  unfold accR
  rw [List.take_succ_eq_append_getElem hk, List.drop_append_of_le_length (by rw [List.length_take]; omega), List.map_append]
  rfl
theorem accR_end (S : List SnV) (a k : Nat) (h : S.length ≤ k) : accR S a S.length = accR S a k := by
  unfold accR
  rw [List.take_of_length_le h, List.take_of_length_le (Nat.le_refl _)]
theorem accR_len (S : List SnV) (a k : Nat) : (accR S a k).length ≤ S.length := by
  unfold accR
  rw [List.length_map, List.length_drop, List.length_take]
  omega
theorem accR_mem {S : List SnV} {a k : Nat} {r : RV} (h : r ∈ accR S a k) : ∃ s ∈ S, r = rvOf s := by
  unfold accR at h
  obtain ⟨s, hs, rfl⟩ := List.mem_map.1 h
  exact ⟨s, List.mem_of_mem_take (List.mem_of_mem_drop hs), rfl⟩

theorem infoRv : (Try.prog.info? 24).map (fun i => (i.zero, i.size, i.bytes)) = some (some (.slice none 0 0), 1, 24) := by kernel_rfl
def cR (s : RV) : Value := .slice s.A s.l.length s.c
/-- A row of maps, of the call's own. -/
def OwnR (w : World) (base : Nat) (v : Value) (L : List RV) : Prop := w.ownsRow base 24 1 v L.length (L.map cR)
theorem OwnR.nil {w : World} {base : Nat} : OwnR w base (.slice none 0 0) [] := World.ownsRow_nil _ _ _ _
theorem OwnR.form {w : World} {base : Nat} {v : Value} {L : List RV} (h : OwnR w base v L) : ∃ A c, v = .slice A L.length c ∧ L.length ≤ c ∧ c ≤ maxLen := own_form h
theorem OwnR.below {w w' : World} {base : Nat} {v : Value} {L : List RV} (h : OwnR w base v L) (hb : Below w.heap.size w w') : OwnR w' base v L := own_below h hb
theorem OwnR.rd {w : World} {base n c : Nat} {A : Option Addr} {L : List RV} (h : OwnR w base (.slice A n c) L) : RdL w (fun b => base ≤ b) 1 rowC A L := by
  intro hn
  have hr := Rd.of_own (w := w) (A := A) (n := L.length) (c := c) (xs := L.map cR) (base := base) (e := 24) (size := 1) (by
    obtain ⟨A', c', e, _⟩ := h.form
    injection e with _ e2 _
    subst e2
    exact h)
  obtain ⟨ad, e, hb, hc⟩ := hr.2 hn
  refine ⟨ad, e, hb.1, fun i s hs j v hv => ?_⟩
  have hj : j = 0 := by
    have := (List.getElem?_eq_some_iff.1 hv).1
    simp [rowC] at this
    exact this
  subst hj
  have hv' : v = cR s := by simp [rowC] at hv; exact hv.symm
  subst hv'
  rw [Nat.mul_one, Nat.add_zero]
  exact hc i _ (by rw [List.getElem?_map, hs]; rfl)
theorem rd_newR (w : World) (s : RV) : Rd (w.alloc (.cells #[cR s] 24)) (· = w.heap.size) 1 (some ⟨w.heap.size, 0, none⟩) 1 [cR s] := by
  refine ⟨rfl, fun _ => ⟨_, rfl, rfl, ?_⟩⟩
  exact cell_one_new w (cR s) _
section
variable {w : World} {ops : Array Oper} {rest : List Oper} {o : Oper} {a : Act} {Q : Exit → Act → World → Prop}
theorem wpList_appR (hgd : o.guard = none) (s x : Operand) (ho : o.op = .call { callee := .builtin .append, args := #[s, x], argTypes := #[73, 73] })
    (base : Nat) (v : Value) (L : List RV) (hs : a.eval s = v) (hown : OwnR w base v L)
    (D : Nat → Prop) (A : Option Addr) (c : Nat) (u : RV) (hx : a.eval x = .slice A 1 c) (hr : Rd w D 1 A 1 [cR u])
    (hlen : L.length ≤ 1000000) (hbase : base ≤ w.heap.size)
    (h : ∀ v' w', OwnR w' base v' (L ++ [u]) → Ext w w' v v' → wpList Try.prog ops Q rest (a.put o.dst v') w') :
    wpList Try.prog ops Q (o :: rest) a w := by
  refine wpList_plain hgd fun _ hK => wp_app s x _ ho base 24 (.slice none 0 0) 1 24 Try.underlying73 infoRv rfl (by decide) v _ _ hs hown D A _ c _ hx hr ?_ ?_ ?_ hbase fun v' w' h2 h3 h4 => hK _ _ (h v' w' ?_ ⟨h3, h4.imp id fun e k hk => by rw [e] at hk; injection hk with hk; omega⟩)
  · intro z hz
    obtain rfl : z = cR u := by simpa using hz
    rfl
  · unfold maxLen; omega
  · omega
  · unfold OwnR
    rw [List.length_append, List.map_append]
    exact h2
end
end Go.Proofs.Ytpgfhbkggchliaa
