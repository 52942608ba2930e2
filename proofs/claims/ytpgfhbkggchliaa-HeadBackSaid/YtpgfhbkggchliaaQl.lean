/- Parts of the proof, joined: HdP HdQ HdR. -/
import Derived.Test.YtpgfhbkggchliaaQk
import Derived.Laws.OwnMore
/- A head with one snapshot more: the document. -/
namespace Go.Proofs.Ytpgfhbkggchliaa
open Go.RowKit
set_option linter.unusedVariables false

theorem hd_of6 {w : World} {B : Nat} {u n o size last seq : Int} {MA SA : Option Addr} {m : List Int} {mc sc : Nat} {S : List SnV} {D D' : Nat → Prop} (hm : RdI w D MA m) (lm : m.length ≤ mc) (mm : mc ≤ 9223372036854775807) (hS : OwnSn w B (.slice SA S.length sc) S)
    (l : S.length ≤ sc) (k : sc ≤ maxLen) (hs : ∀ s ∈ S, SnR w D' s) : HdR w (fun _ => True) ⟨u, n, o, size, MA, m, mc, SA, S, sc, last, seq⟩ :=
  ⟨Rd.imp hm (fun _ _ _ => trivial) (by decide), lm, mm, (hS.rd).imp snC_pos fun _ _ _ => trivial, l, by unfold maxLen at k; exact k, fun s h => (hs s h).imp fun _ _ _ => trivial⟩
theorem HdR.old {w : World} {D : Nat → Prop} {h : HdV} (k : HdR w D h) : HdR w (· < w.heap.size) h := by
  obtain ⟨h1, h2, h3, h4, h5, h6, h7⟩ := k
  refine ⟨Rd.imp h1 (fun b hb _ => hb) (by decide), h2, h3, h4.imp snC_pos fun b hb _ => hb, h5, h6, fun s hs => (h7 s hs).imp fun b hb _ => hb⟩

set_option maxHeartbeats 8000000 in
set_option maxRecDepth 100000 in
theorem rSnap_any6 (D : Nat → Prop) (h : HdV) (w : World) (hr : HdR w D h) :
    Calls Try.prog 29 #[hdV h] w fun e w' => ∃ h' : HdV, e = .returned (.tuple #[hdV h', .int .i64 (snapP h.p).2.1, .int .i64 (snapP h.p).2.2]) ∧ h'.p = (snapP h.p).1 ∧ HdR w' (fun _ => True) h' ∧ Below w.heap.size w w' := by
  have hr := hr.old
  have b1 := below_new w (.cells (hdA h) 27)
  have hB := Blk.new w 27 (hdA h)
  have s1 : (w.alloc (.cells (hdA h) 27)).heap.size = w.heap.size + 1 := Array.size_push ..
  have b2 := below_new (w.alloc (.cells (hdA h) 27)) (.cells hzA 27)
  have hQ := Blk.new (w.alloc (.cells (hdA h) 27)) 27 hzA
  have s2 : ((w.alloc (.cells (hdA h) 27)).alloc (.cells hzA 27)).heap.size = w.heap.size + 1 + 1 := by rw [← s1]; exact Array.size_push ..
  rw [s1] at hQ
  have hB := hB.below b2
  have bb := b1.thenB' b2
  have hr0 := (hr.below b1).below b2
  clear b1 b2 s1
  have hmp := may_p h
  have hck := rMay_any _ h _ hr0
  generalize hw0 : (w.alloc (.cells (hdA h) 27)).alloc (.cells hzA 27) = w0 at *
  have hs0 : w.heap.size + 2 ≤ w0.heap.size := by omega
  clear s2 hr
  cases hmay : mayH h
  focus
    have E : Hid (snapP h.p = (zeroP, 0, 60)) := by unfold Hid snapP; rw [← hmp, hmay]; rfl
    rw [hmay] at hck
    clear hmay hmp hr0
    obtain ⟨u, n, o, hz, MA, m, mc, A, L, sc, la, sq⟩ := h
    unfold hdV at *
    unfold hdA hzA at *
    dsimp only at *
    go_enter Try.func29, Try.ntmps29
    go_wp2_with first
      | (with_reducible show wpList _ _ _ _ _ _
         refine wpList_load_row rfl 27 (.tmp 1) rfl w.heap.size rfl 27 _ (0, 0) _ hB Try.underlying27 rfl infoH ?_)
    refine hck.mono ?_
    rintro e w2 ⟨rfl, b2⟩
    have hQ := hQ.below b2
    go_wp2_with first
      | (with_reducible show wpList _ _ _ _ _ _
         refine wpList_rowB rfl 27 (.tmp 2) (.tmp 11) rfl (w.heap.size + 1) 27 _ hzA rfl rfl hQ infoH rfl hzA_ok ?_
         intro w4 hq4 m4)
    (try simp only [Exit.inBlock, Exit.then])
    refine bodyPost_ret (results_cell_tmp2 rfl _ _ (w.heap.size + 1) _ _ (0, 0) _ rfl hq4 Try.underlying27 rfl infoH) rfl ?_
    rw [E.out]
    have bb := bb.thenB' b2
    exact ⟨zeroH, rfl, rfl, freshH_rd 0 0 0 0 _ _, bb.thenM m4 bb.size (fun i hi e => by omega)⟩
  have hbd := mayP_bd (hmp ▸ hmay)
  have E0 : snapP h.p = if 4 ≤ h.p.S.length ∨ 100 ≤ h.p.last then (zeroP, 0, 110) else ({ h.p with last := h.p.last + 1, S := h.p.S ++ [(h.p.last + 1, h.p.size, h.p.m)], m := freshO h.p.m }, h.p.last + 1, 0) := by unfold snapP; rw [← hmp, hmay]; rfl
  have E0 := Lib.hid E0
  rw [hmay] at hck
  clear hmay hmp
  have hSbd : h.S.length ≤ 4 := by have := hbd.four; unfold HdV.p at this; rw [pure_len] at this; exact this
  obtain ⟨p9, p10⟩ := hbd.last
  clear hbd
  have hhd : hdV h = .agg (hdA h) := rfl
  obtain ⟨u, n, o, hz, MA, m, mc, A, L, sc, la, sq⟩ := h
  unfold hdV at *
  unfold hdA hzA HdV.p at *
  dsimp only at *
  have E : Hid (snapP ⟨u, n, o, hz, m, pureS L, la, sq⟩ = if 4 ≤ L.length ∨ 100 ≤ la then (zeroP, 0, 110) else (⟨u, n, o, hz, freshO m, pureS L ++ [(la + 1, hz, m)], la + 1, sq⟩, la + 1, 0)) := by
    unfold Hid
    rw [E0.out, pure_len]
  clear E0
  go_enter Try.func29, Try.ntmps29
  go_wp2_with first
    | (with_reducible show wpList _ _ _ _ _ _
       refine wpList_load_row rfl 27 (.tmp 1) rfl w.heap.size rfl 27 _ (0, 0) _ hB Try.underlying27 rfl infoH ?_)
  refine hck.mono ?_
  clear hck hw0
  rintro e w2 ⟨rfl, b2⟩
  have hB := hB.below b2
  have hQ := hQ.below b2
  have hr0 := hr0.below b2
  have bb := bb.thenB' b2
  have hs2 : w.heap.size + 2 ≤ w2.heap.size := by have := b2.size; omega
  clear b2
  have c5 := hB.cell 5
  have c6 := hB.cell 6
  simp at c5 c6
  by_cases h4 : (4 : Int) ≤ (L.length : Int)
  focus
    have F : Hid (snapP ⟨u, n, o, hz, m, pureS L, la, sq⟩ = (zeroP, 0, 110)) := by unfold Hid; rw [E.out, if_pos (by omega)]
    clear E
    go_wp2_with first
      | (with_reducible show wpList _ _ _ _ _ _
         refine wpList_rowB rfl 27 (.tmp 2) (.tmp 21) rfl (w.heap.size + 1) 27 _ hzA rfl rfl hQ infoH rfl hzA_ok ?_
         intro w4 hq4 m4)
    (try simp only [Exit.inBlock, Exit.then])
    refine bodyPost_ret (results_cell_tmp2 rfl _ _ (w.heap.size + 1) _ _ (0, 0) _ rfl hq4 Try.underlying27 rfl infoH) rfl ?_
    rw [F.out]
    exact ⟨zeroH, rfl, rfl, freshH_rd 0 0 0 0 _ _, bb.thenM m4 bb.size (fun i hi e => by omega)⟩
  by_cases h5 : (100 : Int) ≤ la
  focus
    have F : Hid (snapP ⟨u, n, o, hz, m, pureS L, la, sq⟩ = (zeroP, 0, 110)) := by unfold Hid; rw [E.out, if_pos (by omega)]
    clear E
    go_wp2_with first
      | (with_reducible show wpList _ _ _ _ _ _
         refine wpList_rowB rfl 27 (.tmp 2) (.tmp 21) rfl (w.heap.size + 1) 27 _ hzA rfl rfl hQ infoH rfl hzA_ok ?_
         intro w4 hq4 m4)
    (try simp only [Exit.inBlock, Exit.then])
    refine bodyPost_ret (results_cell_tmp2 rfl _ _ (w.heap.size + 1) _ _ (0, 0) _ rfl hq4 Try.underlying27 rfl infoH) rfl ?_
    rw [F.out]
    exact ⟨zeroH, rfl, rfl, freshH_rd 0 0 0 0 _ _, bb.thenM m4 bb.size (fun i hi e => by omega)⟩
  have F : Hid (snapP ⟨u, n, o, hz, m, pureS L, la, sq⟩ = (⟨u, n, o, hz, freshO m, pureS L ++ [(la + 1, hz, m)], la + 1, sq⟩, la + 1, 0)) := by unfold Hid; rw [E.out, if_neg (by omega)]
  clear E
  obtain ⟨rm, lm, mm, hS, hl, hm, hrs⟩ := hr0
  dsimp only at rm lm mm hS hl hm hrs
  have hSf := hS.flat
  have hxl : [(⟨la + 1, hz, MA, m, mc⟩ : SnV)].length = 1 := rfl
  have hoN : OwnSn w2 (w.heap.size + 2) (.slice none 0 0) [] := OwnSn.nil
  have hln0 : ([] : List SnV).length + L.length ≤ 1000000 := by simp only [List.length_nil]; omega
  have hln1 : ([] ++ L).length + [(⟨la + 1, hz, MA, m, mc⟩ : SnV)].length ≤ 1000000 := by simp only [List.nil_append, List.length_singleton]; omega
  go_wp2_with first
    | (with_reducible show wpList _ _ _ _ _ _
       refine wpList_fldB rfl 3 (.tmp 25) (.tmp 24) rfl w.heap.size 6 27 _ (.int .i64 (la + 1)) rfl rfl rfl infoI1 hB 8 rfl (by decide) ?_
       intro w5 hB m5
       replace hB : Blk w5 w.heap.size 27 #[.int .i64 u, .int .i64 n, .int .i64 o, .int .i64 hz, .slice MA m.length mc, .slice A L.length sc, .int .i64 (la + 1), .int .i64 sq] := hB
       have hSf5 := hSf.mod m5 (fun b hb e => by omega)
       have rm5 := Rd.mod rm m5 (fun b hb e => by omega)
       have hrs5 := fun s hs => (hrs s hs).mod m5 (fun b hb e => by omega)
       have hQ5 := hQ.mod m5 (by omega)
       have bb5 := bb.thenM m5 bb.size (fun i hi e => by omega)
       have hs5 : w.heap.size + 2 ≤ w5.heap.size := by have := hQ5.lt; omega
       have hoN5 : OwnSn w5 (w.heap.size + 2) (.slice none 0 0) [] := OwnSn.nil
       have c5 := hB.cell 5
       simp at c5)
    | (at_builtin
       refine wpList_appSn rfl (.tmp 26) (.tmp 28) rfl (w.heap.size + 2) (.slice none 0 0) [] L rfl hoN5 _ A L.length sc rfl rfl hSf5 hln0 hs5 ?_
       intro v6 w6 o6 e6
       have b6 : Below w5.heap.size w5 w6 := Ext.of_nil e6
       have hB6 := hB.below b6
       have hs6 : w.heap.size + 2 ≤ w6.heap.size := by have := b6.size; omega
       have bn := below_new w6 (.cells #[.int .i64 (la + 1), .int .i64 hz, .slice MA m.length mc] 52)
       have o6n := o6.below bn
       have rS := rd_newSn w6 ⟨la + 1, hz, MA, m, mc⟩
       rw [← snF_single] at rS
       have hbs6 : w.heap.size + 2 ≤ (w6.alloc (.cells #[.int .i64 (la + 1), .int .i64 hz, .slice MA m.length mc] 52)).heap.size := by have := bn.size; omega
       have c3 := hB6.cell 3
       have c4 := hB6.cell 4
       have c6 := hB6.cell 6
       simp at c3 c4 c6)
    | (at_builtin
       refine wpList_appSn rfl (.tmp 30) (.tmp 38) rfl (w.heap.size + 2) v6 ([] ++ L) [⟨la + 1, hz, MA, m, mc⟩] rfl o6n _ _ 1 1 rfl rfl rS hln1 hbs6 ?_
       intro v7 w7 o7 e7
       have hB7 := (hB6.below bn).ext e7 (fun e => by have := (o6n.lt _ e).1; omega)
       have hQ7 := ((hQ5.below b6).below bn).ext e7 (fun e => by have := (o6n.lt _ e).1; omega))
    | (with_reducible show wpList _ _ _ _ _ _
       refine wpList_fldB rfl 25 (.tmp 41) (.tmp 40) rfl w.heap.size 5 27 _ v7 rfl rfl (own_one o7) infoS1 hB7 8 rfl (by decide) ?_
       intro w8 hB8 m8
       replace hB8 : Blk w8 w.heap.size 27 #[.int .i64 u, .int .i64 n, .int .i64 o, .int .i64 hz, .slice MA m.length mc, v7, .int .i64 (la + 1), .int .i64 sq] := hB8
       have d4 := hB8.cell 4
       simp at d4)
  have hv6 : ∀ b, v6.ownBlock = some b → w.heap.size + 2 ≤ b := fun b hb => (o6n.lt b hb).1
  have hv7 : ∀ b, v7.ownBlock = some b → w.heap.size + 2 ≤ b := fun b hb => (o7.lt b hb).1
  have bb7 := ((bb5.thenB' b6).thenB' bn).trans (e7.below o6n (Nat.le_trans (by omega) (Nat.le_refl (w.heap.size + 2))) (by have := bb5.size; have := b6.size; have := bn.size; omega))
  have rm7 : RdI w7 (· < w.heap.size) MA m := Rd.keep (RdI.below (RdI.below rm5 b6) bn) (fun b hb hd => e7.grown.block b hb (fun e => by have := hv6 b e.symm; omega))
  have hrs7 : ∀ s ∈ L, SnR w7 (· < w.heap.size) s := fun s hs => ⟨Rd.keep (((hrs5 s hs).below b6).below bn).1 (fun b hb hd => e7.grown.block b hb (fun e => by have := hv6 b e.symm; omega)), (hrs s hs).2⟩
  have rm8 := Rd.mod rm7 m8 (fun b hb e => by omega)
  have sn8 : ∀ s ∈ [] ++ L ++ [(⟨la + 1, hz, MA, m, mc⟩ : SnV)], SnR w8 (· < w.heap.size) s := fun s hs => by
    rcases List.mem_append.1 hs with hs | hs
    · exact (hrs7 s (by simpa using hs)).mod m8 (fun b hb e => by omega)
    · obtain rfl : s = ⟨la + 1, hz, MA, m, mc⟩ := by simpa using hs
      exact ⟨rm8, lm, mm⟩
  have o8 := o7.mod m8 (fun b hb e => by have := hv7 b hb; omega)
  have hQ8 := hQ7.mod m8 (by omega)
  have bb8 := bb7.thenM m8 bb7.size (fun i hi e => by omega)
  have hs8 : w.heap.size + 2 ≤ w8.heap.size := by have := m8.size; have := e7.grown.size; have := bn.size; omega
  have hone := own_one o7
  have hF := rFresh_any _ MA mc m w8 rm8 lm mm
  clear hB hB7 hQ hQ5 hQ7 bb bb5 bb7 rm7 hrs7 o7 e7 m8 m5 bn rS hbs6 c3 c4 c5 c6 o6 e6 b6 hB6 o6n hSf hSf5 rm5 hrs5 hrs hS hoN hoN5
  generalize hfm : freshO m = fm at *
  refine hF.mono ?_
  clear hF
  rintro e w9 ⟨A9, c9, rfl, r9, l9, k9, b9⟩
  have hB9 := hB8.below b9
  go_wp2_with first
    | (with_reducible show wpList _ _ _ _ _ _
       refine wpList_fldB rfl 24 (.tmp 45) (.tmp 44) rfl w.heap.size 4 27 _ (.slice A9 fm.length c9) rfl rfl rfl infoM1 hB9 8 rfl (by decide) ?_
       intro w10 hBz m10
       replace hBz : Blk w10 w.heap.size 27 #[.int .i64 u, .int .i64 n, .int .i64 o, .int .i64 hz, .slice A9 fm.length c9, v7, .int .i64 (la + 1), .int .i64 sq] := hBz)
  have rm9 : RdI w10 (fun b => w.heap.size + 2 ≤ b) A9 fm := Rd.mod (Rd.imp r9.rd (D' := fun b => w.heap.size + 2 ≤ b) (fun b _ hb => Nat.le_trans hs8 hb) (by decide)) m10 (fun b hb e => by omega)
  have sn9 := fun s hs => ((sn8 s hs).below b9).mod m10 (fun b hb e => by omega)
  have o9 := (o8.below b9).mod m10 (fun b hb e => by have := hv7 b hb; omega)
  have hQ9 := (hQ8.below b9).mod m10 (by omega)
  have bb9 := (bb8.thenB' b9).thenM m10 (bb8.thenB' b9).size (fun i hi e => by omega)
  clear rm8 sn8 o8 hQ8 bb8 b9 m10 hB8 hB9 r9 d4
  have hq12 : ¬ w.heap.size = w.heap.size + 1 := by omega
  refine r_start (R := RG (w.heap.size + 1)) (by rfl) (n := 6) (L := #[false, false, false, false, false, false]) rfl rfl ?_
  have bd : Below w10.heap.size w10 w10.drew := (Below.refl _ _).drew
  have hBz := hBz.below bd
  have hQ9 := hQ9.below bd
  have rm9 := rm9.below bd
  have sn9 := fun s hs => (sn9 s hs).below bd
  have o9 := o9.below bd
  have bb9 := bb9.thenB' bd
  clear bd
  generalize w10.drew = wd at *
  have hall := all8 (a := .int .i64 u) (b := .int .i64 n) (c := .int .i64 o) (d := .int .i64 hz) (e := .slice A9 fm.length c9) (f := v7) (g := .int .i64 (la + 1)) (i := .int .i64 sq) rfl rfl rfl rfl rfl hone rfl rfl
  refine r_flt (RG_refl (w.heap.size + 1)) 0 46 #[true, false, false, false, false, false] (by simp only [List.getElem?_toArray, List.getElem?_cons_zero]; rfl) (by rfl) (by kernel_rfl) (by kernel_rfl) (by kernel_rfl) (fun _ _ _ _ h => h) rfl (by rfl) ?_
  apply Exists.intro
  apply And.intro
  · intro W hW
    exact exec_load_row rfl rfl (hBz.mod hW hq12) Try.underlying27 infoH
  (try simp only [Act.put, List.setIfInBounds_toArray]); (try simp only [List.set_cons_succ]); (try simp only [List.set_cons_zero])
  refine r_flt (RG_refl (w.heap.size + 1)) 1 47 #[true, true, false, false, false, false] (by simp only [List.getElem?_toArray, List.getElem?_cons_succ, List.getElem?_cons_zero]; rfl) (by rfl) (by kernel_rfl) (by kernel_rfl) (by kernel_rfl) (fun _ _ _ _ h => h) rfl (by rfl) ?_
  apply Exists.intro
  apply And.intro
  · intro W hW
    first | (go_simp; with_reducible rfl) | go_simp
  (try simp only [Act.put, List.setIfInBounds_toArray]); (try simp only [List.set_cons_succ]); (try simp only [List.set_cons_zero])
  refine r_flt (RG_refl (w.heap.size + 1)) 2 48 #[true, true, true, false, false, false] (by simp only [List.getElem?_toArray, List.getElem?_cons_succ, List.getElem?_cons_zero]; rfl) (by rfl) (by kernel_rfl) (by kernel_rfl) (by kernel_rfl) (fun _ _ _ _ h => h) rfl (by rfl) ?_
  apply Exists.intro
  apply And.intro
  · intro W hW
    have c := (hBz.mod hW hq12).cell 6
    simp at c
    go_simp; rfl
  (try simp only [Act.put, List.setIfInBounds_toArray]); (try simp only [List.set_cons_succ]); (try simp only [List.set_cons_zero])
  refine r_one (RG_trans (w.heap.size + 1)) 3 (by kernel_rfl) ?_
  refine alt_none #[true, true, true, true, false, false] (by simp only [List.getElem?_toArray, List.getElem?_cons_succ, List.getElem?_cons_zero]; rfl) (by rfl) rfl (by rfl) (exec_store_row (cells := #[.int .i64 u, .int .i64 n, .int .i64 o, .int .i64 hz, .slice A9 fm.length c9, v7, .int .i64 (la + 1), .int .i64 sq]) rfl rfl rfl hQ9 infoH rfl hall) ?_ ?_
  · exact mod_setRow _
  (try simp only [Act.put, List.setIfInBounds_toArray]); (try simp only [List.set_cons_succ]); (try simp only [List.set_cons_zero])
  refine r_flt (RG_refl (w.heap.size + 1)) 4 3 #[true, true, true, true, true, false] (by simp only [List.getElem?_toArray, List.getElem?_cons_succ, List.getElem?_cons_zero]; rfl) (by rfl) (by kernel_rfl) (by kernel_rfl) (by kernel_rfl) (fun _ _ _ _ h => h) rfl (by rfl) ?_
  apply Exists.intro
  apply And.intro
  · intro W hW
    first | (go_simp; with_reducible rfl) | go_simp
  (try simp only [Act.put, List.setIfInBounds_toArray]); (try simp only [List.set_cons_succ]); (try simp only [List.set_cons_zero])
  refine r_flt (RG_refl (w.heap.size + 1)) 5 4 #[true, true, true, true, true, true] (by simp only [List.getElem?_toArray, List.getElem?_cons_succ, List.getElem?_cons_zero]; rfl) (by rfl) (by kernel_rfl) (by kernel_rfl) (by kernel_rfl) (fun _ _ _ _ h => h) rfl (by rfl) ?_
  apply Exists.intro
  apply And.intro
  · intro W hW
    first | (go_simp; with_reducible rfl) | go_simp
  (try simp only [Act.put, List.setIfInBounds_toArray]); (try simp only [List.set_cons_succ]); (try simp only [List.set_cons_zero])
  refine r_done (by kernel_rfl) ?_
  go_wp2_with fail
  (try simp only [Exit.inBlock, Exit.then])
  refine bodyPost_ret (results_cell_tmp2 rfl _ _ (w.heap.size + 1) _ _ (0, 0) _ rfl (setRow_heap _ _ _ _ _ _ hQ9) Try.underlying27 rfl infoH) rfl ?_
  rw [F.out]
  have m11 : Mod (· = w.heap.size + 1) wd (wd.setRow (w.heap.size + 1) #[.int .i64 u, .int .i64 n, .int .i64 o, .int .i64 hz, .slice A9 fm.length c9, v7, .int .i64 (la + 1), .int .i64 sq]) := mod_setRow _
  obtain ⟨A7, k7, rfl, l7, x7⟩ := o9.form
  refine ⟨⟨u, n, o, hz, A9, fm, c9, A7, _, k7, la + 1, sq⟩, rfl, ?_, hd_of6 (Rd.mod rm9 m11 (fun b hb e => by omega)) l9 k9 (o9.mod m11 (fun b hb e => by have := hv7 b hb; omega)) l7 x7 (fun s hs => (sn9 s hs).mod m11 (fun b hb e => by omega)), bb9.thenM m11 bb9.size (fun i hi e => by omega)⟩
  show PH.mk u n o hz fm _ (la + 1) sq = _
  unfold pureS
  rw [List.map_append]
  rfl
end Go.Proofs.Ytpgfhbkggchliaa

/- slices.Delete of one snapshot, in a row of the call's own. -/
namespace Go.Proofs.Ytpgfhbkggchliaa
open Go.RowKit
set_option linter.unusedVariables false

theorem erase_eq {α : Type} (L : List α) (k : Nat) : L.eraseIdx k = L.take k ++ L.drop (k + 1) := List.eraseIdx_eq_take_drop_succ L k
theorem snF_app (a b : List SnV) : snF (a ++ b) = snF a ++ snF b := by unfold snF; rw [List.flatMap_append]
theorem snF_parts (L : List SnV) (k : Nat) : snF (L.take k) ++ snF (L.drop k) = snF L := by rw [← snF_app, List.take_append_drop]
theorem snF_take (L : List SnV) (k : Nat) : snF (L.take k) = (snF L).take (k * 3) := by
  rcases Nat.lt_or_ge k L.length with h | h
  · have hl : (snF (L.take k)).length = k * 3 := by rw [snF_len, List.length_take, Nat.min_eq_left (Nat.le_of_lt h)]
    rw [← snF_parts L k, ← hl, List.take_left]
  · rw [List.take_of_length_le h, List.take_of_length_le (by rw [snF_len]; exact Nat.mul_le_mul_right _ h)]
theorem snF_drop (L : List SnV) (k : Nat) (h : k ≤ L.length) : snF (L.drop k) = (snF L).drop (k * 3) := by
  have hl : (snF (L.take k)).length = k * 3 := by rw [snF_len, List.length_take, Nat.min_eq_left h]
  rw [← snF_parts L k, ← hl, List.drop_left]
/-- The head part of a row of one's own is one. -/
theorem OwnSn.pre {w : World} {base n c : Nat} {A : Option Addr} {L : List SnV} (h : OwnSn w base (.slice A n c) L) {k : Nat} (hk : k ≤ L.length) (hA : A ≠ none) : OwnSn w base (.slice A k c) (L.take k) := by
  have hl : (L.take k).length = k := by rw [List.length_take, Nat.min_eq_left hk]
  refine ⟨by rw [snF_len], ?_⟩
  rcases h.2 with ⟨hv, _⟩ | ⟨g, cap, cur, hv, hg, hh, hnc, hcm, hcs, htake⟩
  · injection hv with e; exact absurd e hA
  · injection hv with e1 e2 e3
    subst e1 e3
    refine .inr ⟨g, _, cur, by rw [hl], hg, hh, by rw [hl]; omega, hcm, hcs, ?_⟩
    rw [hl, snF_take, ← htake, List.take_take, Nat.min_eq_left (Nat.mul_le_mul_right _ hk)]
theorem exec_appSn {ρ : Operand → Value} {o : Oper} {s x : Operand} {w w' : World} {v u v' : Value} (ho : o.op = .call { callee := .builtin .append, args := #[s, x], argTypes := #[25, 25] }) (hs : ρ s = v) (hx : ρ x = u)
    (hrun : (Builtin.append_ #[25, 25] o.type #[v, u]).run Try.prog w = .ok v' w') : (execOp ρ o).run Try.prog w = .ok (.value v') w' := by
  unfold execOp
  simp only [ho, resolve, invoke, builtin, Sem.run_bind, Sem.run_pure, Result.andThen_ok, List.map_toArray, List.map_cons, List.map_nil, hs, hx, hrun]
/-- clear of one snapshot in the row's block. -/
theorem run_clear1 (w : World) (ty : TypeId) (g o c : Nat) (cur : Array Value) (hg : Blk w g 52 cur) (ho : o + 3 ≤ cur.size) :
    ∃ w', (Builtin.clear_ #[25] ty #[.slice (some ⟨g, o, none⟩) 1 c]).run Try.prog w = .ok (.tuple #[]) w' ∧ Mod (· = g) w w' ∧ ∃ cur', Blk w' g 52 cur' ∧ cur'.size = cur.size ∧ cur'.toList.take o = cur.toList.take o := by
  have hz : ∀ w, (zeroValue 52).run Try.prog w = .ok (.agg #[.int .i64 0, .int .i64 0, .slice none 0 0]) w := fun _ => by kernel_rfl
  have hzc : (Builtin.zeroCells (Value.agg #[.int .i64 0, .int .i64 0, .slice none 0 0]).cells 1).toList = [.int .i64 0, .int .i64 0, .slice none 0 0] := by kernel_rfl
  have hst := run_storeCells_at Try.prog g o 52 [.int .i64 0, .int .i64 0, .slice none 0 0] 0 cur w hg (by simpa using ho) (by simp [Value.oneCell'])
  simp only [Nat.add_zero] at hst
  generalize hrow : (cur.toList.take o ++ [Value.int .i64 0, Value.int .i64 0, Value.slice none 0 0] ++ cur.toList.drop (o + [Value.int .i64 0, Value.int .i64 0, Value.slice none 0 0].length)).toArray = row at hst
  refine ⟨w.setRow g row, ?_, mod_setRow row, row, setRow_heap _ _ _ _ _ _ hg, ?_, ?_⟩
  · simp only [Builtin.clear_, List.getElem?_toArray, List.getElem?_cons_zero, run_underlying Try.underlying25, Sem.run_bind, Result.andThen_ok, hz, hzc, hst, Sem.run_pure]
  · rw [← hrow]
    simp only [List.size_toArray, List.length_append, List.length_take, List.length_drop, Array.length_toList, List.length_cons, List.length_nil]
    omega
  · rw [← hrow]
    simp only [List.append_assoc]
    rw [List.take_append_of_le_length (by rw [List.length_take, Array.length_toList]; omega), List.take_take, Nat.min_self]
end Go.Proofs.Ytpgfhbkggchliaa

/- slices.Delete of one snapshot, in a row of the call's own: the walk. -/
namespace Go.Proofs.Ytpgfhbkggchliaa
open Go.RowKit
set_option linter.unusedVariables false

theorem wpList_clearSn {w w' : World} {ops : Array Oper} {rest : List Oper} {o : Oper} {a : Act} {Q : Exit → Act → World → Prop} (hgd : o.guard = none) (x : Operand) (ho : o.op = .call { callee := .builtin .clear, args := #[x], argTypes := #[25] }) (u : Value) (hx : a.eval x = u)
    (hrun : (Builtin.clear_ #[25] o.type #[u]).run Try.prog w = .ok (.tuple #[]) w') (h : wpList Try.prog ops Q rest (a.put o.dst (.tuple #[])) w') : wpList Try.prog ops Q (o :: rest) a w := by
  refine wpList_plain hgd fun _ hK => ?_
  unfold Oper.wp execOp
  simp only [ho, resolve, invoke, builtin, Sem.run_bind, Sem.run_pure, Result.andThen_ok, List.map_toArray, List.map_cons, List.map_nil, hx, hrun]
  exact hK _ _ h
theorem infoSnI : ∃ i, Try.prog.info? 52 = some i ∧ i.size = 3 := by
  have h := infoSn3
  cases hq : Try.prog.info? 52 with
  | none => rw [hq] at h; cases h
  | some i => exact ⟨i, rfl, by rw [hq] at h; simpa using h⟩
/-- append(s[:k], s[k+1:]...): the run. -/
theorem run_shift (w : World) (ty : TypeId) (base g c k n : Nat) (L : List SnV) (h : OwnSn w base (.slice (some ⟨g, 0, none⟩) L.length c) L) (hn : L.length = n + 1) (hk : k ≤ n) :
    ∃ w', (Builtin.append_ #[25, 25] ty #[.slice (some ⟨g, 0, none⟩) k c, .slice (cutA (some ⟨g, 0, none⟩) (k + 1) c 3) (n - k) (c - (k + 1))]).run Try.prog w = .ok (.slice (some ⟨g, 0, none⟩) n c) w' ∧
      OwnSn w' base (.slice (some ⟨g, 0, none⟩) n c) (L.eraseIdx k) ∧ Mod (· = g) w w' := by
  obtain ⟨i, hi, hi3⟩ := infoSnI
  have hc : L.length ≤ c := by
    obtain ⟨A, c', e, h1, _⟩ := h.form
    injection e with _ _ e
    omega
  have hp := h.pre (k := k) (by omega) (by simp)
  have hl : (L.take k).length = k := by rw [List.length_take, Nat.min_eq_left (by omega)]
  have hr := Rd.cut (cap := c) (RdL.flat h.rd) (k := k + 1) (by omega) hc
  have e0 : L.length - (k + 1) = n - k := by omega
  rw [e0] at hr
  obtain ⟨ad, had⟩ : ∃ ad, cutA (some ⟨g, 0, none⟩) (k + 1) c 3 = some ad := by
    unfold cutA
    split
    · exact ⟨_, rfl⟩
    · exact ⟨_, rfl⟩
  rw [had] at hr ⊢
  obtain ⟨w', h1, h2, h3⟩ := run_append_fits (P := Try.prog) w base 25 ty 52 i 3 Try.underlying25 hi hi3 g k c (snF (L.take k)) (by unfold OwnSn at hp; rw [hl] at hp; exact hp) ad (n - k) (c - (k + 1)) ((snF L).drop ((k + 1) * 3))
    hr.1 (fun j u hu => by
      rcases Nat.eq_zero_or_pos (n - k) with h0 | h0
      · have := (List.getElem?_eq_some_iff.1 hu).1
        rw [hr.1, h0] at this
        omega
      · obtain ⟨ad', e, _, hcell⟩ := hr.2 h0
        injection e with e
        subst e
        exact hcell j u hu) (fun u hu => snF_one L u (List.mem_of_mem_drop hu)) (by omega)
  have e1 : k + (n - k) = n := by omega
  have e2 : snF (L.take k) ++ (snF L).drop ((k + 1) * 3) = snF (L.eraseIdx k) := by rw [erase_eq, snF_app, snF_drop L (k + 1) (by omega)]
  have e3 : (L.eraseIdx k).length = n := by rw [List.length_eraseIdx]; rw [if_pos (by omega)]; omega
  rw [e1, e2] at h2
  rw [e1] at h1
  refine ⟨w', h1, by unfold OwnSn; rw [e3]; exact h2, Mod.of_grown h3 fun k hk => .inl (by injection hk with hk; exact hk.symm)⟩

set_option maxHeartbeats 4000000 in
set_option maxRecDepth 100000 in
theorem delete_any (base : Nat) (A : Option Addr) (L : List SnV) (c k : Nat) (w : World) (h : OwnSn w base (.slice A L.length c) L) (hk : k < L.length) (hL : L.length ≤ 1000) :
    Calls Try.prog 60 #[.slice A L.length c, .int .i64 (k : Int), .int .i64 ((k : Int) + 1)] w fun e w' => ∃ n, n + 1 = L.length ∧ e = .returned (.slice A n c) ∧ OwnSn w' base (.slice A n c) (L.eraseIdx k) ∧ Mod (fun b => (Value.slice A L.length c).ownBlock = some b) w w' := by
  obtain ⟨A0, c', e, hc, hcm⟩ := h.form
  injection e with e1 _ e2
  subst e1 e2
  obtain ⟨ad, rfl, -⟩ := h.rd (by omega)
  obtain ⟨g, rfl⟩ : ∃ g, ad = ⟨g, 0, none⟩ := by
    rcases h.2 with ⟨hv, _⟩ | ⟨g, cap, cur, hv, _⟩
    · cases hv
    · injection hv with e
      injection e with e
      exact ⟨g, e⟩
  obtain ⟨n, hn⟩ : ∃ n, L.length = n + 1 := ⟨L.length - 1, by omega⟩
  have HN := Lib.hid hn
  have hkn : k ≤ n := by omega
  have hn1 : n ≤ 1000 := by omega
  have hnc : n + 1 ≤ c := by omega
  have hcm' : c ≤ 9223372036854775807 := by unfold maxLen at hcm; exact hcm
  have i1 : ((k : Int) + 1) ≤ ((n + 1 : Nat) : Int) := by omega
  have i2 : (k : Int) ≤ (k : Int) + 1 := by omega
  have i4 : k ≤ c := by omega
  have i6 : (0 : Int) ≤ (k : Int) + 1 := by omega
  have i3 : ((k : Int) == (k : Int) + 1) = false := by simp; omega
  rw [hn]
  clear hk hL hn hcm hc
  go_enter Try.func60, Try.ntmps60
  go_wp2_with fail
  refine r_start (R := RG g) (by rfl) (n := 8) (L := #[false, false, false, false, false, false, false, false]) rfl rfl ?_
  have bd : Below w.heap.size w w.drew := (Below.refl _ _).drew
  have h := h.below bd
  generalize w.drew = wd at *
  refine r_flt (RG_refl g) 0 20 #[true, false, false, false, false, false, false, false] (by simp only [List.getElem?_toArray, List.getElem?_cons_zero]; rfl) (by rfl) (by kernel_rfl) (by kernel_rfl) (by kernel_rfl) (fun _ _ _ _ h => h) rfl (by rfl) ?_
  apply Exists.intro
  apply And.intro
  · intro W hW
    first | (go_simp; with_reducible rfl) | go_simp
  (try simp only [Act.put, List.setIfInBounds_toArray]); (try simp only [List.set_cons_succ]); (try simp only [List.set_cons_zero])
  refine r_flt (RG_refl g) 1 21 #[true, true, false, false, false, false, false, false] (by simp only [List.getElem?_toArray, List.getElem?_cons_succ, List.getElem?_cons_zero]; rfl) (by rfl) (by kernel_rfl) (by kernel_rfl) (by kernel_rfl) (fun _ _ _ _ h => h) rfl (by rfl) ?_
  apply Exists.intro
  apply And.intro
  · intro W hW
    first | (go_simp; with_reducible rfl) | go_simp
  (try simp only [Act.put, List.setIfInBounds_toArray]); (try simp only [List.set_cons_succ]); (try simp only [List.set_cons_zero])
  refine r_flt (RG_refl g) 2 22 #[true, true, true, false, false, false, false, false] (by simp only [List.getElem?_toArray, List.getElem?_cons_succ, List.getElem?_cons_zero]; rfl) (by rfl) (by kernel_rfl) (by kernel_rfl) (by kernel_rfl) (fun _ _ _ _ h => h) rfl (by rfl) ?_
  apply Exists.intro
  apply And.intro
  · intro W hW
    first | (go_simp; with_reducible rfl) | go_simp
  (try simp only [Act.put, List.setIfInBounds_toArray]); (try simp only [List.set_cons_succ]); (try simp only [List.set_cons_zero])
  refine r_flt (RG_refl g) 3 23 #[true, true, true, true, false, false, false, false] (by simp only [List.getElem?_toArray, List.getElem?_cons_succ, List.getElem?_cons_zero]; rfl) (by rfl) (by kernel_rfl) (by kernel_rfl) (by kernel_rfl) (fun _ _ _ _ h => h) rfl (by rfl) ?_
  apply Exists.intro
  apply And.intro
  · intro W hW
    first | (go_simp; with_reducible rfl) | go_simp
  (try simp only [Act.put, List.setIfInBounds_toArray]); (try simp only [List.set_cons_succ]); (try simp only [List.set_cons_zero])
  refine r_flt (RG_refl g) 4 24 #[true, true, true, true, true, false, false, false] (by simp only [List.getElem?_toArray, List.getElem?_cons_succ, List.getElem?_cons_zero]; rfl) (by rfl) (by kernel_rfl) (by kernel_rfl) (by kernel_rfl) (fun _ _ _ _ h => h) rfl (by rfl) ?_
  apply Exists.intro
  apply And.intro
  · intro W hW
    first | (go_simp; with_reducible rfl) | go_simp
  (try simp only [Act.put, List.setIfInBounds_toArray]); (try simp only [List.set_cons_succ]); (try simp only [List.set_cons_zero])
  refine r_flt (RG_refl g) 5 25 #[true, true, true, true, true, true, false, false] (by simp only [List.getElem?_toArray, List.getElem?_cons_succ, List.getElem?_cons_zero]; rfl) (by rfl) (by kernel_rfl) (by kernel_rfl) (by kernel_rfl) (fun _ _ _ _ h => h) rfl (by rfl) ?_
  apply Exists.intro
  apply And.intro
  · intro W hW
    first | (go_simp; with_reducible rfl) | go_simp
  (try simp only [Act.put, List.setIfInBounds_toArray]); (try simp only [List.set_cons_succ]); (try simp only [List.set_cons_zero])
  refine r_one (RG_trans g) 6 (by kernel_rfl) ?_
  obtain ⟨w2, hrun, o2, m2⟩ := run_shift wd 25 base g c k n L h HN.out hkn
  refine alt_val 26 #[true, true, true, true, true, true, true, false] (by simp only [List.getElem?_toArray, List.getElem?_cons_succ, List.getElem?_cons_zero]; rfl) (by rfl) rfl (by rfl) (exec_appSn rfl rfl rfl hrun) ?_ ?_
  · exact m2
  (try simp only [Act.put, List.setIfInBounds_toArray]); (try simp only [List.set_cons_succ]); (try simp only [List.set_cons_zero])
  refine r_flt (RG_refl g) 7 0 #[true, true, true, true, true, true, true, true] (by simp only [List.getElem?_toArray, List.getElem?_cons_succ, List.getElem?_cons_zero]; rfl) (by rfl) (by kernel_rfl) (by kernel_rfl) (by kernel_rfl) (fun _ _ _ _ h => h) rfl (by rfl) ?_
  apply Exists.intro
  apply And.intro
  · intro W hW
    first | (go_simp; with_reducible rfl) | go_simp
  (try simp only [Act.put, List.setIfInBounds_toArray]); (try simp only [List.set_cons_succ]); (try simp only [List.set_cons_zero])
  refine r_done (by kernel_rfl) ?_
  have hB2 : ∃ cur, Blk w2 g 52 cur ∧ cur.size = c * 3 ∧ cur.toList.take (n * 3) = snF (L.eraseIdx k) := by
    have e3 : (L.eraseIdx k).length = n := by rw [List.length_eraseIdx, if_pos (by have := HN.out; omega)]; have := HN.out; omega
    rcases o2.2 with ⟨hv, _⟩ | ⟨g', cap, cur, hv, _, hg, _, _, hcs, ht⟩
    · cases hv
    · injection hv with ea _ ec
      injection ea with ea
      injection ea with ea _ _
      subst ea ec
      rw [e3] at ht
      exact ⟨cur, hg, hcs, ht⟩
  obtain ⟨cur, hB2, hcs, hct⟩ := hB2
  obtain ⟨w3, hcl, m3, cur3, hB3, hs3, ht3⟩ := run_clear1 w2 0 g (n * 3) (c - n) cur hB2 (by omega)
  have hcut : cutA (some ⟨g, 0, none⟩) n c 3 = some ⟨g, n * 3, none⟩ := by
    unfold cutA
    rw [if_neg (by omega)]
    simp only [Option.map_some, add_head]
  rw [← hcut] at hcl
  have hsub : n + 1 - n = 1 := by omega
  have i5 : (n : Int) ≤ (n : Int) + 1 := by omega
  clear hcut
  have HS3 := Lib.hid hs3
  clear hs3 hct hcs
  go_wp2_with fail
  go_ret
  refine ⟨n, rfl, rfl, ?_, (((Mod.of_below bd (· = g)).trans m2).trans m3).mono fun i _ hi => by rw [hi]; rfl⟩
  refine ⟨by rw [snF_len], ?_⟩
  rcases o2.2 with ⟨hv, _⟩ | ⟨g', cap, cur', hv, hg, hh, hnc', hcm2, hcs', ht⟩
  · cases hv
  · injection hv with ea _ ec
    injection ea with ea
    injection ea with ea _ _
    subst ea ec
    have e3 : (L.eraseIdx k).length = n := by rw [List.length_eraseIdx, if_pos (by have := HN.out; omega)]; have := HN.out; omega
    have ecur : cur = cur' := by
      have := hB2.symm.trans hh
      injection this with this
      injection this
    subst ecur
    refine .inr ⟨g, c, cur3, by rw [e3], hg, hB3, hnc', hcm2, by rw [HS3.out]; exact hcs', ?_⟩
    rw [e3] at ht ⊢
    rw [ht3]
    exact ht
end Go.Proofs.Ytpgfhbkggchliaa
