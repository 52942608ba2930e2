/- An image behind an operation: a write. -/
import Derived.Test.YtcdodchjgadcoaaAbF
import Derived.Deep.CutRange
import Derived.Deep.CutBlock
namespace Go.Proofs.Ytcdodchjgadcoaa
open Go.RowKit
set_option linter.unusedVariables false
set_option maxRecDepth 100000

theorem OwnIm.setD {w w' : World} {B : Nat} {i : ImV} (k : OwnIm w B i) (m : Mod (fun b => (Value.slice i.DA i.d.length i.dc).ownBlock = some b) w w') (d' : List UInt8) (hl : d'.length = i.d.length) (o : OwnB w' B (.slice i.DA d'.length i.dc) d') : OwnIm w' B ⟨i.DA, d', i.dc, i.CA, i.S, i.cc, i.last⟩ :=
  ⟨OwnC.mod k.own m fun j hj hx => k.ne j hj hx, o, by dsimp only; rw [hl]; exact k.ne, fun s hs => by dsimp only; rw [hl]; exact (k.cp s hs).mod m fun j hj hx => hj.2.2 hx⟩
theorem laidO_over (d x y : List UInt8) (off : Nat) (h : x.length = y.length) (hx : off + x.length ≤ d.length) : laidO (laidO d off y) off x = laidO d off x := by
  unfold laidO
  have h1 : (d.take off).length = off := by rw [List.length_take]; omega
  rw [List.append_assoc, List.append_assoc, List.append_assoc, List.take_left' h1, ← List.append_assoc (d.take off) y, List.drop_left' (by rw [List.length_append, h1, h]), h]

set_option maxHeartbeats 8000000 in
set_option maxRecDepth 100000 in
theorem Do_w (D De : Nat → Prop) (i : ImV) (e : E7) (A : Option Addr) (c : Nat) (w : World) (hr : ImR w D i) (hrd : RdB w De A e.data) (hdc : e.data.length ≤ c) (hcm : c ≤ 9223372036854775807) (hm : mayI i.p = true) (hme : mayE e = true) (hk : e.kind = 1) :
    Calls Try.prog 18 #[.agg (imA i), enV e A c] w fun x w' => ∃ j : ImV, x = .returned (.tuple #[.agg (imA j), .int .i64 (doP i.p e).2.1, .int .i64 (doP i.p e).2.2]) ∧ j.p = (doP i.p e).1 ∧ OwnIm w' w.heap.size j ∧ Below w.heap.size w w' := by
  obtain ⟨hB, hE, hQ, bb, hs0⟩ := do_pre i e A c w
  have hr0 := hr.below bb
  have hck := Check18_any D i _ hr0
  have hce := fun w => Check_any e A c w
  have hent : ∀ (args : Array Value) (w : World), (callFunc 32 args).run Try.prog w = .ok (.enter 32 args) w := Go.Proofs.enters_of Try.func32 (by kernel_rfl) rfl
  have hbd := mayI_bd hm
  have hcb := copiesO_bd _ _ _ hbd.2.2.2.2
  have hp := of_decide_eq_true (show decide (mayP e) = true from hme)
  have hown := fun W (hr : ImR W D i) => own18_any D i W hr (by have := hbd.1; show i.p.d.length ≤ 1000; omega) (by have := hbd.2.1; unfold ImV.p at this; rw [pureC_len] at this; omega) (fun s hs => by
    have := (hcb (s.id, s.m) (List.mem_map.2 ⟨s, hs, rfl⟩)).1
    dsimp only at this
    omega)
  have E0 := doP_c hm hme
  rw [hm, show eno true 1 = 0 from rfl] at hck
  rw [hme, show errE true = 0 from rfl] at hce
  clear hm hme hcb
  obtain ⟨sq, ow, kd, off, len, sn, data⟩ := e
  dsimp only at *
  have hl0 : i.p.d.length ≤ 512 := hbd.1
  have hS0 : i.p.S.length ≤ 4 := hbd.2.1
  have hla0 : 0 ≤ i.p.last ∧ i.p.last ≤ 100 := ⟨hbd.2.2.1, hbd.2.2.2.1⟩
  clear hbd
  unfold mayP at hp
  dsimp only at hp
  subst hk
  replace hp : 0 ≤ off ∧ off ≤ 512 ∧ 1 ≤ data.length ∧ data.length ≤ 128 := by omega
  obtain ⟨o, rfl⟩ : ∃ o : Nat, off = o := ⟨off.toNat, by omega⟩
  rw [if_pos rfl, Int.toNat_natCast] at E0
  unfold enV at *
  unfold imA enA zI3 at *
  dsimp only at *
  generalize hw0 : ((w.alloc (.cells #[.slice i.DA i.d.length i.dc, .slice i.CA i.S.length i.cc, .int .i64 i.last] 25)).alloc (.cells #[.int .i64 sq, .int .i64 ow, .int .i64 1, .int .i64 (o : Int), .int .i64 len, .int .i64 sn, .slice A data.length c] 41)).alloc (.cells #[.slice none 0 0, .slice none 0 0, .int .i64 0] 25) = w0 at *
  go_enter Try.func18, Try.ntmps18
  go_wp2_with first
    | (with_reducible show wpList _ _ _ _ _ _
       refine wpList_load_row rfl 25 (.tmp 2) rfl w.heap.size rfl 25 _ (0, 0) _ hB Try.underlying25 rfl infoIm ?_)
  refine hck.mono ?_
  clear hck hw0
  rintro e w2 ⟨rfl, b2⟩
  replace hB := hB.below b2
  replace hE := hE.below b2
  replace hQ := hQ.below b2
  replace hr0 := hr0.below b2
  replace bb := bb.thenB' b2
  have hs2 : w.heap.size + 3 ≤ w2.heap.size := by have := b2.size; omega
  clear b2
  go_wp2_with first
    | (with_reducible show wpList _ _ _ _ _ _
       refine wpList_load_row rfl 41 (.tmp 3) rfl (w.heap.size + 1) rfl 41 _ (0, 0) _ hE Try.underlying41 rfl infoEy ?_)
  refine (hce w2).mono ?_
  clear hce
  rintro e w3 ⟨rfl, b3⟩
  replace hB := hB.below b3
  replace hE := hE.below b3
  replace hQ := hQ.below b3
  replace hr0 := hr0.below b3
  replace bb := bb.thenB' b3
  have hs3 : w.heap.size + 3 ≤ w3.heap.size := by have := b3.size; omega
  clear b3
  have hown := hown w3 hr0
  go_wp2_with first
    | (with_reducible show wpList _ _ _ _ _ _
       refine wpList_load_row rfl 25 (.tmp 2) rfl w.heap.size rfl 25 _ (0, 0) _ hB Try.underlying25 rfl infoIm ?_)
  refine hown.mono ?_
  clear hown
  rintro e w4 ⟨j, rfl, hjp, hO, b4⟩
  replace hB := hB.below b4
  replace hE := hE.below b4
  replace hQ := hQ.below b4
  replace bb := bb.thenB' b4
  replace hO := hO.low hs3
  have hs4 : w.heap.size + 3 ≤ w4.heap.size := by have := b4.size; omega
  clear b4 hr0
  rw [← hjp] at E0 hl0 hS0 hla0
  obtain ⟨A1, d, dc, C1, S, cc, la⟩ := j
  have HJP : Hid ((⟨d, pureC S, la⟩ : PI) = i.p) := hjp
  clear hjp
  unfold ImV.p at E0 hl0 hS0 hla0
  dsimp only at E0 hl0 hS0 hla0
  dsimp only
  obtain ⟨A9, c9, e1, hdl, hdm⟩ := OwnB.form hO.dat
  injection e1 with e8 e9 e1
  subst e1
  clear e8 e9 A9
  dsimp only at hdl hdm
  unfold maxLen at hdm
  by_cases h1 : (d.length : Int) < (o : Int) + (data.length : Int)
  focus
    rw [if_pos h1] at E0
    have E := Lib.hid E0
    clear E0
    go_upto_region 8 with first
      | (with_reducible show wpList _ _ _ _ _ _
         refine wpList_rowB rfl 25 (.tmp 2) (.tmp 30) rfl w.heap.size 25 _ (imA ⟨A1, d, dc, C1, S, cc, la⟩) rfl rfl hB infoIm rfl (imA_ok _) ?_
         intro w5 hB5 m5
         replace hB5 : Blk w5 w.heap.size 25 #[.slice A1 d.length dc, .slice C1 S.length cc, .int .i64 la] := hB5
         have hE5 := hE.mod m5 (by omega)
         have c1 := hB5.cell 0
         have c2 := hB5.cell 1
         have c3 := hB5.cell 2
         have k1 := hE5.cell 2
         have k2 := hE5.cell 3
         have k3 := hE5.cell 4
         have k4 := hE5.cell 5
         have k5 := hE5.cell 6
         simp at c1 c2 c3 k1 k2 k3 k4 k5)
    have hQ5 := hQ.mod m5 (by omega)
    replace bb := bb.thenM m5 bb.size (fun i hi e => by omega)
    replace hO := hO.mod m5 (fun i e => by omega)
    have hs5 : w.heap.size + 3 ≤ w5.heap.size := by have := m5.size; omega
    clear hB hE hQ m5 c1 c2 c3 k1 k2 k3 k4 k5
    have c1 := hB5.cell 0
    have c2 := hB5.cell 1
    have c3 := hB5.cell 2
    have k1 := hE5.cell 2
    have k2 := hE5.cell 3
    have k3 := hE5.cell 4
    have k4 := hE5.cell 5
    have k5 := hE5.cell 6
    simp at c1 c2 c3 k1 k2 k3 k4 k5

    go_wp2_with fail
    refine (no18_any _ _).mono ?_
    rintro e w8 ⟨rfl, b8⟩
    have hQ := hQ5.below b8
    have bb := bb.thenB' b8
    unfold zI3
    go_wp2_with first
      | (with_reducible show wpList _ _ _ _ _ _
         refine wpList_rowB rfl 25 (.tmp 4) (.tmp 62) rfl (w.heap.size + 2) 25 _ zI3 rfl rfl hQ infoIm rfl (imA_ok ⟨none, [], 0, none, [], 0, 0⟩) ?_
         intro w4 hq4 m4)
    (try simp only [Exit.inBlock, Exit.then])
    refine bodyPost_ret (results_cell_tmp2 rfl _ _ (w.heap.size + 2) _ _ (0, 0) _ rfl hq4 Try.underlying25 rfl infoIm) rfl ?_
    rw [← HJP.out, E.out]
    exact ⟨⟨none, [], 0, none, [], 0, 0⟩, rfl, rfl, OwnIm.zero, bb.thenM m4 bb.size (fun i hi e => by omega)⟩
  rw [if_neg h1] at E0
  have E := Lib.hid E0
  clear E0
  have i1 : (o : Int) + (data.length : Int) ≤ (dc : Int) := by omega
  have i2 : (o : Int) ≤ (o : Int) + (data.length : Int) := by omega
  have i3 : (o : Int) ≤ 512 := by omega
  have i4 : (data.length : Int) ≤ 128 := by omega
  go_upto_region 8 with first
    | (with_reducible show wpList _ _ _ _ _ _
       refine wpList_rowB rfl 25 (.tmp 2) (.tmp 30) rfl w.heap.size 25 _ (imA ⟨A1, d, dc, C1, S, cc, la⟩) rfl rfl hB infoIm rfl (imA_ok _) ?_
       intro w5 hB5 m5
       replace hB5 : Blk w5 w.heap.size 25 #[.slice A1 d.length dc, .slice C1 S.length cc, .int .i64 la] := hB5
       have hE5 := hE.mod m5 (by omega)
       have c1 := hB5.cell 0
       have c2 := hB5.cell 1
       have c3 := hB5.cell 2
       have k1 := hE5.cell 2
       have k2 := hE5.cell 3
       have k3 := hE5.cell 4
       have k4 := hE5.cell 5
       have k5 := hE5.cell 6
       simp at c1 c2 c3 k1 k2 k3 k4 k5)
  have hQ5 := hQ.mod m5 (by omega)
  replace bb := bb.thenM m5 bb.size (fun i hi e => by omega)
  replace hO := hO.mod m5 (fun i e => by omega)
  have hs5 : w.heap.size + 3 ≤ w5.heap.size := by have := m5.size; omega
  clear hB hE hQ m5 c1 c2 c3 k1 k2 k3 k4 k5
  have c1 := hB5.cell 0
  have c2 := hB5.cell 1
  have c3 := hB5.cell 2
  have k1 := hE5.cell 2
  have k2 := hE5.cell 3
  have k3 := hE5.cell 4
  have k4 := hE5.cell 5
  have k5 := hE5.cell 6
  simp at c1 c2 c3 k1 k2 k3 k4 k5
  go_upto_region 15 with fail
  go_upto_region 20 with fail
  go_upto_region 21 with fail
  rw [show o + data.length - o = data.length from by omega]
  obtain ⟨w6, hcl, o6, m6⟩ := run_clearB w5 0 (w.heap.size + 3) dc A1 d hO.dat o data.length (dc - o) (by omega)
  have hl6 := laidO_len d o (List.replicate data.length 0) (by rw [List.length_replicate]; omega)
  have hob := fun i e => (World.ownsRow.lt hO.dat i e).1
  dsimp only at hob
  clear c1 c2 c3 k1 k2 k3 k4 k5
  go_upto_region 22 with first
    | (with_reducible show wpList _ _ _ _ _ _
       refine wpList_clearD rfl (.tmp 74) rfl _ rfl hcl ?_)
  have hB6 := hB5.mod m6 (fun e => by have := hob _ e; omega)
  have hE6 := hE5.mod m6 (fun e => by have := hob _ e; omega)
  have hQ6 := hQ5.mod m6 (fun e => by have := hob _ e; omega)
  have hO6 := hO.setD m6 _ hl6 o6
  have bb6 := bb.thenM m6 bb.size (fun i hi e => by have := hob i e; omega)
  dsimp only at hO6
  clear hcl hB5 hE5 hQ5
  obtain ⟨w7, hcp, o7, m7⟩ := run_copyB w6 3 (w.heap.size + 3) dc A1 _ o6 o (dc - o) De A c data (hrd.below bb6) (by rw [hl6]; omega)
  have hl7 := laidO_len _ o data (by rw [hl6]; omega)
  have hO7 := hO6.setD m7 _ hl7 o7
  have hob6 := fun i e => (World.ownsRow.lt o6 i e).1
  have hB7 := hB6.mod m7 (fun e => by have := hob6 _ e; omega)
  have hQ7 := hQ6.mod m7 (fun e => by have := hob6 _ e; omega)
  have bb7 := bb6.thenM m7 bb6.size (fun i hi e => by have := hob6 i e; omega)
  dsimp only at hO7
  have hlo := laidO_over d data (List.replicate data.length 0) o (by rw [List.length_replicate]) (by omega)
  rw [hlo] at hO7 hl7
  have hl8 : (laidO d o data).length = d.length := by rw [hl7, hl6]
  rw [← hl8] at hB7
  clear hl8 hlo hl7 hl6 o7 m7 m6 o6 hO hO6
  have c1 := hB6.cell 0
  have c2 := hB6.cell 1
  have c3 := hB6.cell 2
  have k1 := hE6.cell 2
  have k2 := hE6.cell 3
  have k3 := hE6.cell 4
  have k4 := hE6.cell 5
  have k5 := hE6.cell 6
  simp at c1 c2 c3 k1 k2 k3 k4 k5
  go_upto_region 23 with fail
  clear c1 c2 c3 k1 k2 k3 k4
  go_wp2_with first
    | (with_reducible show wpList _ _ _ _ _ _
       refine wpList_copyD rfl (.tmp 78) (.tmp 80) rfl _ _ _ rfl rfl hcp ?_)
    | (with_reducible show wpList _ _ _ _ _ _
       refine wpList_load_row rfl 25 (.tmp 2) rfl w.heap.size rfl 25 _ (0, 0) _ hB7 Try.underlying25 rfl infoIm ?_)
    | (with_reducible show wpList _ _ _ _ _ _
       refine wpList_rowB rfl 25 (.tmp 4) (.tmp 150) rfl (w.heap.size + 2) 25 _ (imA ⟨A1, laidO d o data, dc, C1, S, cc, la⟩) rfl rfl hQ7 infoIm rfl (imA_ok _) ?_
       intro w9 hq9 m9)
  (try simp only [Exit.inBlock, Exit.then])
  refine bodyPost_ret (results_cell_tmp2 rfl _ _ (w.heap.size + 2) _ _ (0, 0) _ rfl hq9 Try.underlying25 rfl infoIm) rfl ?_
  rw [← HJP.out, E.out]
  exact ⟨⟨A1, laidO d o data, dc, C1, S, cc, la⟩, rfl, rfl, (hO7.mod m9 (fun i e => by omega)).low (by omega), bb7.thenM m9 bb7.size (fun i hi e => by omega)⟩
end Go.Proofs.Ytcdodchjgadcoaa
