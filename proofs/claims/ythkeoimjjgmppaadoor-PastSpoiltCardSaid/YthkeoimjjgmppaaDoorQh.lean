/- Parts of the proof, joined: AbH AbI. -/
import Derived.Test.YthkeoimjjgmppaaDoorQg
import Derived.Deep.CutRange
import Derived.Deep.CutBlock
/- An image behind an operation: a discard, a resize. -/
namespace Go.Proofs.YthkeoimjjgmppaaDoor
open Go.RowKit
set_option linter.unusedVariables false
set_option maxRecDepth 100000

set_option maxHeartbeats 8000000 in
set_option maxRecDepth 100000 in
theorem Do_d (D De : Nat → Prop) (i : ImV) (e : E7) (A : Option Addr) (c : Nat) (w : World) (hr : ImR w D i) (hrd : RdB w De A e.data) (hdc : e.data.length ≤ c) (hcm : c ≤ 9223372036854775807) (hm : mayI i.p = true) (hme : mayE e = true) (hk : e.kind = 2) :
    Calls Tryd.prog 30 #[.agg (imA i), enV e A c] w fun x w' => ∃ j : ImV, x = .returned (.tuple #[.agg (imA j), .int .i64 (doP i.p e).2.1, .int .i64 (doP i.p e).2.2]) ∧ j.p = (doP i.p e).1 ∧ OwnIm w' w.heap.size j ∧ Below w.heap.size w w' := by
  obtain ⟨hB, hE, hQ, bb, hs0⟩ := do_pre i e A c w
  have hr0 := hr.below bb
  have hck := Check18_any D i _ hr0
  have hce := fun w => Check_any e A c w
  have hent : ∀ (args : Array Value) (w : World), (callFunc 52 args).run Tryd.prog w = .ok (.enter 52 args) w := Go.Proofs.enters_of Tryd.func52 (by kernel_rfl) rfl
  have hbd := mayI_bd hm
  have hcb := copiesO_bd _ _ _ hbd.2.2.2.2
  have hp := of_decide_eq_true (show decide (mayP e) = true from hme)
  have hown := fun W (hr : ImR W D i) => own18_any D i W hr (by have := hbd.1; show i.p.d.length ≤ 1000; omega) (by have := hbd.2.1; unfold ImV.p at this; rw [pureC_len] at this; omega) (fun s hs => by
    have := (hcb (s.id, s.m) (List.mem_map.2 ⟨s, hs, rfl⟩)).1
    dsimp only at this
    omega)
  have E0 := doP_c hm hme
  rw [hm, show eno true 1 = 0 from rfl] at hck
  rw [hme, show errE true = 0 from rfl] at hce
  clear hm hme hcb
  obtain ⟨sq, ow, kd, off, len, sn, data⟩ := e
  dsimp only at *
  have hl0 : i.p.d.length ≤ 512 := hbd.1
  have hS0 : i.p.S.length ≤ 4 := hbd.2.1
  have hla0 : 0 ≤ i.p.last ∧ i.p.last ≤ 100 := ⟨hbd.2.2.1, hbd.2.2.2.1⟩
  clear hbd
  unfold mayP at hp
  dsimp only at hp
  subst hk
  replace hp : 0 ≤ off ∧ off ≤ 512 ∧ 1 ≤ len ∧ len ≤ 512 := by omega
  obtain ⟨o, rfl⟩ : ∃ o : Nat, off = o := ⟨off.toNat, by omega⟩
  obtain ⟨n, rfl⟩ : ∃ n : Nat, len = n := ⟨len.toNat, by omega⟩
  rw [if_neg (by decide), if_pos rfl, Int.toNat_natCast, Int.toNat_natCast] at E0
  unfold enV at *
  unfold imA enA zI3 at *
  dsimp only at *
  generalize hw0 : ((w.alloc (.cells #[.slice i.DA i.d.length i.dc, .slice i.CA i.S.length i.cc, .int .i64 i.last] 35)).alloc (.cells #[.int .i64 sq, .int .i64 ow, .int .i64 2, .int .i64 (o : Int), .int .i64 (n : Int), .int .i64 sn, .slice A data.length c] 32)).alloc (.cells #[.slice none 0 0, .slice none 0 0, .int .i64 0] 35) = w0 at *
  go_enter Tryd.func30, Tryd.ntmps30
  go_wp2_with first
    | (with_reducible show wpList _ _ _ _ _ _
       refine wpList_load_row rfl 35 (.tmp 2) rfl w.heap.size rfl 35 _ (0, 0) _ hB Tryd.underlying35 rfl infoIm ?_)
  refine hck.mono ?_
  clear hck hw0
  rintro e w2 ⟨rfl, b2⟩
  replace hB := hB.below b2
  replace hE := hE.below b2
  replace hQ := hQ.below b2
  replace hr0 := hr0.below b2
  replace bb := bb.thenB' b2
  have hs2 : w.heap.size + 3 ≤ w2.heap.size := by have := b2.size; omega
  clear b2
  go_wp2_with first
    | (with_reducible show wpList _ _ _ _ _ _
       refine wpList_load_row rfl 32 (.tmp 3) rfl (w.heap.size + 1) rfl 32 _ (0, 0) _ hE Tryd.underlying32 rfl infoEy ?_)
  refine (hce w2).mono ?_
  clear hce
  rintro e w3 ⟨rfl, b3⟩
  replace hB := hB.below b3
  replace hE := hE.below b3
  replace hQ := hQ.below b3
  replace hr0 := hr0.below b3
  replace bb := bb.thenB' b3
  have hs3 : w.heap.size + 3 ≤ w3.heap.size := by have := b3.size; omega
  clear b3
  have hown := hown w3 hr0
  go_wp2_with first
    | (with_reducible show wpList _ _ _ _ _ _
       refine wpList_load_row rfl 35 (.tmp 2) rfl w.heap.size rfl 35 _ (0, 0) _ hB Tryd.underlying35 rfl infoIm ?_)
  refine hown.mono ?_
  clear hown
  rintro e w4 ⟨j, rfl, hjp, hO, b4⟩
  replace hB := hB.below b4
  replace hE := hE.below b4
  replace hQ := hQ.below b4
  replace bb := bb.thenB' b4
  replace hO := hO.low hs3
  have hs4 : w.heap.size + 3 ≤ w4.heap.size := by have := b4.size; omega
  clear b4 hr0
  rw [← hjp] at E0 hl0 hS0 hla0
  obtain ⟨A1, d, dc, C1, S, cc, la⟩ := j
  have HJP : Hid ((⟨d, pureC S, la⟩ : PI) = i.p) := hjp
  clear hjp
  unfold ImV.p at E0 hl0 hS0 hla0
  dsimp only at E0 hl0 hS0 hla0
  dsimp only
  obtain ⟨A9, c9, e1, hdl, hdm⟩ := OwnB.form hO.dat
  injection e1 with e8 e9 e1
  subst e1
  clear e8 e9 A9
  dsimp only at hdl hdm
  unfold maxLen at hdm
  by_cases h1 : (d.length : Int) < (o : Int) + (n : Int)
  focus
    rw [if_pos h1] at E0
    have E := Lib.hid E0
    clear E0
    go_upto_region 8 with first
      | (with_reducible show wpList _ _ _ _ _ _
         refine wpList_rowB rfl 35 (.tmp 2) (.tmp 30) rfl w.heap.size 35 _ (imA ⟨A1, d, dc, C1, S, cc, la⟩) rfl rfl hB infoIm rfl (imA_ok _) ?_
         intro w5 hB5 m5
         replace hB5 : Blk w5 w.heap.size 35 #[.slice A1 d.length dc, .slice C1 S.length cc, .int .i64 la] := hB5
         have hE5 := hE.mod m5 (by omega)
         have c1 := hB5.cell 0
         have c2 := hB5.cell 1
         have c3 := hB5.cell 2
         have k1 := hE5.cell 2
         have k2 := hE5.cell 3
         have k3 := hE5.cell 4
         have k4 := hE5.cell 5
         have k5 := hE5.cell 6
         simp at c1 c2 c3 k1 k2 k3 k4 k5)
    have hQ5 := hQ.mod m5 (by omega)
    replace bb := bb.thenM m5 bb.size (fun i hi e => by omega)
    replace hO := hO.mod m5 (fun i e => by omega)
    have hs5 : w.heap.size + 3 ≤ w5.heap.size := by have := m5.size; omega
    clear hB hE hQ m5 c1 c2 c3 k1 k2 k3 k4 k5
    have c1 := hB5.cell 0
    have c2 := hB5.cell 1
    have c3 := hB5.cell 2
    have k1 := hE5.cell 2
    have k2 := hE5.cell 3
    have k3 := hE5.cell 4
    have k4 := hE5.cell 5
    have k5 := hE5.cell 6
    simp at c1 c2 c3 k1 k2 k3 k4 k5

    go_wp2_with fail
    refine (no18_any _ _).mono ?_
    rintro e w8 ⟨rfl, b8⟩
    have hQ := hQ5.below b8
    have bb := bb.thenB' b8
    unfold zI3
    go_wp2_with first
      | (with_reducible show wpList _ _ _ _ _ _
         refine wpList_rowB rfl 35 (.tmp 4) (.tmp 62) rfl (w.heap.size + 2) 35 _ zI3 rfl rfl hQ infoIm rfl (imA_ok ⟨none, [], 0, none, [], 0, 0⟩) ?_
         intro w4 hq4 m4)
    (try simp only [Exit.inBlock, Exit.then])
    refine bodyPost_ret (results_cell_tmp2 rfl _ _ (w.heap.size + 2) _ _ (0, 0) _ rfl hq4 Tryd.underlying35 rfl infoIm) rfl ?_
    rw [← HJP.out, E.out]
    exact ⟨⟨none, [], 0, none, [], 0, 0⟩, rfl, rfl, OwnIm.zero, bb.thenM m4 bb.size (fun i hi e => by omega)⟩
  rw [if_neg h1] at E0
  have E := Lib.hid E0
  clear E0
  have i1 : (o : Int) + (n : Int) ≤ (dc : Int) := by omega
  have i2 : (o : Int) ≤ (o : Int) + (n : Int) := by omega
  have i3 : (o : Int) ≤ 512 := by omega
  have i4 : (n : Int) ≤ 512 := by omega
  go_upto_region 8 with first
    | (with_reducible show wpList _ _ _ _ _ _
       refine wpList_rowB rfl 35 (.tmp 2) (.tmp 30) rfl w.heap.size 35 _ (imA ⟨A1, d, dc, C1, S, cc, la⟩) rfl rfl hB infoIm rfl (imA_ok _) ?_
       intro w5 hB5 m5
       replace hB5 : Blk w5 w.heap.size 35 #[.slice A1 d.length dc, .slice C1 S.length cc, .int .i64 la] := hB5
       have hE5 := hE.mod m5 (by omega)
       have c1 := hB5.cell 0
       have c2 := hB5.cell 1
       have c3 := hB5.cell 2
       have k1 := hE5.cell 2
       have k2 := hE5.cell 3
       have k3 := hE5.cell 4
       have k4 := hE5.cell 5
       have k5 := hE5.cell 6
       simp at c1 c2 c3 k1 k2 k3 k4 k5)
  have hQ5 := hQ.mod m5 (by omega)
  replace bb := bb.thenM m5 bb.size (fun i hi e => by omega)
  replace hO := hO.mod m5 (fun i e => by omega)
  have hs5 : w.heap.size + 3 ≤ w5.heap.size := by have := m5.size; omega
  clear hB hE hQ m5 c1 c2 c3 k1 k2 k3 k4 k5
  have c1 := hB5.cell 0
  have c2 := hB5.cell 1
  have c3 := hB5.cell 2
  have k1 := hE5.cell 2
  have k2 := hE5.cell 3
  have k3 := hE5.cell 4
  have k4 := hE5.cell 5
  have k5 := hE5.cell 6
  simp at c1 c2 c3 k1 k2 k3 k4 k5
  go_upto_region 15 with fail
  go_upto_region 20 with fail
  go_upto_region 21 with fail
  rw [show o + n - o = n from by omega]
  obtain ⟨w6, hcl, o6, m6⟩ := run_clearB w5 0 (w.heap.size + 3) dc A1 d hO.dat o n (dc - o) (by omega)
  have hl6 := laidO_len d o (List.replicate n 0) (by rw [List.length_replicate]; omega)
  have hob := fun i e => (World.ownsRow.lt hO.dat i e).1
  dsimp only at hob
  clear c1 c2 c3 k1 k2 k3 k4 k5
  go_upto_region 22 with first
    | (with_reducible show wpList _ _ _ _ _ _
       refine wpList_clearD rfl (.tmp 74) rfl _ rfl hcl ?_)
  have hB6 := hB5.mod m6 (fun e => by have := hob _ e; omega)
  have hE6 := hE5.mod m6 (fun e => by have := hob _ e; omega)
  have hQ6 := hQ5.mod m6 (fun e => by have := hob _ e; omega)
  have hO6 := hO.setD m6 _ hl6 o6
  have bb6 := bb.thenM m6 bb.size (fun i hi e => by have := hob i e; omega)
  dsimp only at hO6
  rw [← hl6] at hB6
  clear hcl hB5 hE5 hQ5 hl6 o6 m6 hO
  have c1 := hB6.cell 0
  have c2 := hB6.cell 1
  have c3 := hB6.cell 2
  have k1 := hE6.cell 2
  have k2 := hE6.cell 3
  have k3 := hE6.cell 4
  have k4 := hE6.cell 5
  have k5 := hE6.cell 6
  simp at c1 c2 c3 k1 k2 k3 k4 k5
  go_upto_region 38 with fail
  clear c1 c2 c3 k1 k2 k3 k4 k5
  go_wp2_with first
    | (with_reducible show wpList _ _ _ _ _ _
       refine wpList_load_row rfl 35 (.tmp 2) rfl w.heap.size rfl 35 _ (0, 0) _ hB6 Tryd.underlying35 rfl infoIm ?_)
    | (with_reducible show wpList _ _ _ _ _ _
       refine wpList_rowB rfl 35 (.tmp 4) (.tmp 150) rfl (w.heap.size + 2) 35 _ (imA ⟨A1, laidO d o (List.replicate n 0), dc, C1, S, cc, la⟩) rfl rfl hQ6 infoIm rfl (imA_ok _) ?_
       intro w9 hq9 m9)
  (try simp only [Exit.inBlock, Exit.then])
  refine bodyPost_ret (results_cell_tmp2 rfl _ _ (w.heap.size + 2) _ _ (0, 0) _ rfl hq9 Tryd.underlying35 rfl infoIm) rfl ?_
  rw [← HJP.out, E.out]
  exact ⟨⟨A1, laidO d o (List.replicate n 0), dc, C1, S, cc, la⟩, rfl, rfl, (hO6.mod m9 (fun i e => by omega)).low (by omega), bb6.thenM m9 bb6.size (fun i hi e => by omega)⟩
theorem size_eq (d : List UInt8) (n : Nat) : d.take (List.replicate n (0 : UInt8)).length ++ (List.replicate n (0 : UInt8)).drop d.length = sizeO d n := by
  unfold sizeO
  rw [List.length_replicate, List.drop_replicate]
theorem OwnIm.newD {w w' : World} {B : Nat} {i : ImV} (k : OwnIm w B i) (b : Below w.heap.size w w') (A : Option Addr) (d : List UInt8) (c : Nat) (o : OwnB w' w.heap.size (.slice A d.length c) d) (hB : B ≤ w.heap.size) : OwnIm w' B ⟨A, d, c, i.CA, i.S, i.cc, i.last⟩ := by
  have kb := k.below b
  refine ⟨kb.own, o.low hB, fun j hj e => ?_, fun s hs => (((k.cp s hs).imp (D' := fun b => (B ≤ b ∧ (Value.slice i.CA i.S.length i.cc).ownBlock ≠ some b) ∧ (Value.slice A d.length c).ownBlock ≠ some b) fun j hj hx => ⟨⟨hx.1, hx.2.1⟩, fun e => by have := (World.ownsRow.lt o j e).1; omega⟩).below b).imp fun j _ hx => ⟨hx.1.1, hx.1.2, hx.2⟩⟩
  have h1 := (World.ownsRow.lt k.own j hj).2
  have h2 := (World.ownsRow.lt o j e).1
  omega

set_option maxHeartbeats 8000000 in
set_option maxRecDepth 100000 in
theorem Do_r (D De : Nat → Prop) (i : ImV) (e : E7) (A : Option Addr) (c : Nat) (w : World) (hr : ImR w D i) (hrd : RdB w De A e.data) (hdc : e.data.length ≤ c) (hcm : c ≤ 9223372036854775807) (hm : mayI i.p = true) (hme : mayE e = true) (hk : e.kind = 3) :
    Calls Tryd.prog 30 #[.agg (imA i), enV e A c] w fun x w' => ∃ j : ImV, x = .returned (.tuple #[.agg (imA j), .int .i64 (doP i.p e).2.1, .int .i64 (doP i.p e).2.2]) ∧ j.p = (doP i.p e).1 ∧ OwnIm w' w.heap.size j ∧ Below w.heap.size w w' := by
  obtain ⟨hB, hE, hQ, bb, hs0⟩ := do_pre i e A c w
  have hr0 := hr.below bb
  have hck := Check18_any D i _ hr0
  have hce := fun w => Check_any e A c w
  have hent : ∀ (args : Array Value) (w : World), (callFunc 52 args).run Tryd.prog w = .ok (.enter 52 args) w := Go.Proofs.enters_of Tryd.func52 (by kernel_rfl) rfl
  have hbd := mayI_bd hm
  have hcb := copiesO_bd _ _ _ hbd.2.2.2.2
  have hp := of_decide_eq_true (show decide (mayP e) = true from hme)
  have hown := fun W (hr : ImR W D i) => own18_any D i W hr (by have := hbd.1; show i.p.d.length ≤ 1000; omega) (by have := hbd.2.1; unfold ImV.p at this; rw [pureC_len] at this; omega) (fun s hs => by
    have := (hcb (s.id, s.m) (List.mem_map.2 ⟨s, hs, rfl⟩)).1
    dsimp only at this
    omega)
  have E0 := doP_c hm hme
  rw [hm, show eno true 1 = 0 from rfl] at hck
  rw [hme, show errE true = 0 from rfl] at hce
  clear hm hme hcb
  obtain ⟨sq, ow, kd, off, len, sn, data⟩ := e
  dsimp only at *
  have hl0 : i.p.d.length ≤ 512 := hbd.1
  have hS0 : i.p.S.length ≤ 4 := hbd.2.1
  have hla0 : 0 ≤ i.p.last ∧ i.p.last ≤ 100 := ⟨hbd.2.2.1, hbd.2.2.2.1⟩
  clear hbd
  unfold mayP at hp
  dsimp only at hp
  subst hk
  replace hp : 0 ≤ len ∧ len ≤ 512 := by omega
  obtain ⟨n, rfl⟩ : ∃ n : Nat, len = n := ⟨len.toNat, by omega⟩
  rw [if_neg (by decide), if_neg (by decide), if_pos rfl, Int.toNat_natCast] at E0
  unfold enV at *
  unfold imA enA zI3 at *
  dsimp only at *
  generalize hw0 : ((w.alloc (.cells #[.slice i.DA i.d.length i.dc, .slice i.CA i.S.length i.cc, .int .i64 i.last] 35)).alloc (.cells #[.int .i64 sq, .int .i64 ow, .int .i64 3, .int .i64 off, .int .i64 (n : Int), .int .i64 sn, .slice A data.length c] 32)).alloc (.cells #[.slice none 0 0, .slice none 0 0, .int .i64 0] 35) = w0 at *
  go_enter Tryd.func30, Tryd.ntmps30
  go_wp2_with first
    | (with_reducible show wpList _ _ _ _ _ _
       refine wpList_load_row rfl 35 (.tmp 2) rfl w.heap.size rfl 35 _ (0, 0) _ hB Tryd.underlying35 rfl infoIm ?_)
  refine hck.mono ?_
  clear hck hw0
  rintro e w2 ⟨rfl, b2⟩
  replace hB := hB.below b2
  replace hE := hE.below b2
  replace hQ := hQ.below b2
  replace hr0 := hr0.below b2
  replace bb := bb.thenB' b2
  have hs2 : w.heap.size + 3 ≤ w2.heap.size := by have := b2.size; omega
  clear b2
  go_wp2_with first
    | (with_reducible show wpList _ _ _ _ _ _
       refine wpList_load_row rfl 32 (.tmp 3) rfl (w.heap.size + 1) rfl 32 _ (0, 0) _ hE Tryd.underlying32 rfl infoEy ?_)
  refine (hce w2).mono ?_
  clear hce
  rintro e w3 ⟨rfl, b3⟩
  replace hB := hB.below b3
  replace hE := hE.below b3
  replace hQ := hQ.below b3
  replace hr0 := hr0.below b3
  replace bb := bb.thenB' b3
  have hs3 : w.heap.size + 3 ≤ w3.heap.size := by have := b3.size; omega
  clear b3
  have hown := hown w3 hr0
  go_wp2_with first
    | (with_reducible show wpList _ _ _ _ _ _
       refine wpList_load_row rfl 35 (.tmp 2) rfl w.heap.size rfl 35 _ (0, 0) _ hB Tryd.underlying35 rfl infoIm ?_)
  refine hown.mono ?_
  clear hown
  rintro e w4 ⟨j, rfl, hjp, hO, b4⟩
  replace hB := hB.below b4
  replace hE := hE.below b4
  replace hQ := hQ.below b4
  replace bb := bb.thenB' b4
  replace hO := hO.low hs3
  have hs4 : w.heap.size + 3 ≤ w4.heap.size := by have := b4.size; omega
  clear b4 hr0
  rw [← hjp] at E0 hl0 hS0 hla0
  obtain ⟨A1, d, dc, C1, S, cc, la⟩ := j
  have HJP : Hid ((⟨d, pureC S, la⟩ : PI) = i.p) := hjp
  clear hjp
  unfold ImV.p at E0 hl0 hS0 hla0
  dsimp only at E0 hl0 hS0 hla0
  dsimp only
  obtain ⟨A9, c9, e1, hdl, hdm⟩ := OwnB.form hO.dat
  injection e1 with e8 e9 e1
  subst e1
  clear e8 e9 A9
  dsimp only at hdl hdm
  unfold maxLen at hdm
  have E := Lib.hid E0
  clear E0
  go_upto_region 8 with first
    | (with_reducible show wpList _ _ _ _ _ _
       refine wpList_rowB rfl 35 (.tmp 2) (.tmp 30) rfl w.heap.size 35 _ (imA ⟨A1, d, dc, C1, S, cc, la⟩) rfl rfl hB infoIm rfl (imA_ok _) ?_
       intro w5 hB5 m5
       replace hB5 : Blk w5 w.heap.size 35 #[.slice A1 d.length dc, .slice C1 S.length cc, .int .i64 la] := hB5
       have hE5 := hE.mod m5 (by omega)
       have c1 := hB5.cell 0
       have c2 := hB5.cell 1
       have c3 := hB5.cell 2
       have k1 := hE5.cell 2
       have k2 := hE5.cell 3
       have k3 := hE5.cell 4
       have k4 := hE5.cell 5
       have k5 := hE5.cell 6
       simp at c1 c2 c3 k1 k2 k3 k4 k5)
  have hQ5 := hQ.mod m5 (by omega)
  replace bb := bb.thenM m5 bb.size (fun i hi e => by omega)
  replace hO := hO.mod m5 (fun i e => by omega)
  have hs5 : w.heap.size + 3 ≤ w5.heap.size := by have := m5.size; omega
  clear hB hE hQ m5 c1 c2 c3 k1 k2 k3 k4 k5
  have c1 := hB5.cell 0
  have c2 := hB5.cell 1
  have c3 := hB5.cell 2
  have k1 := hE5.cell 2
  have k2 := hE5.cell 3
  have k3 := hE5.cell 4
  have k4 := hE5.cell 5
  have k5 := hE5.cell 6
  simp at c1 c2 c3 k1 k2 k3 k4 k5
  have rd := hO.dat.rdG
  dsimp only at rd
  go_upto_region 24 with fail
  have hs5' : w.heap.size + 3 ≤ w5.heap.size := hs5
  go_upto_region 25 with first
    | (at_make
       refine wpList_makeB rfl (.tmp 83) (.tmp 83) rfl w5.heap.size n rfl rfl (by unfold big; omega) (Nat.le_refl _) ?_
       intro w6 o6 b6)
  have hB6 := hB5.below b6
  have hE6 := hE5.below b6
  have hQ6 := hQ5.below b6
  have rd6 := rd.below b6
  have g6 := o6.lt
  clear c1 c2 c3 k1 k2 k3 k4 k5
  have c1 := hB6.cell 0
  have c2 := hB6.cell 1
  have c3 := hB6.cell 2
  have k1 := hE6.cell 2
  have k2 := hE6.cell 3
  have k3 := hE6.cell 4
  have k4 := hE6.cell 5
  have k5 := hE6.cell 6
  simp at c1 c2 c3 k1 k2 k3 k4 k5
  go_upto_region 26 with first
    | (with_reducible show wpList _ _ _ _ _ _
       refine wpList_copyB rfl (.tmp 85) (.tmp 87) rfl w5.heap.size (.slice (some ⟨w5.heap.size, 0, none⟩) n n) _ rfl o6 _ A1 d.length dc d rfl rfl rd6 ?_
       intro w7 o7 x7)
  rw [size_eq] at o7
  have b7 : Below w5.heap.size w5 w7 := b6.trans (below_app (Below.refl _ _) o6 x7 (Nat.le_refl _) b6.size)
  clear x7 o6 b6 rd6 hB6 hE6 hQ6 g6
  generalize goInt ((min d.length (List.replicate n (0 : UInt8)).length : Nat) : Int) = u88
  (try simp only [Act.put, List.setIfInBounds_toArray]); (try simp only [List.set_cons_succ]); (try simp only [List.set_cons_zero])
  have hB7 := hB5.below b7
  have hQ7 := hQ5.below b7
  have hO7 := hO.newD b7 (some ⟨w5.heap.size, 0, none⟩) (sizeO d n) n (by rw [sizeO_len]; exact o7) hs5
  have bb7 := bb.thenB' b7
  dsimp only at hO7
  clear o7 b7 hO hB5 hQ5 hE5 bb c1 c2 c3 k1 k2 k3 k4 k5
  go_upto_region 38 with first
    | (with_reducible show wpList _ _ _ _ _ _
       refine wpList_fldB rfl 23 (.tmp 90) (.tmp 89) rfl w.heap.size 0 35 _ (.slice (some ⟨w5.heap.size, 0, none⟩) n n) rfl rfl rfl infoD1 hB7 3 rfl (by decide) ?_
       intro w8 hB8 m8
       replace hB8 : Blk w8 w.heap.size 35 #[.slice (some ⟨w5.heap.size, 0, none⟩) n n, .slice C1 S.length cc, .int .i64 la] := hB8)
  have hQ8 := hQ7.mod m8 (by omega)
  have hO8 := hO7.mod m8 (fun i e => by omega)
  have bb8 := bb7.thenM m8 bb7.size (fun i hi e => by omega)
  rw [show Value.slice (some ⟨w5.heap.size, 0, none⟩) n n = .slice (some ⟨w5.heap.size, 0, none⟩) (sizeO d n).length n from by rw [sizeO_len]] at hB8
  clear hB7 hQ7 hO7 bb7 m8
  go_wp2_with first
    | (with_reducible show wpList _ _ _ _ _ _
       refine wpList_load_row rfl 35 (.tmp 2) rfl w.heap.size rfl 35 _ (0, 0) _ hB8 Tryd.underlying35 rfl infoIm ?_)
    | (with_reducible show wpList _ _ _ _ _ _
       refine wpList_rowB rfl 35 (.tmp 4) (.tmp 150) rfl (w.heap.size + 2) 35 _ (imA ⟨some ⟨w5.heap.size, 0, none⟩, sizeO d n, n, C1, S, cc, la⟩) rfl rfl hQ8 infoIm rfl (imA_ok _) ?_
       intro w9 hq9 m9)
  (try simp only [Exit.inBlock, Exit.then])
  refine bodyPost_ret (results_cell_tmp2 rfl _ _ (w.heap.size + 2) _ _ (0, 0) _ rfl hq9 Tryd.underlying35 rfl infoIm) rfl ?_
  rw [← HJP.out, E.out]
  exact ⟨⟨some ⟨w5.heap.size, 0, none⟩, sizeO d n, n, C1, S, cc, la⟩, rfl, rfl, (hO8.mod m9 (fun i e => by omega)).low (by omega), bb8.thenM m9 bb8.size (fun i hi e => by omega)⟩
end Go.Proofs.YthkeoimjjgmppaaDoor

/- An image behind an operation: a snapshot. -/
namespace Go.Proofs.YthkeoimjjgmppaaDoor
open Go.RowKit
set_option linter.unusedVariables false
set_option maxRecDepth 100000

def RC0 (g : Nat) (a b : World) : Prop := b.cell? ⟨g, 0, none⟩ = a.cell? ⟨g, 0, none⟩
theorem RC0_refl (g : Nat) (w : World) : RC0 g w w := rfl
theorem RC0_trans (g : Nat) (a b c : World) (h : RC0 g a b) (k : RC0 g b c) : RC0 g a c := k.trans h
theorem rd_newCp (w : World) (s : CpV) : Rd (w.alloc (.cells (cpC s).toArray 71)) (· = w.heap.size) 2 (some ⟨w.heap.size, 0, none⟩) 1 (flC cpC [s]) := by
  rw [show flC cpC [s] = cpC s from by unfold flC; simp]
  refine ⟨rfl, fun _ => ⟨_, rfl, rfl, fun j u hu => ?_⟩⟩
  rw [add_head, (Blk.new w 71 (cpC s).toArray).cell]
  simpa using hu
/-- append of one copy: the run. -/
theorem run_appCp (w : World) (base : Nat) (ty : TypeId) (v : Value) (L : List CpV) (h : OwnCp w base v L) (s : CpV) (hlen : L.length ≤ 1000) (hbase : base ≤ w.heap.size) :
    ∃ v' w', (Builtin.append_ #[33, 33] ty #[v, .slice (some ⟨w.heap.size, 0, none⟩) 1 1]).run Tryd.prog (w.alloc (.cells #[.int .i64 s.id, .slice s.A s.m.length s.c] 71)) = .ok v' w' ∧ OwnCp w' base v' (L ++ [s]) ∧ Ext (w.alloc (.cells #[.int .i64 s.id, .slice s.A s.m.length s.c] 71)) w' v v' := by
  have bn := below_new w (.cells #[.int .i64 s.id, .slice s.A s.m.length s.c] 71)
  have hb := OwnC.below h bn
  obtain ⟨v', w', h1, h2, h3, h4⟩ := run_app (w.alloc (.cells #[.int .i64 s.id, .slice s.A s.m.length s.c] 71)) base 33 ty 71 _ 2 32 Tryd.underlying33 infoCp rfl (by decide) v _ _ hb _ _ 1 1 _ (rd_newCp w s) (flC_one cpC_one [s]) (by unfold maxLen; omega) (by omega) (Nat.le_trans hbase bn.size)
  refine ⟨v', w', h1, ?_, ⟨h3, h4.imp id fun e k hk => by rw [e] at hk; injection hk with hk; omega⟩⟩
  unfold OwnCp OwnC
  rw [List.length_append, flC_app]
  exact h2
theorem OwnIm.app {w w' : World} {B : Nat} {i : ImV} (k : OwnIm w B i) {s : CpV} (hs : CpR w (fun b => B ≤ b ∧ (Value.slice i.CA i.S.length i.cc).ownBlock ≠ some b ∧ (Value.slice i.DA i.d.length i.dc).ownBlock ≠ some b) s)
    {A : Option Addr} {c : Nat} (o : OwnCp w' B (.slice A (i.S ++ [s]).length c) (i.S ++ [s])) (x : Ext w w' (.slice i.CA i.S.length i.cc) (.slice A (i.S ++ [s]).length c)) (la : Int) : OwnIm w' B ⟨i.DA, i.d, i.dc, A, i.S ++ [s], c, la⟩ := by
  have mx : Mod (fun b => (Value.slice i.CA i.S.length i.cc).ownBlock = some b) w w' := Mod.of_grown x.grown fun k hk => .inl hk
  refine ⟨o, OwnB.mod k.dat mx fun j hj hx => k.ne j hx hj, fun b hb e => ?_, fun t ht => ?_⟩
  · rcases x.lies with h | h
    · exact k.ne b (h.symm.trans hb) e
    · have h1 := h b hb
      have h2 := (World.ownsRow.lt k.dat b e).2
      omega
  · have ht' : CpR w (fun b => B ≤ b ∧ (Value.slice i.CA i.S.length i.cc).ownBlock ≠ some b ∧ (Value.slice i.DA i.d.length i.dc).ownBlock ≠ some b) t := by
      rcases List.mem_append.1 ht with ht | ht
      · exact k.cp t ht
      · rw [List.mem_singleton.1 ht]; exact hs
    refine ((ht'.imp (D' := fun b => (B ≤ b ∧ (Value.slice A (i.S ++ [s]).length c).ownBlock ≠ some b ∧ (Value.slice i.DA i.d.length i.dc).ownBlock ≠ some b) ∧ (Value.slice i.CA i.S.length i.cc).ownBlock ≠ some b) fun b hb hx => ⟨⟨hx.1, fun e => ?_, hx.2.2⟩, hx.2.1⟩).mod mx fun b hb hx => hb.2 hx).imp fun b _ hb => hb.1
    rcases x.lies with h | h
    · exact hx.2.1 (h.symm.trans e)
    · have h1 := h b e
      omega

set_option maxHeartbeats 8000000 in
set_option maxRecDepth 100000 in
theorem Do_s (D De : Nat → Prop) (i : ImV) (e : E7) (A : Option Addr) (c : Nat) (w : World) (hr : ImR w D i) (hrd : RdB w De A e.data) (hdc : e.data.length ≤ c) (hcm : c ≤ 9223372036854775807) (hm : mayI i.p = true) (hme : mayE e = true) (hk : e.kind = 4) :
    Calls Tryd.prog 30 #[.agg (imA i), enV e A c] w fun x w' => ∃ j : ImV, x = .returned (.tuple #[.agg (imA j), .int .i64 (doP i.p e).2.1, .int .i64 (doP i.p e).2.2]) ∧ j.p = (doP i.p e).1 ∧ OwnIm w' w.heap.size j ∧ Below w.heap.size w w' := by
  obtain ⟨hB, hE, hQ, bb, hs0⟩ := do_pre i e A c w
  have hr0 := hr.below bb
  have hck := Check18_any D i _ hr0
  have hce := fun w => Check_any e A c w
  have hent : ∀ (args : Array Value) (w : World), (callFunc 52 args).run Tryd.prog w = .ok (.enter 52 args) w := Go.Proofs.enters_of Tryd.func52 (by kernel_rfl) rfl
  have hbd := mayI_bd hm
  have hcb := copiesO_bd _ _ _ hbd.2.2.2.2
  have hp := of_decide_eq_true (show decide (mayP e) = true from hme)
  have hown := fun W (hr : ImR W D i) => own18_any D i W hr (by have := hbd.1; show i.p.d.length ≤ 1000; omega) (by have := hbd.2.1; unfold ImV.p at this; rw [pureC_len] at this; omega) (fun s hs => by
    have := (hcb (s.id, s.m) (List.mem_map.2 ⟨s, hs, rfl⟩)).1
    dsimp only at this
    omega)
  have E0 := doP_c hm hme
  rw [hm, show eno true 1 = 0 from rfl] at hck
  rw [hme, show errE true = 0 from rfl] at hce
  clear hm hme hcb
  obtain ⟨sq, ow, kd, off, len, sn, data⟩ := e
  dsimp only at *
  have hl0 : i.p.d.length ≤ 512 := hbd.1
  have hS0 : i.p.S.length ≤ 4 := hbd.2.1
  have hla0 : 0 ≤ i.p.last ∧ i.p.last ≤ 100 := ⟨hbd.2.2.1, hbd.2.2.2.1⟩
  clear hbd
  unfold mayP at hp
  dsimp only at hp
  subst hk
  clear hp
  rw [if_neg (by decide), if_neg (by decide), if_neg (by decide), if_pos rfl] at E0
  unfold enV at *
  unfold imA enA zI3 at *
  dsimp only at *
  generalize hw0 : ((w.alloc (.cells #[.slice i.DA i.d.length i.dc, .slice i.CA i.S.length i.cc, .int .i64 i.last] 35)).alloc (.cells #[.int .i64 sq, .int .i64 ow, .int .i64 4, .int .i64 off, .int .i64 len, .int .i64 sn, .slice A data.length c] 32)).alloc (.cells #[.slice none 0 0, .slice none 0 0, .int .i64 0] 35) = w0 at *
  go_enter Tryd.func30, Tryd.ntmps30
  go_wp2_with first
    | (with_reducible show wpList _ _ _ _ _ _
       refine wpList_load_row rfl 35 (.tmp 2) rfl w.heap.size rfl 35 _ (0, 0) _ hB Tryd.underlying35 rfl infoIm ?_)
  refine hck.mono ?_
  clear hck hw0
  rintro e w2 ⟨rfl, b2⟩
  replace hB := hB.below b2
  replace hE := hE.below b2
  replace hQ := hQ.below b2
  replace hr0 := hr0.below b2
  replace bb := bb.thenB' b2
  have hs2 : w.heap.size + 3 ≤ w2.heap.size := by have := b2.size; omega
  clear b2
  go_wp2_with first
    | (with_reducible show wpList _ _ _ _ _ _
       refine wpList_load_row rfl 32 (.tmp 3) rfl (w.heap.size + 1) rfl 32 _ (0, 0) _ hE Tryd.underlying32 rfl infoEy ?_)
  refine (hce w2).mono ?_
  clear hce
  rintro e w3 ⟨rfl, b3⟩
  replace hB := hB.below b3
  replace hE := hE.below b3
  replace hQ := hQ.below b3
  replace hr0 := hr0.below b3
  replace bb := bb.thenB' b3
  have hs3 : w.heap.size + 3 ≤ w3.heap.size := by have := b3.size; omega
  clear b3
  have hown := hown w3 hr0
  go_wp2_with first
    | (with_reducible show wpList _ _ _ _ _ _
       refine wpList_load_row rfl 35 (.tmp 2) rfl w.heap.size rfl 35 _ (0, 0) _ hB Tryd.underlying35 rfl infoIm ?_)
  refine hown.mono ?_
  clear hown
  rintro e w4 ⟨j, rfl, hjp, hO, b4⟩
  replace hB := hB.below b4
  replace hE := hE.below b4
  replace hQ := hQ.below b4
  replace bb := bb.thenB' b4
  replace hO := hO.low hs3
  have hs4 : w.heap.size + 3 ≤ w4.heap.size := by have := b4.size; omega
  clear b4 hr0
  rw [← hjp] at E0 hl0 hS0 hla0
  obtain ⟨A1, d, dc, C1, S, cc, la⟩ := j
  have HJP : Hid ((⟨d, pureC S, la⟩ : PI) = i.p) := hjp
  clear hjp
  unfold ImV.p at E0 hl0 hS0 hla0
  dsimp only at E0 hl0 hS0 hla0
  dsimp only
  obtain ⟨A9, c9, e1, hdl, hdm⟩ := OwnB.form hO.dat
  injection e1 with e8 e9 e1
  subst e1
  clear e8 e9 A9
  dsimp only at hdl hdm
  unfold maxLen at hdm
  rw [pureC_len] at E0 hS0
  by_cases h1 : 4 ≤ S.length ∨ 100 ≤ la
  focus
    rw [if_pos h1] at E0
    have E := Lib.hid E0
    clear E0
    have hfin : ∀ (b1 b2 : Bool), b1 = decide ((4 : Int) ≤ (S.length : Int)) → b2 = decide ((100 : Int) ≤ la) → (b1 = true ∨ b2 = true) := by
      rintro _ _ rfl rfl
      rcases h1 with h1 | h1
      · left; simp; omega
      · right; simp; exact h1
    by_cases h2 : (4 : Int) ≤ (S.length : Int)
    focus
      clear h1 hfin
      go_upto_region 8 with first
        | (with_reducible show wpList _ _ _ _ _ _
           refine wpList_rowB rfl 35 (.tmp 2) (.tmp 30) rfl w.heap.size 35 _ (imA ⟨A1, d, dc, C1, S, cc, la⟩) rfl rfl hB infoIm rfl (imA_ok _) ?_
           intro w5 hB5 m5
           replace hB5 : Blk w5 w.heap.size 35 #[.slice A1 d.length dc, .slice C1 S.length cc, .int .i64 la] := hB5
           have hE5 := hE.mod m5 (by omega)
           have c1 := hB5.cell 0
           have c2 := hB5.cell 1
           have c3 := hB5.cell 2
           have k1 := hE5.cell 2
           have k2 := hE5.cell 3
           have k3 := hE5.cell 4
           have k4 := hE5.cell 5
           have k5 := hE5.cell 6
           simp at c1 c2 c3 k1 k2 k3 k4 k5)
      have hQ5 := hQ.mod m5 (by omega)
      replace bb := bb.thenM m5 bb.size (fun i hi e => by omega)
      replace hO := hO.mod m5 (fun i e => by omega)
      have hs5 : w.heap.size + 3 ≤ w5.heap.size := by have := m5.size; omega
      clear hB hE hQ m5 c1 c2 c3 k1 k2 k3 k4 k5
      have c1 := hB5.cell 0
      have c2 := hB5.cell 1
      have c3 := hB5.cell 2
      have k1 := hE5.cell 2
      have k2 := hE5.cell 3
      have k3 := hE5.cell 4
      have k4 := hE5.cell 5
      have k5 := hE5.cell 6
      simp at c1 c2 c3 k1 k2 k3 k4 k5

      go_wp2_with fail
      refine (no18_any _ _).mono ?_
      rintro e w8 ⟨rfl, b8⟩
      have hQ := hQ5.below b8
      have bb := bb.thenB' b8
      unfold zI3
      go_wp2_with first
        | (with_reducible show wpList _ _ _ _ _ _
           refine wpList_rowB rfl 35 (.tmp 4) (.tmp 102) rfl (w.heap.size + 2) 35 _ zI3 rfl rfl hQ infoIm rfl (imA_ok ⟨none, [], 0, none, [], 0, 0⟩) ?_
           intro w4 hq4 m4)
      (try simp only [Exit.inBlock, Exit.then])
      refine bodyPost_ret (results_cell_tmp2 rfl _ _ (w.heap.size + 2) _ _ (0, 0) _ rfl hq4 Tryd.underlying35 rfl infoIm) rfl ?_
      rw [← HJP.out, E.out]
      exact ⟨⟨none, [], 0, none, [], 0, 0⟩, rfl, rfl, OwnIm.zero, bb.thenM m4 bb.size (fun i hi e => by omega)⟩
    have h3 : (100 : Int) ≤ la := by omega
    clear h1 hfin
    go_upto_region 8 with first
      | (with_reducible show wpList _ _ _ _ _ _
         refine wpList_rowB rfl 35 (.tmp 2) (.tmp 30) rfl w.heap.size 35 _ (imA ⟨A1, d, dc, C1, S, cc, la⟩) rfl rfl hB infoIm rfl (imA_ok _) ?_
         intro w5 hB5 m5
         replace hB5 : Blk w5 w.heap.size 35 #[.slice A1 d.length dc, .slice C1 S.length cc, .int .i64 la] := hB5
         have hE5 := hE.mod m5 (by omega)
         have c1 := hB5.cell 0
         have c2 := hB5.cell 1
         have c3 := hB5.cell 2
         have k1 := hE5.cell 2
         have k2 := hE5.cell 3
         have k3 := hE5.cell 4
         have k4 := hE5.cell 5
         have k5 := hE5.cell 6
         simp at c1 c2 c3 k1 k2 k3 k4 k5)
    have hQ5 := hQ.mod m5 (by omega)
    replace bb := bb.thenM m5 bb.size (fun i hi e => by omega)
    replace hO := hO.mod m5 (fun i e => by omega)
    have hs5 : w.heap.size + 3 ≤ w5.heap.size := by have := m5.size; omega
    clear hB hE hQ m5 c1 c2 c3 k1 k2 k3 k4 k5
    have c1 := hB5.cell 0
    have c2 := hB5.cell 1
    have c3 := hB5.cell 2
    have k1 := hE5.cell 2
    have k2 := hE5.cell 3
    have k3 := hE5.cell 4
    have k4 := hE5.cell 5
    have k5 := hE5.cell 6
    simp at c1 c2 c3 k1 k2 k3 k4 k5

    go_wp2_with fail
    refine (no18_any _ _).mono ?_
    rintro e w8 ⟨rfl, b8⟩
    have hQ := hQ5.below b8
    have bb := bb.thenB' b8
    unfold zI3
    go_wp2_with first
      | (with_reducible show wpList _ _ _ _ _ _
         refine wpList_rowB rfl 35 (.tmp 4) (.tmp 102) rfl (w.heap.size + 2) 35 _ zI3 rfl rfl hQ infoIm rfl (imA_ok ⟨none, [], 0, none, [], 0, 0⟩) ?_
         intro w4 hq4 m4)
    (try simp only [Exit.inBlock, Exit.then])
    refine bodyPost_ret (results_cell_tmp2 rfl _ _ (w.heap.size + 2) _ _ (0, 0) _ rfl hq4 Tryd.underlying35 rfl infoIm) rfl ?_
    rw [← HJP.out, E.out]
    exact ⟨⟨none, [], 0, none, [], 0, 0⟩, rfl, rfl, OwnIm.zero, bb.thenM m4 bb.size (fun i hi e => by omega)⟩
  rw [if_neg h1] at E0
  have E := Lib.hid E0
  clear E0
  have h2 : ¬ (4 : Int) ≤ (S.length : Int) := by omega
  have h3 : ¬ (100 : Int) ≤ la := by omega
  have h4 : 0 ≤ la := hla0.1
  have hS4 : S.length ≤ 4 := hS0
  clear h1
  go_upto_region 8 with first
    | (with_reducible show wpList _ _ _ _ _ _
       refine wpList_rowB rfl 35 (.tmp 2) (.tmp 30) rfl w.heap.size 35 _ (imA ⟨A1, d, dc, C1, S, cc, la⟩) rfl rfl hB infoIm rfl (imA_ok _) ?_
       intro w5 hB5 m5
       replace hB5 : Blk w5 w.heap.size 35 #[.slice A1 d.length dc, .slice C1 S.length cc, .int .i64 la] := hB5
       have hE5 := hE.mod m5 (by omega)
       have c1 := hB5.cell 0
       have c2 := hB5.cell 1
       have c3 := hB5.cell 2
       have k1 := hE5.cell 2
       have k2 := hE5.cell 3
       have k3 := hE5.cell 4
       have k4 := hE5.cell 5
       have k5 := hE5.cell 6
       simp at c1 c2 c3 k1 k2 k3 k4 k5)
  have hQ5 := hQ.mod m5 (by omega)
  replace bb := bb.thenM m5 bb.size (fun i hi e => by omega)
  replace hO := hO.mod m5 (fun i e => by omega)
  have hs5 : w.heap.size + 3 ≤ w5.heap.size := by have := m5.size; omega
  clear hB hE hQ m5 c1 c2 c3 k1 k2 k3 k4 k5
  have c1 := hB5.cell 0
  have c2 := hB5.cell 1
  have c3 := hB5.cell 2
  have k1 := hE5.cell 2
  have k2 := hE5.cell 3
  have k3 := hE5.cell 4
  have k4 := hE5.cell 5
  have k5 := hE5.cell 6
  simp at c1 c2 c3 k1 k2 k3 k4 k5
  go_upto_region 29 with fail
  go_upto_region 31 with first
    | (with_reducible show wpList _ _ _ _ _ _
       refine wpList_fldB rfl 3 (.tmp 108) (.tmp 107) rfl w.heap.size 2 35 _ (.int .i64 (la + 1)) rfl rfl rfl infoN1 hB5 3 rfl (by decide) ?_
       intro w6 hB6 m6
       replace hB6 : Blk w6 w.heap.size 35 #[.slice A1 d.length dc, .slice C1 S.length cc, .int .i64 (la + 1)] := hB6
       have c9 := hB6.cell 2
       simp at c9)
  have hQ6 := hQ5.mod m6 (by omega)
  have hO6 := hO.mod m6 (fun i e => by omega)
  have bb6 := bb.thenM m6 bb.size (fun i hi e => by omega)
  have hs6 : w.heap.size + 3 ≤ w6.heap.size := by have := m6.size; omega
  clear hB5 hQ5 hE5 hO bb m6 c1 c2 c3 k1 k2 k3 k4 k5 c9 hent hdl hs0 hs2 hs3 hs4 hs5
  refine r_start (R := RC0 w.heap.size) (by rfl) (n := 11) (L := #[false, false, false, false, false, false, false, false, false, false, false]) rfl rfl ?_
  have bd : Below w6.heap.size w6 w6.drew := (Below.refl _ _).drew
  have hB6 := hB6.below bd
  have hQ6 := hQ6.below bd
  have hO6 := hO6.below bd
  have bb6 := bb6.thenB' bd
  have hs6 : w.heap.size + 3 ≤ w6.drew.heap.size := Nat.le_trans hs6 bd.size
  clear bd
  generalize w6.drew = wd at *
  have c1 := hB6.cell 0
  have c2 := hB6.cell 1
  simp at c1 c2
  have rd := hO6.dat.rdG
  dsimp only at rd
  refine r_flt (RC0_refl w.heap.size) 0 111 #[true, false, false, false, false, false, false, false, false, false, false] (by simp only [List.getElem?_toArray, List.getElem?_cons_zero]; rfl) (by rfl) (by kernel_rfl) (by kernel_rfl) (by kernel_rfl) (fun _ _ _ _ h => h) rfl (by rfl) ?_
  apply Exists.intro
  apply And.intro
  · intro W hW
    first | (go_simp; with_reducible rfl) | go_simp
  (try simp only [Act.put, List.setIfInBounds_toArray]); (try simp only [List.set_cons_succ]); (try simp only [List.set_cons_zero])
  refine r_flt (RC0_refl w.heap.size) 2 113 #[true, false, true, false, false, false, false, false, false, false, false] (by simp only [List.getElem?_toArray, List.getElem?_cons_succ, List.getElem?_cons_zero]; rfl) (by rfl) (by kernel_rfl) (by kernel_rfl) (by kernel_rfl) (fun _ _ _ _ h => h) rfl (by rfl) ?_
  apply Exists.intro
  apply And.intro
  · intro W hW
    first | (go_simp; with_reducible rfl) | go_simp
  (try simp only [Act.put, List.setIfInBounds_toArray]); (try simp only [List.set_cons_succ]); (try simp only [List.set_cons_zero])
  refine r_flt (RC0_refl w.heap.size) 3 114 #[true, false, true, true, false, false, false, false, false, false, false] (by simp only [List.getElem?_toArray, List.getElem?_cons_succ, List.getElem?_cons_zero]; rfl) (by rfl) (by kernel_rfl) (by kernel_rfl) (by kernel_rfl) (fun _ _ _ _ h => h) rfl (by rfl) ?_
  apply Exists.intro
  apply And.intro
  · intro W hW
    first | (go_simp; with_reducible rfl) | go_simp
  (try simp only [Act.put, List.setIfInBounds_toArray]); (try simp only [List.set_cons_succ]); (try simp only [List.set_cons_zero])
  refine r_flt (RC0_refl w.heap.size) 4 115 #[true, false, true, true, true, false, false, false, false, false, false] (by simp only [List.getElem?_toArray, List.getElem?_cons_succ, List.getElem?_cons_zero]; rfl) (by rfl) (by kernel_rfl) (by kernel_rfl) (by kernel_rfl) (fun _ _ _ _ h => h) rfl (by rfl) ?_
  apply Exists.intro
  apply And.intro
  · intro W hW
    have c := hW.trans c1
    go_simp; rfl
  (try simp only [Act.put, List.setIfInBounds_toArray]); (try simp only [List.set_cons_succ]); (try simp only [List.set_cons_zero])
  refine r_two (RC0_trans w.heap.size) 1 5 (by kernel_rfl) ?_ ?_
  ·
    refine alt_val 112 #[true, true, true, true, true, false, false, false, false, false, false] (by simp only [List.getElem?_toArray, List.getElem?_cons_succ, List.getElem?_cons_zero]; rfl) (by rfl) rfl (by rfl) (by go_simp; first | exact ⟨rfl, rfl⟩ | rfl) ?_ ?_
    · exact RC0_refl _ _
    (try simp only [Act.put, List.setIfInBounds_toArray]); (try simp only [List.set_cons_succ]); (try simp only [List.set_cons_zero])
    refine r_one (RC0_trans w.heap.size) 5 (by kernel_rfl) ?_
    refine alt_call 116 #[true, true, true, true, true, true, false, false, false, false, false] (by simp only [List.getElem?_toArray, List.getElem?_cons_succ, List.getElem?_cons_zero]; rfl) (by rfl) rfl (by rfl) (by go_simp; first | exact ⟨rfl, rfl⟩ | rfl) ?_
    with_reducible refine (cloneD_any _ A1 dc d _ rd (by unfold big; omega)).mono ?_
    rintro e' w9 ⟨v9, rfl, o9, b9⟩
    obtain ⟨A9, c9, rfl, lx9, mx9⟩ := o9.form
    have hB9 := hB6.below b9
    refine ⟨_, rfl, (hB9.cell 0).trans (hB6.cell 0).symm, ?_⟩
    have hQ9 := hQ6.below b9
    have hO9 := hO6.below b9
    have bb9 := bb6.thenB' b9
    have hs9 : w.heap.size + 3 ≤ w9.heap.size := Nat.le_trans hs6 b9.size
    have c2 := hB9.cell 1
    simp at c2
    have hk9 := fun b (hb : (Value.slice A9 d.length c9).ownBlock = some b) => (World.ownsRow.lt o9 b hb)
    have hkC := fun b (hb : (Value.slice C1 S.length cc).ownBlock = some b) => (World.ownsRow.lt hO6.own b hb).2
    have hkD := fun b (hb : (Value.slice A1 d.length dc).ownBlock = some b) => (World.ownsRow.lt hO6.dat b hb).2
    have r9 : CpR w9 (fun b => w.heap.size + 3 ≤ b ∧ (Value.slice C1 S.length cc).ownBlock ≠ some b ∧ (Value.slice A1 d.length dc).ownBlock ≠ some b) (⟨la + 1, A9, d, c9⟩ : CpV) :=
      ⟨Rd.imp o9.rdG (fun b _ hb => ⟨Nat.le_trans hs6 hb, fun e => by have := hkC b e; omega, fun e => by have := hkD b e; omega⟩) (by decide), lx9, by unfold maxLen at mx9; exact mx9⟩
    clear hB6 hQ6 hO6 bb6 rd hk9 hkC hkD
    (try simp only [Act.put, List.setIfInBounds_toArray]); (try simp only [List.set_cons_succ]); (try simp only [List.set_cons_zero])
    refine r_flt (RC0_refl w.heap.size) 6 117 #[true, true, true, true, true, true, true, false, false, false, false] (by simp only [List.getElem?_toArray, List.getElem?_cons_succ, List.getElem?_cons_zero]; rfl) (by rfl) (by kernel_rfl) (by kernel_rfl) (by kernel_rfl) (fun _ _ _ _ h => h) rfl (by rfl) ?_
    apply Exists.intro
    apply And.intro
    · intro W hW
      first | (go_simp; with_reducible rfl) | go_simp
    (try simp only [Act.put, List.setIfInBounds_toArray]); (try simp only [List.set_cons_succ]); (try simp only [List.set_cons_zero])
    refine r_one (RC0_trans w.heap.size) 7 (by kernel_rfl) ?_
    refine alt_val 118 #[true, true, true, true, true, true, true, true, false, false, false] (by simp only [List.getElem?_toArray, List.getElem?_cons_succ, List.getElem?_cons_zero]; rfl) (by rfl) rfl (by rfl) (by go_simp; first | exact ⟨rfl, rfl⟩ | rfl) ?_ ?_
    · exact ((hB9.below (below_new _ _)).cell 0).trans (hB9.cell 0).symm
    have bn := below_new w9 (.cells #[.int .i64 (la + 1), .slice A9 d.length c9] 71)
    have c4 := (hB9.below bn).cell 1
    simp at c4
    (try simp only [Act.put, List.setIfInBounds_toArray]); (try simp only [List.set_cons_succ]); (try simp only [List.set_cons_zero])
    refine r_one (RC0_trans w.heap.size) 8 (by kernel_rfl) ?_
    obtain ⟨v2, w10, hrun, o10, x10⟩ := run_appCp w9 (w.heap.size + 3) 33 _ S hO9.own (⟨la + 1, A9, d, c9⟩ : CpV) (by omega) hs9
    dsimp only at hrun o10 x10
    obtain ⟨A2, k2, rfl, l2, m2⟩ := OwnC.form o10
    have hkC := fun b (hb : (Value.slice C1 S.length cc).ownBlock = some b) => (World.ownsRow.lt hO9.own b hb).1
    have hO10 := OwnIm.app (hO9.below bn) (r9.below bn) o10 x10 (la + 1)
    have mx : Mod (fun b => (Value.slice C1 S.length cc).ownBlock = some b) w9 w10 := (Mod.of_below bn _).trans (Mod.of_grown x10.grown fun k hk => .inl hk)
    have hB10 := hB9.mod mx (fun e => by have := hkC _ e; omega)
    have hQ10 := hQ9.mod mx (fun e => by have := hkC _ e; omega)
    have bb10 := bb9.thenM mx bb9.size (fun i hi e => by have := hkC i e; omega)
    dsimp only at hO10
    obtain ⟨n2, hn2⟩ : ∃ n2 : Nat, n2 = (S ++ [(⟨la + 1, A9, d, c9⟩ : CpV)]).length := ⟨_, rfl⟩
    rw [← hn2] at hrun
    have HN2 := Lib.hid hn2
    clear hn2
    have c3 := hB10.cell 1
    have f3 := hB10.frozen 1
    simp at c3
    refine alt_val 119 #[true, true, true, true, true, true, true, true, true, false, false] (by simp only [List.getElem?_toArray, List.getElem?_cons_succ, List.getElem?_cons_zero]; rfl) (by rfl) rfl (by rfl) (exec_appCp rfl rfl rfl hrun) ?_ ?_
    · exact (hB10.cell 0).trans ((hB9.below bn).cell 0).symm
    (try simp only [Act.put, List.setIfInBounds_toArray]); (try simp only [List.set_cons_succ]); (try simp only [List.set_cons_zero])
    refine r_flt (RC0_refl w.heap.size) 9 120 #[true, true, true, true, true, true, true, true, true, true, false] (by simp only [List.getElem?_toArray, List.getElem?_cons_succ, List.getElem?_cons_zero]; rfl) (by rfl) (by kernel_rfl) (by kernel_rfl) (by kernel_rfl) (fun _ _ _ _ h => h) rfl (by rfl) ?_
    apply Exists.intro
    apply And.intro
    · intro W hW
      first | (go_simp; with_reducible rfl) | go_simp
    (try simp only [Act.put, List.setIfInBounds_toArray]); (try simp only [List.set_cons_succ]); (try simp only [List.set_cons_zero])
    refine r_one (RC0_trans w.heap.size) 10 (by kernel_rfl) ?_
    refine alt_none #[true, true, true, true, true, true, true, true, true, true, true] (by simp only [List.getElem?_toArray, List.getElem?_cons_succ, List.getElem?_cons_zero]; rfl) (by rfl) rfl (by rfl) (by go_simp; first | exact ⟨rfl, rfl⟩ | rfl) ?_ ?_
    · exact ((hB10.set_ 1 _).cell 0).trans (hB10.cell 0).symm
    (try simp only [Act.put, List.setIfInBounds_toArray]); (try simp only [List.set_cons_succ]); (try simp only [List.set_cons_zero])
    refine r_done (by kernel_rfl) ?_
    have m11 : Mod (· = w.heap.size) w10 (w10.setCell ⟨w.heap.size, 1, none⟩ (.slice A2 n2 k2)) := (Mod.refl _ _).setG 1 _
    have hB11 := hB10.set_ 1 (.slice A2 n2 k2)
    replace hB11 : Blk (w10.setCell ⟨w.heap.size, 1, none⟩ (.slice A2 n2 k2)) w.heap.size 35 #[.slice A1 d.length dc, .slice A2 n2 k2, .int .i64 (la + 1)] := hB11
    have hQ11 := hQ10.mod m11 (by omega)
    have hO11 := hO10.mod m11 (fun i e => by omega)
    have bb11 := bb10.thenM m11 bb10.size (fun i hi e => by omega)
    generalize w10.setCell ⟨w.heap.size, 1, none⟩ (.slice A2 n2 k2) = w11 at *
    clear hB10 hQ10 hO10 bb10 m11 hrun x10 o10 mx hkC c3 f3 bn c4 c2 c1 hB9 hQ9 hO9 bb9
    rw [HN2.out] at hB11
    generalize hSn : S ++ [(⟨la + 1, A9, d, c9⟩ : CpV)] = Sn at *
    have HSn := Lib.hid hSn
    clear hSn
    go_wp2_with first
      | (with_reducible show wpList _ _ _ _ _ _
         refine wpList_load_row rfl 35 (.tmp 2) rfl w.heap.size rfl 35 _ (0, 0) _ hB11 Tryd.underlying35 rfl infoIm ?_)
      | (with_reducible show wpList _ _ _ _ _ _
         refine wpList_rowB rfl 35 (.tmp 4) (.tmp 150) rfl (w.heap.size + 2) 35 _ (imA ⟨A1, d, dc, A2, Sn, k2, la + 1⟩) rfl rfl hQ11 infoIm rfl (imA_ok _) ?_
         intro w9 hq9 m9)
    (try simp only [Exit.inBlock, Exit.then])
    refine bodyPost_ret (results_cell_tmp2 rfl _ _ (w.heap.size + 2) _ _ (0, 0) _ rfl hq9 Tryd.underlying35 rfl infoIm) rfl ?_
    rw [← HJP.out, E.out]
    exact ⟨⟨A1, d, dc, A2, Sn, k2, la + 1⟩, rfl, by show PI.mk d (pureC Sn) (la + 1) = _; rw [← HSn.out]; unfold pureC; rw [List.map_append]; rfl, (hO11.mod m9 (fun i e => by omega)).low (by omega), bb11.thenM m9 bb11.size (fun i hi e => by omega)⟩
  ·
    refine alt_call 116 #[true, false, true, true, true, true, false, false, false, false, false] (by simp only [List.getElem?_toArray, List.getElem?_cons_succ, List.getElem?_cons_zero]; rfl) (by rfl) rfl (by rfl) (by go_simp; first | exact ⟨rfl, rfl⟩ | rfl) ?_
    with_reducible refine (cloneD_any _ A1 dc d _ rd (by unfold big; omega)).mono ?_
    rintro e' w9 ⟨v9, rfl, o9, b9⟩
    obtain ⟨A9, c9, rfl, lx9, mx9⟩ := o9.form
    have hB9 := hB6.below b9
    refine ⟨_, rfl, (hB9.cell 0).trans (hB6.cell 0).symm, ?_⟩
    have hQ9 := hQ6.below b9
    have hO9 := hO6.below b9
    have bb9 := bb6.thenB' b9
    have hs9 : w.heap.size + 3 ≤ w9.heap.size := Nat.le_trans hs6 b9.size
    have c2 := hB9.cell 1
    simp at c2
    have hk9 := fun b (hb : (Value.slice A9 d.length c9).ownBlock = some b) => (World.ownsRow.lt o9 b hb)
    have hkC := fun b (hb : (Value.slice C1 S.length cc).ownBlock = some b) => (World.ownsRow.lt hO6.own b hb).2
    have hkD := fun b (hb : (Value.slice A1 d.length dc).ownBlock = some b) => (World.ownsRow.lt hO6.dat b hb).2
    have r9 : CpR w9 (fun b => w.heap.size + 3 ≤ b ∧ (Value.slice C1 S.length cc).ownBlock ≠ some b ∧ (Value.slice A1 d.length dc).ownBlock ≠ some b) (⟨la + 1, A9, d, c9⟩ : CpV) :=
      ⟨Rd.imp o9.rdG (fun b _ hb => ⟨Nat.le_trans hs6 hb, fun e => by have := hkC b e; omega, fun e => by have := hkD b e; omega⟩) (by decide), lx9, by unfold maxLen at mx9; exact mx9⟩
    clear hB6 hQ6 hO6 bb6 rd hk9 hkC hkD
    (try simp only [Act.put, List.setIfInBounds_toArray]); (try simp only [List.set_cons_succ]); (try simp only [List.set_cons_zero])
    refine r_flt (RC0_refl w.heap.size) 6 117 #[true, false, true, true, true, true, true, false, false, false, false] (by simp only [List.getElem?_toArray, List.getElem?_cons_succ, List.getElem?_cons_zero]; rfl) (by rfl) (by kernel_rfl) (by kernel_rfl) (by kernel_rfl) (fun _ _ _ _ h => h) rfl (by rfl) ?_
    apply Exists.intro
    apply And.intro
    · intro W hW
      first | (go_simp; with_reducible rfl) | go_simp
    (try simp only [Act.put, List.setIfInBounds_toArray]); (try simp only [List.set_cons_succ]); (try simp only [List.set_cons_zero])
    refine r_two (RC0_trans w.heap.size) 1 7 (by kernel_rfl) ?_ ?_
    ·
      refine alt_val 112 #[true, true, true, true, true, true, true, false, false, false, false] (by simp only [List.getElem?_toArray, List.getElem?_cons_succ, List.getElem?_cons_zero]; rfl) (by rfl) rfl (by rfl) (by go_simp; first | exact ⟨rfl, rfl⟩ | rfl) ?_ ?_
      · exact RC0_refl _ _
      (try simp only [Act.put, List.setIfInBounds_toArray]); (try simp only [List.set_cons_succ]); (try simp only [List.set_cons_zero])
      refine r_one (RC0_trans w.heap.size) 7 (by kernel_rfl) ?_
      refine alt_val 118 #[true, true, true, true, true, true, true, true, false, false, false] (by simp only [List.getElem?_toArray, List.getElem?_cons_succ, List.getElem?_cons_zero]; rfl) (by rfl) rfl (by rfl) (by go_simp; first | exact ⟨rfl, rfl⟩ | rfl) ?_ ?_
      · exact ((hB9.below (below_new _ _)).cell 0).trans (hB9.cell 0).symm
      have bn := below_new w9 (.cells #[.int .i64 (la + 1), .slice A9 d.length c9] 71)
      have c4 := (hB9.below bn).cell 1
      simp at c4
      (try simp only [Act.put, List.setIfInBounds_toArray]); (try simp only [List.set_cons_succ]); (try simp only [List.set_cons_zero])
      refine r_one (RC0_trans w.heap.size) 8 (by kernel_rfl) ?_
      obtain ⟨v2, w10, hrun, o10, x10⟩ := run_appCp w9 (w.heap.size + 3) 33 _ S hO9.own (⟨la + 1, A9, d, c9⟩ : CpV) (by omega) hs9
      dsimp only at hrun o10 x10
      obtain ⟨A2, k2, rfl, l2, m2⟩ := OwnC.form o10
      have hkC := fun b (hb : (Value.slice C1 S.length cc).ownBlock = some b) => (World.ownsRow.lt hO9.own b hb).1
      have hO10 := OwnIm.app (hO9.below bn) (r9.below bn) o10 x10 (la + 1)
      have mx : Mod (fun b => (Value.slice C1 S.length cc).ownBlock = some b) w9 w10 := (Mod.of_below bn _).trans (Mod.of_grown x10.grown fun k hk => .inl hk)
      have hB10 := hB9.mod mx (fun e => by have := hkC _ e; omega)
      have hQ10 := hQ9.mod mx (fun e => by have := hkC _ e; omega)
      have bb10 := bb9.thenM mx bb9.size (fun i hi e => by have := hkC i e; omega)
      dsimp only at hO10
      obtain ⟨n2, hn2⟩ : ∃ n2 : Nat, n2 = (S ++ [(⟨la + 1, A9, d, c9⟩ : CpV)]).length := ⟨_, rfl⟩
      rw [← hn2] at hrun
      have HN2 := Lib.hid hn2
      clear hn2
      have c3 := hB10.cell 1
      have f3 := hB10.frozen 1
      simp at c3
      refine alt_val 119 #[true, true, true, true, true, true, true, true, true, false, false] (by simp only [List.getElem?_toArray, List.getElem?_cons_succ, List.getElem?_cons_zero]; rfl) (by rfl) rfl (by rfl) (exec_appCp rfl rfl rfl hrun) ?_ ?_
      · exact (hB10.cell 0).trans ((hB9.below bn).cell 0).symm
      (try simp only [Act.put, List.setIfInBounds_toArray]); (try simp only [List.set_cons_succ]); (try simp only [List.set_cons_zero])
      refine r_flt (RC0_refl w.heap.size) 9 120 #[true, true, true, true, true, true, true, true, true, true, false] (by simp only [List.getElem?_toArray, List.getElem?_cons_succ, List.getElem?_cons_zero]; rfl) (by rfl) (by kernel_rfl) (by kernel_rfl) (by kernel_rfl) (fun _ _ _ _ h => h) rfl (by rfl) ?_
      apply Exists.intro
      apply And.intro
      · intro W hW
        first | (go_simp; with_reducible rfl) | go_simp
      (try simp only [Act.put, List.setIfInBounds_toArray]); (try simp only [List.set_cons_succ]); (try simp only [List.set_cons_zero])
      refine r_one (RC0_trans w.heap.size) 10 (by kernel_rfl) ?_
      refine alt_none #[true, true, true, true, true, true, true, true, true, true, true] (by simp only [List.getElem?_toArray, List.getElem?_cons_succ, List.getElem?_cons_zero]; rfl) (by rfl) rfl (by rfl) (by go_simp; first | exact ⟨rfl, rfl⟩ | rfl) ?_ ?_
      · exact ((hB10.set_ 1 _).cell 0).trans (hB10.cell 0).symm
      (try simp only [Act.put, List.setIfInBounds_toArray]); (try simp only [List.set_cons_succ]); (try simp only [List.set_cons_zero])
      refine r_done (by kernel_rfl) ?_
      have m11 : Mod (· = w.heap.size) w10 (w10.setCell ⟨w.heap.size, 1, none⟩ (.slice A2 n2 k2)) := (Mod.refl _ _).setG 1 _
      have hB11 := hB10.set_ 1 (.slice A2 n2 k2)
      replace hB11 : Blk (w10.setCell ⟨w.heap.size, 1, none⟩ (.slice A2 n2 k2)) w.heap.size 35 #[.slice A1 d.length dc, .slice A2 n2 k2, .int .i64 (la + 1)] := hB11
      have hQ11 := hQ10.mod m11 (by omega)
      have hO11 := hO10.mod m11 (fun i e => by omega)
      have bb11 := bb10.thenM m11 bb10.size (fun i hi e => by omega)
      generalize w10.setCell ⟨w.heap.size, 1, none⟩ (.slice A2 n2 k2) = w11 at *
      clear hB10 hQ10 hO10 bb10 m11 hrun x10 o10 mx hkC c3 f3 bn c4 c2 c1 hB9 hQ9 hO9 bb9
      rw [HN2.out] at hB11
      generalize hSn : S ++ [(⟨la + 1, A9, d, c9⟩ : CpV)] = Sn at *
      have HSn := Lib.hid hSn
      clear hSn
      go_wp2_with first
        | (with_reducible show wpList _ _ _ _ _ _
           refine wpList_load_row rfl 35 (.tmp 2) rfl w.heap.size rfl 35 _ (0, 0) _ hB11 Tryd.underlying35 rfl infoIm ?_)
        | (with_reducible show wpList _ _ _ _ _ _
           refine wpList_rowB rfl 35 (.tmp 4) (.tmp 150) rfl (w.heap.size + 2) 35 _ (imA ⟨A1, d, dc, A2, Sn, k2, la + 1⟩) rfl rfl hQ11 infoIm rfl (imA_ok _) ?_
           intro w9 hq9 m9)
      (try simp only [Exit.inBlock, Exit.then])
      refine bodyPost_ret (results_cell_tmp2 rfl _ _ (w.heap.size + 2) _ _ (0, 0) _ rfl hq9 Tryd.underlying35 rfl infoIm) rfl ?_
      rw [← HJP.out, E.out]
      exact ⟨⟨A1, d, dc, A2, Sn, k2, la + 1⟩, rfl, by show PI.mk d (pureC Sn) (la + 1) = _; rw [← HSn.out]; unfold pureC; rw [List.map_append]; rfl, (hO11.mod m9 (fun i e => by omega)).low (by omega), bb11.thenM m9 bb11.size (fun i hi e => by omega)⟩
    ·
      refine alt_val 118 #[true, false, true, true, true, true, true, true, false, false, false] (by simp only [List.getElem?_toArray, List.getElem?_cons_succ, List.getElem?_cons_zero]; rfl) (by rfl) rfl (by rfl) (by go_simp; first | exact ⟨rfl, rfl⟩ | rfl) ?_ ?_
      · exact ((hB9.below (below_new _ _)).cell 0).trans (hB9.cell 0).symm
      have bn := below_new w9 (.cells #[.int .i64 (la + 1), .slice A9 d.length c9] 71)
      have c4 := (hB9.below bn).cell 1
      simp at c4
      (try simp only [Act.put, List.setIfInBounds_toArray]); (try simp only [List.set_cons_succ]); (try simp only [List.set_cons_zero])
      refine r_one (RC0_trans w.heap.size) 1 (by kernel_rfl) ?_
      refine alt_val 112 #[true, true, true, true, true, true, true, true, false, false, false] (by simp only [List.getElem?_toArray, List.getElem?_cons_succ, List.getElem?_cons_zero]; rfl) (by rfl) rfl (by rfl) (by go_simp; first | exact ⟨rfl, rfl⟩ | rfl) ?_ ?_
      · exact RC0_refl _ _
      (try simp only [Act.put, List.setIfInBounds_toArray]); (try simp only [List.set_cons_succ]); (try simp only [List.set_cons_zero])
      refine r_one (RC0_trans w.heap.size) 8 (by kernel_rfl) ?_
      obtain ⟨v2, w10, hrun, o10, x10⟩ := run_appCp w9 (w.heap.size + 3) 33 _ S hO9.own (⟨la + 1, A9, d, c9⟩ : CpV) (by omega) hs9
      dsimp only at hrun o10 x10
      obtain ⟨A2, k2, rfl, l2, m2⟩ := OwnC.form o10
      have hkC := fun b (hb : (Value.slice C1 S.length cc).ownBlock = some b) => (World.ownsRow.lt hO9.own b hb).1
      have hO10 := OwnIm.app (hO9.below bn) (r9.below bn) o10 x10 (la + 1)
      have mx : Mod (fun b => (Value.slice C1 S.length cc).ownBlock = some b) w9 w10 := (Mod.of_below bn _).trans (Mod.of_grown x10.grown fun k hk => .inl hk)
      have hB10 := hB9.mod mx (fun e => by have := hkC _ e; omega)
      have hQ10 := hQ9.mod mx (fun e => by have := hkC _ e; omega)
      have bb10 := bb9.thenM mx bb9.size (fun i hi e => by have := hkC i e; omega)
      dsimp only at hO10
      obtain ⟨n2, hn2⟩ : ∃ n2 : Nat, n2 = (S ++ [(⟨la + 1, A9, d, c9⟩ : CpV)]).length := ⟨_, rfl⟩
      rw [← hn2] at hrun
      have HN2 := Lib.hid hn2
      clear hn2
      have c3 := hB10.cell 1
      have f3 := hB10.frozen 1
      simp at c3
      refine alt_val 119 #[true, true, true, true, true, true, true, true, true, false, false] (by simp only [List.getElem?_toArray, List.getElem?_cons_succ, List.getElem?_cons_zero]; rfl) (by rfl) rfl (by rfl) (exec_appCp rfl rfl rfl hrun) ?_ ?_
      · exact (hB10.cell 0).trans ((hB9.below bn).cell 0).symm
      (try simp only [Act.put, List.setIfInBounds_toArray]); (try simp only [List.set_cons_succ]); (try simp only [List.set_cons_zero])
      refine r_flt (RC0_refl w.heap.size) 9 120 #[true, true, true, true, true, true, true, true, true, true, false] (by simp only [List.getElem?_toArray, List.getElem?_cons_succ, List.getElem?_cons_zero]; rfl) (by rfl) (by kernel_rfl) (by kernel_rfl) (by kernel_rfl) (fun _ _ _ _ h => h) rfl (by rfl) ?_
      apply Exists.intro
      apply And.intro
      · intro W hW
        first | (go_simp; with_reducible rfl) | go_simp
      (try simp only [Act.put, List.setIfInBounds_toArray]); (try simp only [List.set_cons_succ]); (try simp only [List.set_cons_zero])
      refine r_one (RC0_trans w.heap.size) 10 (by kernel_rfl) ?_
      refine alt_none #[true, true, true, true, true, true, true, true, true, true, true] (by simp only [List.getElem?_toArray, List.getElem?_cons_succ, List.getElem?_cons_zero]; rfl) (by rfl) rfl (by rfl) (by go_simp; first | exact ⟨rfl, rfl⟩ | rfl) ?_ ?_
      · exact ((hB10.set_ 1 _).cell 0).trans (hB10.cell 0).symm
      (try simp only [Act.put, List.setIfInBounds_toArray]); (try simp only [List.set_cons_succ]); (try simp only [List.set_cons_zero])
      refine r_done (by kernel_rfl) ?_
      have m11 : Mod (· = w.heap.size) w10 (w10.setCell ⟨w.heap.size, 1, none⟩ (.slice A2 n2 k2)) := (Mod.refl _ _).setG 1 _
      have hB11 := hB10.set_ 1 (.slice A2 n2 k2)
      replace hB11 : Blk (w10.setCell ⟨w.heap.size, 1, none⟩ (.slice A2 n2 k2)) w.heap.size 35 #[.slice A1 d.length dc, .slice A2 n2 k2, .int .i64 (la + 1)] := hB11
      have hQ11 := hQ10.mod m11 (by omega)
      have hO11 := hO10.mod m11 (fun i e => by omega)
      have bb11 := bb10.thenM m11 bb10.size (fun i hi e => by omega)
      generalize w10.setCell ⟨w.heap.size, 1, none⟩ (.slice A2 n2 k2) = w11 at *
      clear hB10 hQ10 hO10 bb10 m11 hrun x10 o10 mx hkC c3 f3 bn c4 c2 c1 hB9 hQ9 hO9 bb9
      rw [HN2.out] at hB11
      generalize hSn : S ++ [(⟨la + 1, A9, d, c9⟩ : CpV)] = Sn at *
      have HSn := Lib.hid hSn
      clear hSn
      go_wp2_with first
        | (with_reducible show wpList _ _ _ _ _ _
           refine wpList_load_row rfl 35 (.tmp 2) rfl w.heap.size rfl 35 _ (0, 0) _ hB11 Tryd.underlying35 rfl infoIm ?_)
        | (with_reducible show wpList _ _ _ _ _ _
           refine wpList_rowB rfl 35 (.tmp 4) (.tmp 150) rfl (w.heap.size + 2) 35 _ (imA ⟨A1, d, dc, A2, Sn, k2, la + 1⟩) rfl rfl hQ11 infoIm rfl (imA_ok _) ?_
           intro w9 hq9 m9)
      (try simp only [Exit.inBlock, Exit.then])
      refine bodyPost_ret (results_cell_tmp2 rfl _ _ (w.heap.size + 2) _ _ (0, 0) _ rfl hq9 Tryd.underlying35 rfl infoIm) rfl ?_
      rw [← HJP.out, E.out]
      exact ⟨⟨A1, d, dc, A2, Sn, k2, la + 1⟩, rfl, by show PI.mk d (pureC Sn) (la + 1) = _; rw [← HSn.out]; unfold pureC; rw [List.map_append]; rfl, (hO11.mod m9 (fun i e => by omega)).low (by omega), bb11.thenM m9 bb11.size (fun i hi e => by omega)⟩
end Go.Proofs.YthkeoimjjgmppaaDoor
