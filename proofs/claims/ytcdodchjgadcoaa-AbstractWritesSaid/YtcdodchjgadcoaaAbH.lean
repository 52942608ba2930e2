/- An image behind an operation: a discard, a resize. -/
import Derived.Test.YtcdodchjgadcoaaAbG
import Derived.Deep.CutRange
import Derived.Deep.CutBlock
namespace Go.Proofs.Ytcdodchjgadcoaa
open Go.RowKit
set_option linter.unusedVariables false
set_option maxRecDepth 100000

set_option maxHeartbeats 8000000 in
set_option maxRecDepth 100000 in
theorem Do_d (D De : Nat → Prop) (i : ImV) (e : E7) (A : Option Addr) (c : Nat) (w : World) (hr : ImR w D i) (hrd : RdB w De A e.data) (hdc : e.data.length ≤ c) (hcm : c ≤ 9223372036854775807) (hm : mayI i.p = true) (hme : mayE e = true) (hk : e.kind = 2) :
    Calls Try.prog 18 #[.agg (imA i), enV e A c] w fun x w' => ∃ j : ImV, x = .returned (.tuple #[.agg (imA j), .int .i64 (doP i.p e).2.1, .int .i64 (doP i.p e).2.2]) ∧ j.p = (doP i.p e).1 ∧ OwnIm w' w.heap.size j ∧ Below w.heap.size w w' := by
  obtain ⟨hB, hE, hQ, bb, hs0⟩ := do_pre i e A c w
  have hr0 := hr.below bb
  have hck := Check18_any D i _ hr0
  have hce := fun w => Check_any e A c w
  have hent : ∀ (args : Array Value) (w : World), (callFunc 32 args).run Try.prog w = .ok (.enter 32 args) w := Go.Proofs.enters_of Try.func32 (by kernel_rfl) rfl
  have hbd := mayI_bd hm
  have hcb := copiesO_bd _ _ _ hbd.2.2.2.2
  have hp := of_decide_eq_true (show decide (mayP e) = true from hme)
  have hown := fun W (hr : ImR W D i) => own18_any D i W hr (by have := hbd.1; show i.p.d.length ≤ 1000; omega) (by have := hbd.2.1; unfold ImV.p at this; rw [pureC_len] at this; omega) (fun s hs => by
    have := (hcb (s.id, s.m) (List.mem_map.2 ⟨s, hs, rfl⟩)).1
    dsimp only at this
    omega)
  have E0 := doP_c hm hme
  rw [hm, show eno true 1 = 0 from rfl] at hck
  rw [hme, show errE true = 0 from rfl] at hce
  clear hm hme hcb
  obtain ⟨sq, ow, kd, off, len, sn, data⟩ := e
  dsimp only at *
  have hl0 : i.p.d.length ≤ 512 := hbd.1
  have hS0 : i.p.S.length ≤ 4 := hbd.2.1
  have hla0 : 0 ≤ i.p.last ∧ i.p.last ≤ 100 := ⟨hbd.2.2.1, hbd.2.2.2.1⟩
  clear hbd
  unfold mayP at hp
  dsimp only at hp
  subst hk
  replace hp : 0 ≤ off ∧ off ≤ 512 ∧ 1 ≤ len ∧ len ≤ 512 := by omega
  obtain ⟨o, rfl⟩ : ∃ o : Nat, off = o := ⟨off.toNat, by omega⟩
  obtain ⟨n, rfl⟩ : ∃ n : Nat, len = n := ⟨len.toNat, by omega⟩
  rw [if_neg (by decide), if_pos rfl, Int.toNat_natCast, Int.toNat_natCast] at E0
  unfold enV at *
  unfold imA enA zI3 at *
  dsimp only at *
  generalize hw0 : ((w.alloc (.cells #[.slice i.DA i.d.length i.dc, .slice i.CA i.S.length i.cc, .int .i64 i.last] 25)).alloc (.cells #[.int .i64 sq, .int .i64 ow, .int .i64 2, .int .i64 (o : Int), .int .i64 (n : Int), .int .i64 sn, .slice A data.length c] 41)).alloc (.cells #[.slice none 0 0, .slice none 0 0, .int .i64 0] 25) = w0 at *
  go_enter Try.func18, Try.ntmps18
  go_wp2_with first
    | (with_reducible show wpList _ _ _ _ _ _
       refine wpList_load_row rfl 25 (.tmp 2) rfl w.heap.size rfl 25 _ (0, 0) _ hB Try.underlying25 rfl infoIm ?_)
  refine hck.mono ?_
  clear hck hw0
  rintro e w2 ⟨rfl, b2⟩
  replace hB := hB.below b2
  replace hE := hE.below b2
  replace hQ := hQ.below b2
  replace hr0 := hr0.below b2
  replace bb := bb.thenB' b2
  have hs2 : w.heap.size + 3 ≤ w2.heap.size := by have := b2.size; omega
  clear b2
  go_wp2_with first
    | (with_reducible show wpList _ _ _ _ _ _
       refine wpList_load_row rfl 41 (.tmp 3) rfl (w.heap.size + 1) rfl 41 _ (0, 0) _ hE Try.underlying41 rfl infoEy ?_)
  refine (hce w2).mono ?_
  clear hce
  rintro e w3 ⟨rfl, b3⟩
  replace hB := hB.below b3
  replace hE := hE.below b3
  replace hQ := hQ.below b3
  replace hr0 := hr0.below b3
  replace bb := bb.thenB' b3
  have hs3 : w.heap.size + 3 ≤ w3.heap.size := by have := b3.size; omega
  clear b3
  have hown := hown w3 hr0
  go_wp2_with first
    | (with_reducible show wpList _ _ _ _ _ _
       refine wpList_load_row rfl 25 (.tmp 2) rfl w.heap.size rfl 25 _ (0, 0) _ hB Try.underlying25 rfl infoIm ?_)
  refine hown.mono ?_
  clear hown
  rintro e w4 ⟨j, rfl, hjp, hO, b4⟩
  replace hB := hB.below b4
  replace hE := hE.below b4
  replace hQ := hQ.below b4
  replace bb := bb.thenB' b4
  replace hO := hO.low hs3
  have hs4 : w.heap.size + 3 ≤ w4.heap.size := by have := b4.size; omega
  clear b4 hr0
  rw [← hjp] at E0 hl0 hS0 hla0
  obtain ⟨A1, d, dc, C1, S, cc, la⟩ := j
  have HJP : Hid ((⟨d, pureC S, la⟩ : PI) = i.p) := hjp
  clear hjp
  unfold ImV.p at E0 hl0 hS0 hla0
  dsimp only at E0 hl0 hS0 hla0
  dsimp only
  obtain ⟨A9, c9, e1, hdl, hdm⟩ := OwnB.form hO.dat
  injection e1 with e8 e9 e1
  subst e1
  clear e8 e9 A9
  dsimp only at hdl hdm
  unfold maxLen at hdm
  by_cases h1 : (d.length : Int) < (o : Int) + (n : Int)
  focus
    rw [if_pos h1] at E0
    have E := Lib.hid E0
    clear E0
    go_upto_region 8 with first
      | (with_reducible show wpList _ _ _ _ _ _
         refine wpList_rowB rfl 25 (.tmp 2) (.tmp 30) rfl w.heap.size 25 _ (imA ⟨A1, d, dc, C1, S, cc, la⟩) rfl rfl hB infoIm rfl (imA_ok _) ?_
         intro w5 hB5 m5
         replace hB5 : Blk w5 w.heap.size 25 #[.slice A1 d.length dc, .slice C1 S.length cc, .int .i64 la] := hB5
         have hE5 := hE.mod m5 (by omega)
         have c1 := hB5.cell 0
         have c2 := hB5.cell 1
         have c3 := hB5.cell 2
         have k1 := hE5.cell 2
         have k2 := hE5.cell 3
         have k3 := hE5.cell 4
         have k4 := hE5.cell 5
         have k5 := hE5.cell 6
         simp at c1 c2 c3 k1 k2 k3 k4 k5)
    have hQ5 := hQ.mod m5 (by omega)
    replace bb := bb.thenM m5 bb.size (fun i hi e => by omega)
    replace hO := hO.mod m5 (fun i e => by omega)
    have hs5 : w.heap.size + 3 ≤ w5.heap.size := by have := m5.size; omega
    clear hB hE hQ m5 c1 c2 c3 k1 k2 k3 k4 k5
    have c1 := hB5.cell 0
    have c2 := hB5.cell 1
    have c3 := hB5.cell 2
    have k1 := hE5.cell 2
    have k2 := hE5.cell 3
    have k3 := hE5.cell 4
    have k4 := hE5.cell 5
    have k5 := hE5.cell 6
    simp at c1 c2 c3 k1 k2 k3 k4 k5

    go_wp2_with fail
    refine (no18_any _ _).mono ?_
    rintro e w8 ⟨rfl, b8⟩
    have hQ := hQ5.below b8
    have bb := bb.thenB' b8
    unfold zI3
    go_wp2_with first
      | (with_reducible show wpList _ _ _ _ _ _
         refine wpList_rowB rfl 25 (.tmp 4) (.tmp 62) rfl (w.heap.size + 2) 25 _ zI3 rfl rfl hQ infoIm rfl (imA_ok ⟨none, [], 0, none, [], 0, 0⟩) ?_
         intro w4 hq4 m4)
    (try simp only [Exit.inBlock, Exit.then])
    refine bodyPost_ret (results_cell_tmp2 rfl _ _ (w.heap.size + 2) _ _ (0, 0) _ rfl hq4 Try.underlying25 rfl infoIm) rfl ?_
    rw [← HJP.out, E.out]
    exact ⟨⟨none, [], 0, none, [], 0, 0⟩, rfl, rfl, OwnIm.zero, bb.thenM m4 bb.size (fun i hi e => by omega)⟩
  rw [if_neg h1] at E0
  have E := Lib.hid E0
  clear E0
  have i1 : (o : Int) + (n : Int) ≤ (dc : Int) := by omega
  have i2 : (o : Int) ≤ (o : Int) + (n : Int) := by omega
  have i3 : (o : Int) ≤ 512 := by omega
  have i4 : (n : Int) ≤ 512 := by omega
  go_upto_region 8 with first
    | (with_reducible show wpList _ _ _ _ _ _
       refine wpList_rowB rfl 25 (.tmp 2) (.tmp 30) rfl w.heap.size 25 _ (imA ⟨A1, d, dc, C1, S, cc, la⟩) rfl rfl hB infoIm rfl (imA_ok _) ?_
       intro w5 hB5 m5
       replace hB5 : Blk w5 w.heap.size 25 #[.slice A1 d.length dc, .slice C1 S.length cc, .int .i64 la] := hB5
       have hE5 := hE.mod m5 (by omega)
       have c1 := hB5.cell 0
       have c2 := hB5.cell 1
       have c3 := hB5.cell 2
       have k1 := hE5.cell 2
       have k2 := hE5.cell 3
       have k3 := hE5.cell 4
       have k4 := hE5.cell 5
       have k5 := hE5.cell 6
       simp at c1 c2 c3 k1 k2 k3 k4 k5)
  have hQ5 := hQ.mod m5 (by omega)
  replace bb := bb.thenM m5 bb.size (fun i hi e => by omega)
  replace hO := hO.mod m5 (fun i e => by omega)
  have hs5 : w.heap.size + 3 ≤ w5.heap.size := by have := m5.size; omega
  clear hB hE hQ m5 c1 c2 c3 k1 k2 k3 k4 k5
  have c1 := hB5.cell 0
  have c2 := hB5.cell 1
  have c3 := hB5.cell 2
  have k1 := hE5.cell 2
  have k2 := hE5.cell 3
  have k3 := hE5.cell 4
  have k4 := hE5.cell 5
  have k5 := hE5.cell 6
  simp at c1 c2 c3 k1 k2 k3 k4 k5
  go_upto_region 15 with fail
  go_upto_region 20 with fail
  go_upto_region 21 with fail
  rw [show o + n - o = n from by omega]
  obtain ⟨w6, hcl, o6, m6⟩ := run_clearB w5 0 (w.heap.size + 3) dc A1 d hO.dat o n (dc - o) (by omega)
  have hl6 := laidO_len d o (List.replicate n 0) (by rw [List.length_replicate]; omega)
  have hob := fun i e => (World.ownsRow.lt hO.dat i e).1
  dsimp only at hob
  clear c1 c2 c3 k1 k2 k3 k4 k5
  go_upto_region 22 with first
    | (with_reducible show wpList _ _ _ _ _ _
       refine wpList_clearD rfl (.tmp 74) rfl _ rfl hcl ?_)
  have hB6 := hB5.mod m6 (fun e => by have := hob _ e; omega)
  have hE6 := hE5.mod m6 (fun e => by have := hob _ e; omega)
  have hQ6 := hQ5.mod m6 (fun e => by have := hob _ e; omega)
  have hO6 := hO.setD m6 _ hl6 o6
  have bb6 := bb.thenM m6 bb.size (fun i hi e => by have := hob i e; omega)
  dsimp only at hO6
  rw [← hl6] at hB6
  clear hcl hB5 hE5 hQ5 hl6 o6 m6 hO
  have c1 := hB6.cell 0
  have c2 := hB6.cell 1
  have c3 := hB6.cell 2
  have k1 := hE6.cell 2
  have k2 := hE6.cell 3
  have k3 := hE6.cell 4
  have k4 := hE6.cell 5
  have k5 := hE6.cell 6
  simp at c1 c2 c3 k1 k2 k3 k4 k5
  go_upto_region 38 with fail
  clear c1 c2 c3 k1 k2 k3 k4 k5
  go_wp2_with first
    | (with_reducible show wpList _ _ _ _ _ _
       refine wpList_load_row rfl 25 (.tmp 2) rfl w.heap.size rfl 25 _ (0, 0) _ hB6 Try.underlying25 rfl infoIm ?_)
    | (with_reducible show wpList _ _ _ _ _ _
       refine wpList_rowB rfl 25 (.tmp 4) (.tmp 150) rfl (w.heap.size + 2) 25 _ (imA ⟨A1, laidO d o (List.replicate n 0), dc, C1, S, cc, la⟩) rfl rfl hQ6 infoIm rfl (imA_ok _) ?_
       intro w9 hq9 m9)
  (try simp only [Exit.inBlock, Exit.then])
  refine bodyPost_ret (results_cell_tmp2 rfl _ _ (w.heap.size + 2) _ _ (0, 0) _ rfl hq9 Try.underlying25 rfl infoIm) rfl ?_
  rw [← HJP.out, E.out]
  exact ⟨⟨A1, laidO d o (List.replicate n 0), dc, C1, S, cc, la⟩, rfl, rfl, (hO6.mod m9 (fun i e => by omega)).low (by omega), bb6.thenM m9 bb6.size (fun i hi e => by omega)⟩
theorem size_eq (d : List UInt8) (n : Nat) : d.take (List.replicate n (0 : UInt8)).length ++ (List.replicate n (0 : UInt8)).drop d.length = sizeO d n := by
  unfold sizeO
  rw [List.length_replicate, List.drop_replicate]
theorem OwnIm.newD {w w' : World} {B : Nat} {i : ImV} (k : OwnIm w B i) (b : Below w.heap.size w w') (A : Option Addr) (d : List UInt8) (c : Nat) (o : OwnB w' w.heap.size (.slice A d.length c) d) (hB : B ≤ w.heap.size) : OwnIm w' B ⟨A, d, c, i.CA, i.S, i.cc, i.last⟩ := by
  have kb := k.below b
  refine ⟨kb.own, o.low hB, fun j hj e => ?_, fun s hs => (((k.cp s hs).imp (D' := fun b => (B ≤ b ∧ (Value.slice i.CA i.S.length i.cc).ownBlock ≠ some b) ∧ (Value.slice A d.length c).ownBlock ≠ some b) fun j hj hx => ⟨⟨hx.1, hx.2.1⟩, fun e => by have := (World.ownsRow.lt o j e).1; omega⟩).below b).imp fun j _ hx => ⟨hx.1.1, hx.1.2, hx.2⟩⟩
  have h1 := (World.ownsRow.lt k.own j hj).2
  have h2 := (World.ownsRow.lt o j e).1
  omega

set_option maxHeartbeats 8000000 in
set_option maxRecDepth 100000 in
theorem Do_r (D De : Nat → Prop) (i : ImV) (e : E7) (A : Option Addr) (c : Nat) (w : World) (hr : ImR w D i) (hrd : RdB w De A e.data) (hdc : e.data.length ≤ c) (hcm : c ≤ 9223372036854775807) (hm : mayI i.p = true) (hme : mayE e = true) (hk : e.kind = 3) :
    Calls Try.prog 18 #[.agg (imA i), enV e A c] w fun x w' => ∃ j : ImV, x = .returned (.tuple #[.agg (imA j), .int .i64 (doP i.p e).2.1, .int .i64 (doP i.p e).2.2]) ∧ j.p = (doP i.p e).1 ∧ OwnIm w' w.heap.size j ∧ Below w.heap.size w w' := by
  obtain ⟨hB, hE, hQ, bb, hs0⟩ := do_pre i e A c w
  have hr0 := hr.below bb
  have hck := Check18_any D i _ hr0
  have hce := fun w => Check_any e A c w
  have hent : ∀ (args : Array Value) (w : World), (callFunc 32 args).run Try.prog w = .ok (.enter 32 args) w := Go.Proofs.enters_of Try.func32 (by kernel_rfl) rfl
  have hbd := mayI_bd hm
  have hcb := copiesO_bd _ _ _ hbd.2.2.2.2
  have hp := of_decide_eq_true (show decide (mayP e) = true from hme)
  have hown := fun W (hr : ImR W D i) => own18_any D i W hr (by have := hbd.1; show i.p.d.length ≤ 1000; omega) (by have := hbd.2.1; unfold ImV.p at this; rw [pureC_len] at this; omega) (fun s hs => by
    have := (hcb (s.id, s.m) (List.mem_map.2 ⟨s, hs, rfl⟩)).1
    dsimp only at this
    omega)
  have E0 := doP_c hm hme
  rw [hm, show eno true 1 = 0 from rfl] at hck
  rw [hme, show errE true = 0 from rfl] at hce
  clear hm hme hcb
  obtain ⟨sq, ow, kd, off, len, sn, data⟩ := e
  dsimp only at *
  have hl0 : i.p.d.length ≤ 512 := hbd.1
  have hS0 : i.p.S.length ≤ 4 := hbd.2.1
  have hla0 : 0 ≤ i.p.last ∧ i.p.last ≤ 100 := ⟨hbd.2.2.1, hbd.2.2.2.1⟩
  clear hbd
  unfold mayP at hp
  dsimp only at hp
  subst hk
  replace hp : 0 ≤ len ∧ len ≤ 512 := by omega
  obtain ⟨n, rfl⟩ : ∃ n : Nat, len = n := ⟨len.toNat, by omega⟩
  rw [if_neg (by decide), if_neg (by decide), if_pos rfl, Int.toNat_natCast] at E0
  unfold enV at *
  unfold imA enA zI3 at *
  dsimp only at *
  generalize hw0 : ((w.alloc (.cells #[.slice i.DA i.d.length i.dc, .slice i.CA i.S.length i.cc, .int .i64 i.last] 25)).alloc (.cells #[.int .i64 sq, .int .i64 ow, .int .i64 3, .int .i64 off, .int .i64 (n : Int), .int .i64 sn, .slice A data.length c] 41)).alloc (.cells #[.slice none 0 0, .slice none 0 0, .int .i64 0] 25) = w0 at *
  go_enter Try.func18, Try.ntmps18
  go_wp2_with first
    | (with_reducible show wpList _ _ _ _ _ _
       refine wpList_load_row rfl 25 (.tmp 2) rfl w.heap.size rfl 25 _ (0, 0) _ hB Try.underlying25 rfl infoIm ?_)
  refine hck.mono ?_
  clear hck hw0
  rintro e w2 ⟨rfl, b2⟩
  replace hB := hB.below b2
  replace hE := hE.below b2
  replace hQ := hQ.below b2
  replace hr0 := hr0.below b2
  replace bb := bb.thenB' b2
  have hs2 : w.heap.size + 3 ≤ w2.heap.size := by have := b2.size; omega
  clear b2
  go_wp2_with first
    | (with_reducible show wpList _ _ _ _ _ _
       refine wpList_load_row rfl 41 (.tmp 3) rfl (w.heap.size + 1) rfl 41 _ (0, 0) _ hE Try.underlying41 rfl infoEy ?_)
  refine (hce w2).mono ?_
  clear hce
  rintro e w3 ⟨rfl, b3⟩
  replace hB := hB.below b3
  replace hE := hE.below b3
  replace hQ := hQ.below b3
  replace hr0 := hr0.below b3
  replace bb := bb.thenB' b3
  have hs3 : w.heap.size + 3 ≤ w3.heap.size := by have := b3.size; omega
  clear b3
  have hown := hown w3 hr0
  go_wp2_with first
    | (with_reducible show wpList _ _ _ _ _ _
       refine wpList_load_row rfl 25 (.tmp 2) rfl w.heap.size rfl 25 _ (0, 0) _ hB Try.underlying25 rfl infoIm ?_)
  refine hown.mono ?_
  clear hown
  rintro e w4 ⟨j, rfl, hjp, hO, b4⟩
  replace hB := hB.below b4
  replace hE := hE.below b4
  replace hQ := hQ.below b4
  replace bb := bb.thenB' b4
  replace hO := hO.low hs3
  have hs4 : w.heap.size + 3 ≤ w4.heap.size := by have := b4.size; omega
  clear b4 hr0
  rw [← hjp] at E0 hl0 hS0 hla0
  obtain ⟨A1, d, dc, C1, S, cc, la⟩ := j
  have HJP : Hid ((⟨d, pureC S, la⟩ : PI) = i.p) := hjp
  clear hjp
  unfold ImV.p at E0 hl0 hS0 hla0
  dsimp only at E0 hl0 hS0 hla0
  dsimp only
  obtain ⟨A9, c9, e1, hdl, hdm⟩ := OwnB.form hO.dat
  injection e1 with e8 e9 e1
  subst e1
  clear e8 e9 A9
  dsimp only at hdl hdm
  unfold maxLen at hdm
  have E := Lib.hid E0
  clear E0
  go_upto_region 8 with first
    | (with_reducible show wpList _ _ _ _ _ _
       refine wpList_rowB rfl 25 (.tmp 2) (.tmp 30) rfl w.heap.size 25 _ (imA ⟨A1, d, dc, C1, S, cc, la⟩) rfl rfl hB infoIm rfl (imA_ok _) ?_
       intro w5 hB5 m5
       replace hB5 : Blk w5 w.heap.size 25 #[.slice A1 d.length dc, .slice C1 S.length cc, .int .i64 la] := hB5
       have hE5 := hE.mod m5 (by omega)
       have c1 := hB5.cell 0
       have c2 := hB5.cell 1
       have c3 := hB5.cell 2
       have k1 := hE5.cell 2
       have k2 := hE5.cell 3
       have k3 := hE5.cell 4
       have k4 := hE5.cell 5
       have k5 := hE5.cell 6
       simp at c1 c2 c3 k1 k2 k3 k4 k5)
  have hQ5 := hQ.mod m5 (by omega)
  replace bb := bb.thenM m5 bb.size (fun i hi e => by omega)
  replace hO := hO.mod m5 (fun i e => by omega)
  have hs5 : w.heap.size + 3 ≤ w5.heap.size := by have := m5.size; omega
  clear hB hE hQ m5 c1 c2 c3 k1 k2 k3 k4 k5
  have c1 := hB5.cell 0
  have c2 := hB5.cell 1
  have c3 := hB5.cell 2
  have k1 := hE5.cell 2
  have k2 := hE5.cell 3
  have k3 := hE5.cell 4
  have k4 := hE5.cell 5
  have k5 := hE5.cell 6
  simp at c1 c2 c3 k1 k2 k3 k4 k5
  have rd := hO.dat.rdG
  dsimp only at rd
  go_upto_region 24 with fail
  have hs5' : w.heap.size + 3 ≤ w5.heap.size := hs5
  go_upto_region 25 with first
    | (at_make
       refine wpList_makeB rfl (.tmp 83) (.tmp 83) rfl w5.heap.size n rfl rfl (by unfold big; omega) (Nat.le_refl _) ?_
       intro w6 o6 b6)
  have hB6 := hB5.below b6
  have hE6 := hE5.below b6
  have hQ6 := hQ5.below b6
  have rd6 := rd.below b6
  have g6 := o6.lt
  clear c1 c2 c3 k1 k2 k3 k4 k5
  have c1 := hB6.cell 0
  have c2 := hB6.cell 1
  have c3 := hB6.cell 2
  have k1 := hE6.cell 2
  have k2 := hE6.cell 3
  have k3 := hE6.cell 4
  have k4 := hE6.cell 5
  have k5 := hE6.cell 6
  simp at c1 c2 c3 k1 k2 k3 k4 k5
  go_upto_region 26 with first
    | (with_reducible show wpList _ _ _ _ _ _
       refine wpList_copyB rfl (.tmp 85) (.tmp 87) rfl w5.heap.size (.slice (some ⟨w5.heap.size, 0, none⟩) n n) _ rfl o6 _ A1 d.length dc d rfl rfl rd6 ?_
       intro w7 o7 x7)
  rw [size_eq] at o7
  have b7 : Below w5.heap.size w5 w7 := b6.trans (below_app (Below.refl _ _) o6 x7 (Nat.le_refl _) b6.size)
  clear x7 o6 b6 rd6 hB6 hE6 hQ6 g6
  generalize goInt ((min d.length (List.replicate n (0 : UInt8)).length : Nat) : Int) = u88
  (try simp only [Act.put, List.setIfInBounds_toArray]); (try simp only [List.set_cons_succ]); (try simp only [List.set_cons_zero])
  have hB7 := hB5.below b7
  have hQ7 := hQ5.below b7
  have hO7 := hO.newD b7 (some ⟨w5.heap.size, 0, none⟩) (sizeO d n) n (by rw [sizeO_len]; exact o7) hs5
  have bb7 := bb.thenB' b7
  dsimp only at hO7
  clear o7 b7 hO hB5 hQ5 hE5 bb c1 c2 c3 k1 k2 k3 k4 k5
  go_upto_region 38 with first
    | (with_reducible show wpList _ _ _ _ _ _
       refine wpList_fldB rfl 22 (.tmp 90) (.tmp 89) rfl w.heap.size 0 25 _ (.slice (some ⟨w5.heap.size, 0, none⟩) n n) rfl rfl rfl infoD1 hB7 3 rfl (by decide) ?_
       intro w8 hB8 m8
       replace hB8 : Blk w8 w.heap.size 25 #[.slice (some ⟨w5.heap.size, 0, none⟩) n n, .slice C1 S.length cc, .int .i64 la] := hB8)
  have hQ8 := hQ7.mod m8 (by omega)
  have hO8 := hO7.mod m8 (fun i e => by omega)
  have bb8 := bb7.thenM m8 bb7.size (fun i hi e => by omega)
  rw [show Value.slice (some ⟨w5.heap.size, 0, none⟩) n n = .slice (some ⟨w5.heap.size, 0, none⟩) (sizeO d n).length n from by rw [sizeO_len]] at hB8
  clear hB7 hQ7 hO7 bb7 m8
  go_wp2_with first
    | (with_reducible show wpList _ _ _ _ _ _
       refine wpList_load_row rfl 25 (.tmp 2) rfl w.heap.size rfl 25 _ (0, 0) _ hB8 Try.underlying25 rfl infoIm ?_)
    | (with_reducible show wpList _ _ _ _ _ _
       refine wpList_rowB rfl 25 (.tmp 4) (.tmp 150) rfl (w.heap.size + 2) 25 _ (imA ⟨some ⟨w5.heap.size, 0, none⟩, sizeO d n, n, C1, S, cc, la⟩) rfl rfl hQ8 infoIm rfl (imA_ok _) ?_
       intro w9 hq9 m9)
  (try simp only [Exit.inBlock, Exit.then])
  refine bodyPost_ret (results_cell_tmp2 rfl _ _ (w.heap.size + 2) _ _ (0, 0) _ rfl hq9 Try.underlying25 rfl infoIm) rfl ?_
  rw [← HJP.out, E.out]
  exact ⟨⟨some ⟨w5.heap.size, 0, none⟩, sizeO d n, n, C1, S, cc, la⟩, rfl, rfl, (hO8.mod m9 (fun i e => by omega)).low (by omega), bb8.thenM m9 bb8.size (fun i hi e => by omega)⟩
end Go.Proofs.Ytcdodchjgadcoaa
