/- The entry of bytes: the document's Unpack. -/
import Derived.Test.YthpmmnpjdpgamaaDoorEn6
import Derived.Test.YthpmmnpjdpgamaaDoorCan
namespace Go.Proofs.YthpmmnpjdpgamaaDoor
open Go.RowKit
set_option linter.unusedVariables false
set_option maxRecDepth 100000

/-- What the document's Unpack tells. -/
def RUnpacked (x : E7 × Int) (D : Nat → Prop) (w : World) (r : Ending) (w' : World) : Prop := ∃ A' c', r = .returned (.tuple #[enV x.1 A' c', .int .i64 x.2]) ∧ RdB w' D A' x.1.data ∧ Below w.heap.size w w' ∧ x.1.data.length ≤ c' ∧ c' ≤ 9223372036854775807

set_option maxHeartbeats 8000000 in
theorem rUnpack_any (D0 : Nat → Prop) (A : Option Addr) (c : Nat) (b : List UInt8) (w : World) (h0 : RdB w D0 A b) (hl : b.length ≤ 1000000) (hc : b.length ≤ c) (hm : c ≤ 9223372036854775807) :
    Calls Tryd.prog 16 #[.slice A b.length c] w (RUnpacked (unpO b) D0 w) := by
  obtain ⟨D, HDD⟩ : ∃ D : Nat → Prop, Hid (D = fun x => D0 x ∧ x < w.heap.size) := ⟨_, Lib.hid rfl⟩
  have h : RdB w D A b := by rw [HDD.out]; exact Rd.imp h0 (fun x hx hd => ⟨hd, hx⟩) (by decide)
  have hDw : Hid (∀ x, D x → D0 x ∧ x < w.heap.size) := fun x hx => by rw [HDD.out] at hx; exact hx
  clear HDD h0
  have bn := below_new w (.cells z7 24)
  have hR := Blk.new w 24 z7
  have hnx := rNext_cap D A c b (w.alloc (.cells z7 24)) (RdB.below h bn) hl hc hm
  have HG := Lib.hid (fun h => next_good (b := b) h)
  have HU : Hid (unpO b = unpX (nextO b) b.length) := rfl
  generalize unpO b = res at *
  unfold z7 at hnx bn hR
  generalize nextO b = nx at *
  obtain ⟨k, body, rest, fin, er⟩ := nx
  dsimp only at hnx HG HU
  go_enter Tryd.func16, Tryd.ntmps16
  go_wp2_with fail
  refine hnx.mono ?_
  clear hnx
  rintro r w1 ⟨A1, n1, c1, rfl, hn1, o1, b1, hcap1⟩
  have hR := hR.below b1
  have bb := bn.thenB' b1
  clear bn b1
  by_cases he : er = 0
  case neg =>
    have HV : Hid (res = (zeroE, er)) := by have h := HU.out; unfold Hid; rw [h]; unfold unpX; rw [if_pos he]
    have e2 : (er != 0) = true := by simp [he]
    clear he HU
    go_wp2_with first
      | (with_reducible show wpList _ _ _ _ _ _
         refine wpList_rowB rfl 24 (.tmp 2) (.tmp 20) rfl w.heap.size 24 _ #[.int .i64 0, .int .i64 0, .int .i64 0, .int .i64 0, .int .i64 0, .int .i64 0, .slice none 0 0] rfl rfl hR infoEn7 rfl (by simp [Value.oneCell']) ?_
         intro wz hRz mz
         have bbz := bb.thenM mz bb.size (fun i hi e => by have e : i = w.heap.size := e; omega))
    (try simp only [Exit.inBlock, Exit.then])
    refine bodyPost_ret (results_cell_tmp rfl _ _ w.heap.size _ _ (0, 0) _ rfl hRz Tryd.underlying24 rfl infoEn7) rfl ?_
    unfold RUnpacked
    rw [HV.out]
    exact ⟨none, 0, rfl, RdB.nil, bbz, Nat.le_refl _, Nat.zero_le _⟩
  subst he
  have HG := Lib.hid (HG.out rfl)
  by_cases hf : fin = b.length
  case neg =>
    have HV : Hid (res = (zeroE, 11)) := by have h := HU.out; unfold Hid; rw [h]; unfold unpX; rw [if_neg (by simp), if_pos hf]
    have hr0 : ((fin : Int) != (b.length : Int)) = true := by simp; omega
    clear hf HU HG
    go_wp2_with first
      | (with_reducible show wpList _ _ _ _ _ _
         refine wpList_rowB rfl 24 (.tmp 2) (.tmp 26) rfl w.heap.size 24 _ #[.int .i64 0, .int .i64 0, .int .i64 0, .int .i64 0, .int .i64 0, .int .i64 0, .slice none 0 0] rfl rfl hR infoEn7 rfl (by simp [Value.oneCell']) ?_
         intro wz hRz mz
         have bbz := bb.thenM mz bb.size (fun i hi e => by have e : i = w.heap.size := e; omega))
    (try simp only [Exit.inBlock, Exit.then])
    refine bodyPost_ret (results_cell_tmp rfl _ _ w.heap.size _ _ (0, 0) _ rfl hRz Tryd.underlying24 rfl infoEn7) rfl ?_
    unfold RUnpacked
    rw [HV.out]
    exact ⟨none, 0, rfl, RdB.nil, bbz, Nat.le_refl _, Nat.zero_le _⟩
  have hr0 : ((fin : Int) != (b.length : Int)) = false := by simp; omega
  have HU2 : Hid (res = if (rawE k body).2.2 ≠ 0 then (zeroE, (rawE k body).2.2) else if okE (rawE k body).1 = true then ((rawE k body).1, 0) else (zeroE, 70)) := by
    have h := HU.out; unfold Hid; rw [h]; unfold unpX; rw [if_neg (by simp), if_neg (by simp [hf])]
  clear hf HU HG
  have hrw : w.heap.size < w1.heap.size := hR.lt
  have bg := below_new w1 (.cells #[.slice A1 n1 c1, .int .i64 0] 52)
  have bx := below_new (w1.alloc (.cells #[.slice A1 n1 c1, .int .i64 0] 52)) (.cells #[.int .i64 0, .int .i64 0, .int .i64 k, .int .i64 0, .int .i64 0, .int .i64 0, .slice none 0 0] 24)
  have hgB := (Blk.new w1 52 #[.slice A1 n1 c1, .int .i64 0]).below bx
  have hX := Blk.new (w1.alloc (.cells #[.slice A1 n1 c1, .int .i64 0] 52)) 24 #[.int .i64 0, .int .i64 0, .int .i64 k, .int .i64 0, .int .i64 0, .int .i64 0, .slice none 0 0]
  rw [show (w1.alloc (.cells #[.slice A1 n1 c1, .int .i64 0] 52)).heap.size = w1.heap.size + 1 from by show (w1.heap.push _).size = _; simp] at hX
  have hR := (hR.below bg).below bx
  have o1 := RdB.below (RdB.below o1 bg) bx
  have bb := (bb.thenB' bg).thenB' bx
  have hRd : RdR ((w1.alloc (.cells #[.slice A1 n1 c1, .int .i64 0] 52)).alloc (.cells #[.int .i64 0, .int .i64 0, .int .i64 k, .int .i64 0, .int .i64 0, .int .i64 0, .slice none 0 0] 24)) w1.heap.size D (body, 0) :=
    ⟨A1, c1, by show Blk _ _ _ #[.slice A1 body.length c1, .int .i64 0]; rw [← hn1.out]; exact hgB, o1, by show body.length ≤ c1; rw [← hn1.out]; exact hcap1.out.1, hcap1.out.2, fun hd => by have := (hDw.out _ hd).2; omega⟩
  clear bg bx hgB hn1 hcap1 o1
  go_wp2_with fail
  generalize (w1.alloc (.cells #[.slice A1 n1 c1, .int .i64 0] 52)).alloc (.cells #[.int .i64 0, .int .i64 0, .int .i64 k, .int .i64 0, .int .i64 0, .int .i64 0, .slice none 0 0] 24) = w3 at *
  obtain ⟨g, hg⟩ : ∃ g, g = w1.heap.size := ⟨_, rfl⟩
  obtain ⟨xb, hxb⟩ : ∃ xb, xb = w1.heap.size + 1 := ⟨_, rfl⟩
  have hgx : g ≠ xb := by omega
  have hrg : w.heap.size ≠ g := by omega
  have hrx : w.heap.size ≠ xb := by omega
  have hgw : w.heap.size ≤ g := by omega
  have hxw : w.heap.size ≤ xb := by omega
  rw [← hxb] at hX
  rw [← hg] at hRd
  have HXB := Lib.hid hxb
  have HGG := Lib.hid hg
  rw [← hxb, ← hg]
  clear hxb hg
  have HRAW : Hid (rawE k body = (⟨(rNum 6 (body, 0)).1, (rNum 1 (rNum 6 (body, 0)).2).1, k, (rNum 2 (rNum 1 (rNum 6 (body, 0)).2).2).1, (rNum 2 (rNum 2 (rNum 1 (rNum 6 (body, 0)).2).2).2).1, (rNum 1 (rNum 2 (rNum 2 (rNum 1 (rNum 6 (body, 0)).2).2).2).2).1,
    (rBlob 128 (rNum 1 (rNum 2 (rNum 2 (rNum 1 (rNum 6 (body, 0)).2).2).2).2).2).1⟩, rEnd (rBlob 128 (rNum 1 (rNum 2 (rNum 2 (rNum 1 (rNum 6 (body, 0)).2).2).2).2).2).2)) := rfl
  generalize rawE k body = raw at *
  refine (rNum_any g _ (body, 0) 6 _ hRd).mono ?_
  rintro r y1 ⟨rfl, hRd, m⟩
  have hX := hX.mod m (fun e => hgx (show xb = g from e).symm)
  have hR := hR.mod m (fun e => hrg e)
  have bb := bb.thenM m bb.size (fun i hi e => by have e : i = g := e; omega)
  clear m
  generalize rNum 6 (body, 0) = p1 at *
  go_wp2_with first
    | (with_reducible show wpList _ _ _ _ _ _
       refine wpList_fldB rfl 3 (.tmp 34) (.tmp 33) rfl xb 0 24 _ (.int .i64 p1.1) rfl rfl rfl infoI1 hX 7 rfl (by decide) ?_
       intro z1 hX1 m1
       have hRd1 := hRd.mod m1 (fun e => hgx e) (fun b hb e => by have e : b = xb := e; have := (hDw.out _ hb).2; omega)
       have hR1 := hR.mod m1 (fun e => hrx e)
       have bb1 := bb.thenM m1 bb.size (fun i hi e => by have e : i = xb := e; omega))
  clear hRd hR bb m1
  have hX : Blk z1 xb 24 #[.int .i64 p1.1, .int .i64 0, .int .i64 k, .int .i64 0, .int .i64 0, .int .i64 0, .slice none 0 0] := hX1
  have hRd := hRd1
  have hR := hR1
  have bb := bb1
  clear hRd1 hR1 bb1 hX1
  refine (rNum_any g _ p1.2 1 _ hRd).mono ?_
  rintro r y2 ⟨rfl, hRd, m⟩
  have hX := hX.mod m (fun e => hgx (show xb = g from e).symm)
  have hR := hR.mod m (fun e => hrg e)
  have bb := bb.thenM m bb.size (fun i hi e => by have e : i = g := e; omega)
  clear m
  generalize rNum 1 p1.2 = p2 at *
  go_wp2_with first
    | (with_reducible show wpList _ _ _ _ _ _
       refine wpList_fldB rfl 3 (.tmp 37) (.tmp 36) rfl xb 1 24 _ (.int .i64 p2.1) rfl rfl rfl infoI1 hX 7 rfl (by decide) ?_
       intro z2 hX2 m2
       have hRd2 := hRd.mod m2 (fun e => hgx e) (fun b hb e => by have e : b = xb := e; have := (hDw.out _ hb).2; omega)
       have hR2 := hR.mod m2 (fun e => hrx e)
       have bb2 := bb.thenM m2 bb.size (fun i hi e => by have e : i = xb := e; omega))
  clear hRd hR bb m2
  have hX : Blk z2 xb 24 #[.int .i64 p1.1, .int .i64 p2.1, .int .i64 k, .int .i64 0, .int .i64 0, .int .i64 0, .slice none 0 0] := hX2
  have hRd := hRd2
  have hR := hR2
  have bb := bb2
  clear hRd2 hR2 bb2 hX2
  refine (rNum_any g _ p2.2 2 _ hRd).mono ?_
  rintro r y3 ⟨rfl, hRd, m⟩
  have hX := hX.mod m (fun e => hgx (show xb = g from e).symm)
  have hR := hR.mod m (fun e => hrg e)
  have bb := bb.thenM m bb.size (fun i hi e => by have e : i = g := e; omega)
  clear m
  generalize rNum 2 p2.2 = p3 at *
  go_wp2_with first
    | (with_reducible show wpList _ _ _ _ _ _
       refine wpList_fldB rfl 3 (.tmp 40) (.tmp 39) rfl xb 3 24 _ (.int .i64 p3.1) rfl rfl rfl infoI1 hX 7 rfl (by decide) ?_
       intro z3 hX3 m3
       have hRd3 := hRd.mod m3 (fun e => hgx e) (fun b hb e => by have e : b = xb := e; have := (hDw.out _ hb).2; omega)
       have hR3 := hR.mod m3 (fun e => hrx e)
       have bb3 := bb.thenM m3 bb.size (fun i hi e => by have e : i = xb := e; omega))
  clear hRd hR bb m3
  have hX : Blk z3 xb 24 #[.int .i64 p1.1, .int .i64 p2.1, .int .i64 k, .int .i64 p3.1, .int .i64 0, .int .i64 0, .slice none 0 0] := hX3
  have hRd := hRd3
  have hR := hR3
  have bb := bb3
  clear hRd3 hR3 bb3 hX3
  refine (rNum_any g _ p3.2 2 _ hRd).mono ?_
  rintro r y4 ⟨rfl, hRd, m⟩
  have hX := hX.mod m (fun e => hgx (show xb = g from e).symm)
  have hR := hR.mod m (fun e => hrg e)
  have bb := bb.thenM m bb.size (fun i hi e => by have e : i = g := e; omega)
  clear m
  generalize rNum 2 p3.2 = p4 at *
  go_wp2_with first
    | (with_reducible show wpList _ _ _ _ _ _
       refine wpList_fldB rfl 3 (.tmp 43) (.tmp 42) rfl xb 4 24 _ (.int .i64 p4.1) rfl rfl rfl infoI1 hX 7 rfl (by decide) ?_
       intro z4 hX4 m4
       have hRd4 := hRd.mod m4 (fun e => hgx e) (fun b hb e => by have e : b = xb := e; have := (hDw.out _ hb).2; omega)
       have hR4 := hR.mod m4 (fun e => hrx e)
       have bb4 := bb.thenM m4 bb.size (fun i hi e => by have e : i = xb := e; omega))
  clear hRd hR bb m4
  have hX : Blk z4 xb 24 #[.int .i64 p1.1, .int .i64 p2.1, .int .i64 k, .int .i64 p3.1, .int .i64 p4.1, .int .i64 0, .slice none 0 0] := hX4
  have hRd := hRd4
  have hR := hR4
  have bb := bb4
  clear hRd4 hR4 bb4 hX4
  refine (rNum_any g _ p4.2 1 _ hRd).mono ?_
  rintro r y5 ⟨rfl, hRd, m⟩
  have hX := hX.mod m (fun e => hgx (show xb = g from e).symm)
  have hR := hR.mod m (fun e => hrg e)
  have bb := bb.thenM m bb.size (fun i hi e => by have e : i = g := e; omega)
  clear m
  generalize rNum 1 p4.2 = p5 at *
  go_wp2_with first
    | (with_reducible show wpList _ _ _ _ _ _
       refine wpList_fldB rfl 3 (.tmp 46) (.tmp 45) rfl xb 5 24 _ (.int .i64 p5.1) rfl rfl rfl infoI1 hX 7 rfl (by decide) ?_
       intro z5 hX5 m5
       have hRd5 := hRd.mod m5 (fun e => hgx e) (fun b hb e => by have e : b = xb := e; have := (hDw.out _ hb).2; omega)
       have hR5 := hR.mod m5 (fun e => hrx e)
       have bb5 := bb.thenM m5 bb.size (fun i hi e => by have e : i = xb := e; omega))
  clear hRd hR bb m5
  have hX : Blk z5 xb 24 #[.int .i64 p1.1, .int .i64 p2.1, .int .i64 k, .int .i64 p3.1, .int .i64 p4.1, .int .i64 p5.1, .slice none 0 0] := hX5
  have hRd := hRd5
  have hR := hR5
  have bb := bb5
  clear hRd5 hR5 bb5 hX5
  refine (rBlob_any g _ p5.2 128 _ hRd).mono ?_
  rintro r y6 ⟨A6, c6, rfl, o6, hq1, hq2, hRd, m⟩
  have hX := hX.mod m (fun e => hgx (show xb = g from e).symm)
  have hR := hR.mod m (fun e => hrg e)
  have bb := bb.thenM m bb.size (fun i hi e => by have e : i = g := e; omega)
  clear m
  generalize rBlob 128 p5.2 = p6 at *
  obtain ⟨n6, hn6'⟩ : ∃ n6, n6 = p6.1.length := ⟨_, rfl⟩
  rw [← hn6'] at hq1 ⊢
  have hn6 := Lib.hid hn6'
  clear hn6'
  go_wp2_with first
    | (with_reducible show wpList _ _ _ _ _ _
       refine wpList_fldB rfl 22 (.tmp 49) (.tmp 48) rfl xb 6 24 _ (.slice A6 n6 c6) rfl rfl rfl infoS1 hX 7 rfl (by decide) ?_
       intro z6 hX6 m6
       have hRd6 := hRd.mod m6 (fun e => hgx e) (fun b hb e => by have e : b = xb := e; have := (hDw.out _ hb).2; omega)
       have hR6 := hR.mod m6 (fun e => hrx e)
       have o66 := Rd.mod o6 m6 (fun b hb e => by have e : b = xb := e; have := (hDw.out _ hb).2; omega)
       have bb6 := bb.thenM m6 bb.size (fun i hi e => by have e : i = xb := e; omega))
  clear hRd hR bb o6
  have hX : Blk z6 xb 24 #[.int .i64 p1.1, .int .i64 p2.1, .int .i64 k, .int .i64 p3.1, .int .i64 p4.1, .int .i64 p5.1, .slice A6 n6 c6] := hX6
  have hRd := hRd6
  have hR := hR6
  have bb := bb6
  have o6 : RdB z6 D A6 p6.1 := o66
  clear hRd6 hR6 bb6 hX6 o66 m6
  refine (rEnd_any g _ p6.2 _ hRd).mono ?_
  rintro r y7 ⟨rfl, hRd, m⟩
  have hX := hX.mod m (fun e => hgx (show xb = g from e).symm)
  have hR := hR.mod m (fun e => hrg e)
  have bb := bb.thenM m bb.size (fun i hi e => by have e : i = g := e; omega)
  have o6 : RdB y7 D A6 p6.1 := Rd.mod o6 m (fun b hb e => by have e : b = g := e; have := (hDw.out _ hb).2; omega)
  clear m hRd
  generalize rEnd p6.2 = p7 at *
  have HU3 : Hid (res = if p7.2 ≠ 0 then (zeroE, p7.2) else if okE ⟨p1.1, p2.1, k, p3.1, p4.1, p5.1, p6.1⟩ = true then (⟨p1.1, p2.1, k, p3.1, p4.1, p5.1, p6.1⟩, 0) else (zeroE, 70)) := by
    have h := HU2.out; rw [HRAW.out] at h; exact h
  clear HU2 HRAW
  generalize p1.1 = q1 at *
  generalize p2.1 = q2 at *
  generalize p3.1 = q3 at *
  generalize p4.1 = q4 at *
  generalize p5.1 = q5 at *
  generalize p6.1 = d at *
  generalize p7.2 = en at *
  by_cases hen : en = 0
  case neg =>
    have HV : Hid (res = (zeroE, en)) := by have h := HU3.out; unfold Hid; rw [h, if_pos hen]
    have e2 : (en != 0) = true := by simp [hen]
    clear hen HU3
    go_wp2_with first
      | (with_reducible show wpList _ _ _ _ _ _
         refine wpList_rowB rfl 24 (.tmp 2) (.tmp 54) rfl w.heap.size 24 _ #[.int .i64 0, .int .i64 0, .int .i64 0, .int .i64 0, .int .i64 0, .int .i64 0, .slice none 0 0] rfl rfl hR infoEn7 rfl (by simp [Value.oneCell']) ?_
         intro wz hRz mz
         have bbz := bb.thenM mz bb.size (fun i hi e => by have e : i = w.heap.size := e; omega))
    (try simp only [Exit.inBlock, Exit.then])
    refine bodyPost_ret (results_cell_tmp rfl _ _ w.heap.size _ _ (0, 0) _ rfl hRz Tryd.underlying24 rfl infoEn7) rfl ?_
    unfold RUnpacked
    rw [HV.out]
    exact ⟨none, 0, rfl, RdB.nil, bbz, Nat.le_refl _, Nat.zero_le _⟩
  subst hen
  have HU4 : Hid (res = if okE ⟨q1, q2, k, q3, q4, q5, d⟩ = true then (⟨q1, q2, k, q3, q4, q5, d⟩, 0) else (zeroE, 70)) := by
    have h := HU3.out; unfold Hid; rw [h, if_neg (by simp)]
  clear HU3
  have hck := fun W => rMay_any ⟨q1, q2, k, q3, q4, q5, d⟩ A6 c6 W
  have HOK : Hid (okE ⟨q1, q2, k, q3, q4, q5, d⟩ = (mayE ⟨q1, q2, k, q3, q4, q5, d⟩ && sameO (cleanO ⟨q1, q2, k, q3, q4, q5, d⟩) ⟨q1, q2, k, q3, q4, q5, d⟩)) := rfl
  have hcl := fun W (h : RdB W D A6 d) (h1 : d.length ≤ c6) => rClean_any ⟨q1, q2, k, q3, q4, q5, d⟩ D A6 c6 W h h1 hq2
  have hsm := fun (A' : Option Addr) (c' : Nat) W (h : RdB W D A' (cleanO ⟨q1, q2, k, q3, q4, q5, d⟩).data) (h' : RdB W D A6 d) => rSame_any (cleanO ⟨q1, q2, k, q3, q4, q5, d⟩) ⟨q1, q2, k, q3, q4, q5, d⟩ D D A' A6 c' c6 W h h'
  unfold RCleaned enV enA at hcl
  unfold enV enA at hck hsm
  generalize mayE ⟨q1, q2, k, q3, q4, q5, d⟩ = may at *
  generalize sameO (cleanO ⟨q1, q2, k, q3, q4, q5, d⟩) ⟨q1, q2, k, q3, q4, q5, d⟩ = sm at *
  generalize cleanO ⟨q1, q2, k, q3, q4, q5, d⟩ = ce at *
  obtain ⟨s', o', k', f', l', n', d'⟩ := ce
  dsimp only at hcl hck hsm
  rw [← hn6.out] at hcl hck hsm
  have HCL := Lib.hid hcl
  have HSM := Lib.hid hsm
  clear hcl hsm
  go_wp2_with first
    | (with_reducible show wpList _ _ _ _ _ _
       refine wpList_load_row rfl 24 (.tmp 9) rfl xb rfl 24 _ (0, 0) _ hX Tryd.underlying24 rfl infoEn7 ?_)
  refine (hck _).mono ?_
  clear hck
  rintro r y9 ⟨rfl, b9⟩
  have hX := hX.below b9
  have hR := hR.below b9
  have bb := bb.thenB' b9
  have o6 := RdB.below o6 b9
  clear b9
  go_wp2_with fail
  by_cases hmy : may = true
  case neg =>
    have hm0 : may = false := by simpa using hmy
    have HV : Hid (res = (zeroE, 70)) := by
      have h := HU4.out; unfold Hid; rw [h, HOK.out, hm0, if_neg (by simp)]
    clear hmy HU4 HOK HCL HSM
    subst hm0
    go_quiet (fail)
    have bd : Below y9.heap.size y9 (y9.drewN nq) := below_drewN (Below.refl _ _) _
    have hR := hR.below bd
    have bb := bb.thenB' bd
    clear bd hX o6
    generalize y9.drewN nq = yw at *
    go_upto_region 19 with fail
    go_wp2_with first
      | (with_reducible show wpList _ _ _ _ _ _
         refine wpList_rowB rfl 24 (.tmp 2) (.tmp 67) rfl w.heap.size 24 _ #[.int .i64 0, .int .i64 0, .int .i64 0, .int .i64 0, .int .i64 0, .int .i64 0, .slice none 0 0] rfl rfl hR infoEn7 rfl (by simp [Value.oneCell']) ?_
         intro wz hRz mz
         have bbz := bb.thenM mz bb.size (fun i hi e => by have e : i = w.heap.size := e; omega))
    (try simp only [Exit.inBlock, Exit.then])
    refine bodyPost_ret (results_cell_tmp rfl _ _ w.heap.size _ _ (0, 0) _ rfl hRz Tryd.underlying24 rfl infoEn7) rfl ?_
    unfold RUnpacked
    rw [HV.out]
    exact ⟨none, 0, rfl, RdB.nil, bbz, Nat.le_refl _, Nat.zero_le _⟩
  have HO2 : Hid (okE ⟨q1, q2, k, q3, q4, q5, d⟩ = sm) := by have h := HOK.out; rw [hmy, Bool.true_and] at h; exact h
  have hm1 : may = true := hmy
  clear hmy HOK
  subst hm1
  have hQ := hR
  clear hR
  refine r_start (R := RB) (by rfl) (n := 9) (L := #[false, false, false, false, false, false, false, false, false]) rfl rfl ?_
  have bd : Below y9.heap.size y9 y9.drew := (Below.refl _ _).drew
  have hX := hX.below bd
  have hQ := hQ.below bd
  have o6 := RdB.below o6 bd
  have bb := bb.thenB' bd
  generalize y9.drew = wd at *
  clear bd
  refine r_flt RB_refl 0 58 #[true, false, false, false, false, false, false, false, false] (by simp only [List.getElem?_toArray, List.getElem?_cons_zero]; rfl) (by rfl) (by kernel_rfl) (by kernel_rfl) (by kernel_rfl) (fun _ _ _ _ h => h) rfl (by rfl) ?_
  apply Exists.intro
  apply And.intro
  · intro W hW
    first | (go_simp; with_reducible rfl) | go_simp
  (try simp only [Act.put, List.setIfInBounds_toArray]); (try simp only [List.set_cons_succ]); (try simp only [List.set_cons_zero])
  refine r_flt RB_refl 1 59 #[true, true, false, false, false, false, false, false, false] (by simp only [List.getElem?_toArray, List.getElem?_cons_succ, List.getElem?_cons_zero]; rfl) (by rfl) (by kernel_rfl) (by kernel_rfl) (by kernel_rfl) (fun _ _ _ _ h => h) rfl (by rfl) ?_
  apply Exists.intro
  apply And.intro
  · intro W hW
    first | (go_simp; with_reducible rfl) | go_simp
  (try simp only [Act.put, List.setIfInBounds_toArray]); (try simp only [List.set_cons_succ]); (try simp only [List.set_cons_zero])
  refine r_flt RB_refl 2 60 #[true, true, true, false, false, false, false, false, false] (by simp only [List.getElem?_toArray, List.getElem?_cons_succ, List.getElem?_cons_zero]; rfl) (by rfl) (by kernel_rfl) (by kernel_rfl) (by kernel_rfl) (fun _ _ _ _ h => h) rfl (by rfl) ?_
  apply Exists.intro
  apply And.intro
  · intro W hW
    first | (go_simp; with_reducible rfl) | go_simp
  (try simp only [Act.put, List.setIfInBounds_toArray]); (try simp only [List.set_cons_succ]); (try simp only [List.set_cons_zero])
  refine r_flt RB_refl 3 61 #[true, true, true, true, false, false, false, false, false] (by simp only [List.getElem?_toArray, List.getElem?_cons_succ, List.getElem?_cons_zero]; rfl) (by rfl) (by kernel_rfl) (by kernel_rfl) (by kernel_rfl) (fun _ _ _ _ h => h) rfl (by rfl) ?_
  apply Exists.intro
  apply And.intro
  · intro W hW
    have K0 := Blk.get (hX.below hW) (i := 0) rfl
    have K1 := Blk.get (hX.below hW) (i := 1) rfl
    have K2 := Blk.get (hX.below hW) (i := 2) rfl
    have K3 := Blk.get (hX.below hW) (i := 3) rfl
    have K4 := Blk.get (hX.below hW) (i := 4) rfl
    have K5 := Blk.get (hX.below hW) (i := 5) rfl
    have K6 := Blk.get (hX.below hW) (i := 6) rfl
    first | (go_simp; with_reducible rfl) | go_simp
  (try simp only [Act.put, List.setIfInBounds_toArray]); (try simp only [List.set_cons_succ]); (try simp only [List.set_cons_zero])
  refine r_flt RB_refl 5 63 #[true, true, true, true, false, true, false, false, false] (by simp only [List.getElem?_toArray, List.getElem?_cons_succ, List.getElem?_cons_zero]; rfl) (by rfl) (by kernel_rfl) (by kernel_rfl) (by kernel_rfl) (fun _ _ _ _ h => h) rfl (by rfl) ?_
  apply Exists.intro
  apply And.intro
  · intro W hW
    have K0 := Blk.get (hX.below hW) (i := 0) rfl
    have K1 := Blk.get (hX.below hW) (i := 1) rfl
    have K2 := Blk.get (hX.below hW) (i := 2) rfl
    have K3 := Blk.get (hX.below hW) (i := 3) rfl
    have K4 := Blk.get (hX.below hW) (i := 4) rfl
    have K5 := Blk.get (hX.below hW) (i := 5) rfl
    have K6 := Blk.get (hX.below hW) (i := 6) rfl
    first | (go_simp; with_reducible rfl) | go_simp
  (try simp only [Act.put, List.setIfInBounds_toArray]); (try simp only [List.set_cons_succ]); (try simp only [List.set_cons_zero])
  refine r_one RB_trans 4 (by kernel_rfl) ?_
  refine alt_call 62 #[true, true, true, true, true, true, false, false, false] (by simp only [List.getElem?_toArray, List.getElem?_cons_succ, List.getElem?_cons_zero]; rfl) (by rfl) rfl (by rfl) (by go_simp; first | exact ⟨rfl, rfl⟩ | rfl) ?_
  refine (HCL.out _ o6 hq1).mono ?_
  rintro r wa ⟨A8, c8, rfl, o8, b8, _, _⟩
  refine ⟨_, rfl, b8, ?_⟩
  have hX := hX.below b8
  have hQ := hQ.below b8
  have o6 := RdB.below o6 b8
  have bb := bb.thenB' b8
  (try simp only [Act.put, List.setIfInBounds_toArray]); (try simp only [List.set_cons_succ]); (try simp only [List.set_cons_zero])
  refine r_one RB_trans 6 (by kernel_rfl) ?_
  refine alt_call 64 #[true, true, true, true, true, true, true, false, false] (by simp only [List.getElem?_toArray, List.getElem?_cons_succ, List.getElem?_cons_zero]; rfl) (by rfl) rfl (by rfl) (by go_simp; first | exact ⟨rfl, rfl⟩ | rfl) ?_
  refine (HSM.out A8 c8 _ o8 o6).mono ?_
  rintro r wb ⟨rfl, b10⟩
  refine ⟨_, rfl, b10, ?_⟩
  have hX := hX.below b10
  have hQ := hQ.below b10
  have o6 := RdB.below o6 b10
  have bb := bb.thenB' b10
  (try simp only [Act.put, List.setIfInBounds_toArray]); (try simp only [List.set_cons_succ]); (try simp only [List.set_cons_zero])
  refine r_flt RB_refl 7 65 #[true, true, true, true, true, true, true, true, false] (by simp only [List.getElem?_toArray, List.getElem?_cons_succ, List.getElem?_cons_zero]; rfl) (by rfl) (by kernel_rfl) (by kernel_rfl) (by kernel_rfl) (fun _ _ _ _ h => h) rfl (by rfl) ?_
  apply Exists.intro
  apply And.intro
  · intro W hW
    first | (go_simp; with_reducible rfl) | go_simp
  (try simp only [Act.put, List.setIfInBounds_toArray]); (try simp only [List.set_cons_succ]); (try simp only [List.set_cons_zero])
  refine r_flt RB_refl 8 66 #[true, true, true, true, true, true, true, true, true] (by simp only [List.getElem?_toArray, List.getElem?_cons_succ, List.getElem?_cons_zero]; rfl) (by rfl) (by kernel_rfl) (by kernel_rfl) (by kernel_rfl) (fun _ _ _ _ h => h) rfl (by rfl) ?_
  apply Exists.intro
  apply And.intro
  · intro W hW
    first | (go_simp; with_reducible rfl) | go_simp
  (try simp only [Act.put, List.setIfInBounds_toArray]); (try simp only [List.set_cons_succ]); (try simp only [List.set_cons_zero])
  refine r_done (by kernel_rfl) ?_
  skip
  clear HCL HSM b8 b10 o8
  have hR := hQ
  clear hQ
  by_cases hs : sm = true
  case neg =>
    have hs0 : sm = false := by simpa using hs
    have HV : Hid (res = (zeroE, 70)) := by
      have h := HU4.out; unfold Hid; rw [h, HO2.out, hs0, if_neg (by simp)]
    clear hs HU4 HO2
    subst hs0
    go_upto_region 19 with fail
    clear hX o6
    go_wp2_with first
      | (with_reducible show wpList _ _ _ _ _ _
         refine wpList_rowB rfl 24 (.tmp 2) (.tmp 67) rfl w.heap.size 24 _ #[.int .i64 0, .int .i64 0, .int .i64 0, .int .i64 0, .int .i64 0, .int .i64 0, .slice none 0 0] rfl rfl hR infoEn7 rfl (by simp [Value.oneCell']) ?_
         intro wz hRz mz
         have bbz := bb.thenM mz bb.size (fun i hi e => by have e : i = w.heap.size := e; omega))
    (try simp only [Exit.inBlock, Exit.then])
    refine bodyPost_ret (results_cell_tmp rfl _ _ w.heap.size _ _ (0, 0) _ rfl hRz Tryd.underlying24 rfl infoEn7) rfl ?_
    unfold RUnpacked
    rw [HV.out]
    exact ⟨none, 0, rfl, RdB.nil, bbz, Nat.le_refl _, Nat.zero_le _⟩
  have HV : Hid (res = (⟨q1, q2, k, q3, q4, q5, d⟩, 0)) := by
    have h := HU4.out; unfold Hid; rw [h, HO2.out, if_pos hs]
  have hs1 : sm = true := hs
  clear hs HU4 HO2
  subst hs1
  go_upto_region 20 with fail
  go_wp2_with first
    | (with_reducible show wpList _ _ _ _ _ _
       refine wpList_load_row rfl 24 (.tmp 9) rfl xb rfl 24 _ (0, 0) _ hX Tryd.underlying24 rfl infoEn7 ?_)
    | (with_reducible show wpList _ _ _ _ _ _
       refine wpList_rowB rfl 24 (.tmp 2) (.tmp 68) rfl w.heap.size 24 _ #[.int .i64 q1, .int .i64 q2, .int .i64 k, .int .i64 q3, .int .i64 q4, .int .i64 q5, .slice A6 n6 c6] rfl rfl hR infoEn7 rfl (by simp [Value.oneCell']) ?_
       intro wz hRz mz
       have bbz := bb.thenM mz bb.size (fun i hi e => by have e : i = w.heap.size := e; omega)
       have oz : RdB wz D A6 d := Rd.mod o6 mz (fun x hx e => by have e : x = w.heap.size := e; have := (hDw.out _ hx).2; omega))
  (try simp only [Exit.inBlock, Exit.then])
  refine bodyPost_ret (results_cell_tmp rfl _ _ w.heap.size _ _ (0, 0) _ rfl hRz Tryd.underlying24 rfl infoEn7) rfl ?_
  unfold RUnpacked
  rw [HV.out]
  have hn6 := hn6.out
  subst hn6
  exact ⟨A6, c6, rfl, Rd.imp oz (fun x _ hx => (hDw.out _ hx).1) (by decide), bbz, hq1, hq2⟩
end Go.Proofs.YthpmmnpjdpgamaaDoor
