/- The entry of bytes: the code's Unpack. -/
import Derived.Test.YthpmmnpjdpgamaaDoorEn5
import Derived.Deep.CutRange
import Derived.Deep.CutBlock
namespace Go.Proofs.YthpmmnpjdpgamaaDoor
open Go.RowKit
set_option linter.unusedVariables false
set_option maxRecDepth 100000

def rawE (k : Int) (b : List UInt8) : E7 × St :=
  (⟨(rNum 6 (b, 0)).1, (rNum 1 (rNum 6 (b, 0)).2).1, k, (rNum 2 (rNum 1 (rNum 6 (b, 0)).2).2).1, (rNum 2 (rNum 2 (rNum 1 (rNum 6 (b, 0)).2).2).2).1, (rNum 1 (rNum 2 (rNum 2 (rNum 1 (rNum 6 (b, 0)).2).2).2).2).1,
    (rBlob 128 (rNum 1 (rNum 2 (rNum 2 (rNum 1 (rNum 6 (b, 0)).2).2).2).2).2).1⟩, rEnd (rBlob 128 (rNum 1 (rNum 2 (rNum 2 (rNum 1 (rNum 6 (b, 0)).2).2).2).2).2).2)
def zeroE : E7 := ⟨0, 0, 0, 0, 0, 0, []⟩
def okE (e : E7) : Bool := mayE e && sameO (cleanO e) e
def unpX (x : Nx) (m : Nat) : E7 × Int :=
  if x.e ≠ 0 then (zeroE, x.e) else if x.fin ≠ m then (zeroE, 11) else
  if (rawE x.k x.body).2.2 ≠ 0 then (zeroE, (rawE x.k x.body).2.2) else if okE (rawE x.k x.body).1 = true then ((rawE x.k x.body).1, 0) else (zeroE, 70)
def unpO (b : List UInt8) : E7 × Int := unpX (nextO b) b.length
theorem next_good {b : List UInt8} (h : (nextO b).e = 0) : (nextO b).fin ≤ b.length ∧ (nextO b).rest = b.drop (nextO b).fin ∧ (nextO b).body.length ≤ 8192 := by
  unfold nextO at h ⊢
  split at h
  · exact absurd h (by show ¬ (10 : Int) = 0; decide)
  rename_i h1
  rw [if_neg h1]
  split at h
  · exact absurd h (by show ¬ (11 : Int) = 0; decide)
  rename_i h2
  rw [if_neg h2]
  split at h
  · exact absurd h (by show ¬ (20 : Int) = 0; decide)
  rename_i h3
  rw [if_neg h3]
  split at h
  · exact absurd h (by show ¬ (11 : Int) = 0; decide)
  rename_i h4
  rw [if_neg h4]
  split at h
  · exact absurd h (by show ¬ (10 : Int) = 0; decide)
  rename_i h5
  rw [if_neg h5]
  split at h
  · exact absurd h (by show ¬ (20 : Int) = 0; decide)
  rename_i h6
  rw [if_neg h6]
  refine ⟨by show 12 + lenF b ≤ b.length; omega, rfl, ?_⟩
  show (bodyF b (lenF b)).length ≤ 8192
  rw [bodyF_len b _ (by omega)]
  omega
theorem clean_same_iff (e : E7) : sameO (cleanO e) e = true ↔ (cleanO e).off = e.off ∧ (cleanO e).len = e.len ∧ (cleanO e).snap = e.snap ∧ (cleanO e).data.length = e.data.length := by
  rw [sameO_iff]
  obtain ⟨s, o, k, f, l, n, d⟩ := e
  unfold cleanO
  dsimp only
  constructor
  · intro h
    injection h with h1 h2 h3 h4 h5 h6 h7
    exact ⟨h4, h5, h6, by rw [h7]⟩
  · rintro ⟨h4, h5, h6, h7⟩
    rw [h4, h5, h6]
    have h8 : (if k = 1 then d else []) = d := by
      split
      · rfl
      · rename_i hk
        rw [if_neg hk] at h7
        exact (List.eq_nil_of_length_eq_zero h7.symm).symm
    rw [h8]
theorem infoI1 : (Tryd.prog.info? 3).map (·.size) = some 1 := by kernel_rfl
theorem infoS1 : (Tryd.prog.info? 22).map (·.size) = some 1 := by kernel_rfl
def z7 : Array Value := #[.int .i64 0, .int .i64 0, .int .i64 0, .int .i64 0, .int .i64 0, .int .i64 0, .slice none 0 0]
theorem Rdr.old {w : World} {g : Nat} {D : Nat → Prop} {s : St} (h : Rdr w g D s) : Rdr w g (fun b => D b ∧ b < w.heap.size) s := by
  obtain ⟨A, c, h1, h2, h3, h4, h5⟩ := h
  exact ⟨A, c, h1, Rd.imp h2 (fun b hb hd => ⟨hd, hb⟩) (by omega), h3, h4, fun hx => h5 hx.1⟩
theorem rTake_len (n : Nat) (s : St) : (rTake n s).1.length ≤ n := by
  unfold rTake
  split
  · split
    · exact Nat.zero_le _
    · show (s.1.take n).length ≤ n; rw [List.length_take]; omega
  · exact Nat.zero_le _
theorem rBlob_big (m : Int) (s : St) : (rBlob m s).1.length ≤ big := by
  have hb := rNum2_bd s
  unfold rBlob big
  dsimp only
  split
  · exact Nat.zero_le _
  · have := rTake_len (rNum 2 s).1.toNat (rNum 2 s).2
    omega
/-- What Unpack tells. -/
def Unpacked (x : E7 × Int) (w : World) (r : Ending) (w' : World) : Prop := ∃ A' c', r = .returned (.tuple #[enV x.1 A' c', .int .i64 x.2]) ∧ OwnB w' w.heap.size (.slice A' x.1.data.length c') x.1.data ∧ Below w.heap.size w w'

set_option maxHeartbeats 8000000 in
theorem Unpack_any (D : Nat → Prop) (A : Option Addr) (c : Nat) (b : List UInt8) (w : World) (h : RdB w D A b) (hl : b.length ≤ 1000000) (hc : b.length ≤ c) (hm : c ≤ 9223372036854775807) (ht : Tab w) (hte : TabE w) :
    Calls Tryd.prog 15 #[.slice A b.length c] w (Unpacked (unpO b) w) := by
  have bn := below_new w (.cells z7 24)
  have hR := Blk.new w 24 z7
  have hnx := Next_any D A c b (w.alloc (.cells z7 24)) (RdB.below h bn) hl hc hm (ht.below bn)
  have HG := Lib.hid (fun h => next_good (b := b) h)
  have HU : Hid (unpO b = unpX (nextO b) b.length) := rfl
  generalize unpO b = res at *
  unfold z7 at hnx bn hR
  generalize nextO b = nx at *
  obtain ⟨k, body, rest, fin, er⟩ := nx
  dsimp only at hnx HG HU
  go_enter Tryd.func15, Tryd.ntmps15
  go_wp2_with fail
  refine hnx.mono ?_
  clear hnx
  rintro r w1 ⟨v1, v2, rfl, o1, o2, b1⟩
  obtain ⟨A1, n1, c1, rfl, hn1, _, _⟩ := OwnB.form' o1
  obtain ⟨A2, n2, c2, rfl, hn2, _, _⟩ := OwnB.form' o2
  have hR := hR.below b1
  have bb := bn.thenB' b1
  clear bn b1
  by_cases he : er = 0
  case neg =>
    have HV : Hid (res = (zeroE, er)) := by have h := HU.out; unfold Hid; rw [h]; unfold unpX; rw [if_pos he]
    have e1 : (er == 0) = false := by simp [he]
    have e2 : (er != 0) = true := by simp [he]
    clear he HU
    go_wp2_with first
      | (with_reducible show wpList _ _ _ _ _ _
         refine wpList_rowB rfl 24 (.tmp 2) (.tmp 28) rfl w.heap.size 24 _ #[.int .i64 0, .int .i64 0, .int .i64 0, .int .i64 0, .int .i64 0, .int .i64 0, .slice none 0 0] rfl rfl hR infoEn7 rfl (by simp [Value.oneCell']) ?_
         intro wz hRz mz
         have bbz := bb.thenM mz bb.size (fun i hi e => by have e : i = w.heap.size := e; omega))
    (try simp only [Exit.inBlock, Exit.then])
    refine bodyPost_ret (results_cell_tmp rfl _ _ w.heap.size _ _ (0, 0) _ rfl hRz Tryd.underlying24 rfl infoEn7) rfl ?_
    unfold Unpacked
    rw [HV.out]
    exact ⟨none, 0, rfl, OwnB.nil, bbz⟩
  subst he
  have HG := Lib.hid (HG.out rfl)
  by_cases hf : fin = b.length
  case neg =>
    have HV : Hid (res = (zeroE, 11)) := by have h := HU.out; unfold Hid; rw [h]; unfold unpX; rw [if_neg (by simp), if_pos hf]
    have hr0 : (0 : Int) < (n2 : Int) := by
      have h1 := HG.out.1; have h2 := congrArg List.length HG.out.2.1
      rw [List.length_drop] at h2
      have := hn2.out
      omega
    clear hf HU HG
    go_wp2_with first
      | (with_reducible show wpList _ _ _ _ _ _
         refine wpList_rowB rfl 24 (.tmp 2) (.tmp 28) rfl w.heap.size 24 _ #[.int .i64 0, .int .i64 0, .int .i64 0, .int .i64 0, .int .i64 0, .int .i64 0, .slice none 0 0] rfl rfl hR infoEn7 rfl (by simp [Value.oneCell']) ?_
         intro wz hRz mz
         have bbz := bb.thenM mz bb.size (fun i hi e => by have e : i = w.heap.size := e; omega))
    (try simp only [Exit.inBlock, Exit.then])
    refine bodyPost_ret (results_cell_tmp rfl _ _ w.heap.size _ _ (0, 0) _ rfl hRz Tryd.underlying24 rfl infoEn7) rfl ?_
    unfold Unpacked
    rw [HV.out]
    exact ⟨none, 0, rfl, OwnB.nil, bbz⟩
  have hr0 : ¬ (0 : Int) < (n2 : Int) := by
    have h1 := HG.out.1; have h2 := congrArg List.length HG.out.2.1
    rw [List.length_drop] at h2
    have := hn2.out
    omega
  have HU2 : Hid (res = if (rawE k body).2.2 ≠ 0 then (zeroE, (rawE k body).2.2) else if okE (rawE k body).1 = true then ((rawE k body).1, 0) else (zeroE, 70)) := by
    have h := HU.out; unfold Hid; rw [h]; unfold unpX; rw [if_neg (by simp), if_neg (by simp [hf])]
  have hlb : body.length ≤ big := by have := HG.out.2.2; unfold big; omega
  have HLB := Lib.hid hlb
  clear hf HU HG hlb
  have hrd := Read_any _ A1 c1 body w1 (OwnB.rd' o1) HLB.out
  rw [← hn1.out] at hrd
  go_wp2_with fail
  refine hrd.mono ?_
  clear hrd
  rintro r w2 ⟨g, rfl, hRd, hgw, b2⟩
  have hrw : w.heap.size < w1.heap.size := hR.lt
  have hR := hR.below b2
  have bb := bb.thenB' b2
  have hgl := hRd.lt
  have hRd := Rdr.old hRd
  have bnx := below_new w2 (.cells #[.int .i64 0, .int .i64 0, .int .i64 k, .int .i64 0, .int .i64 0, .int .i64 0, .slice none 0 0] 24)
  have hX := Blk.new w2 24 #[.int .i64 0, .int .i64 0, .int .i64 k, .int .i64 0, .int .i64 0, .int .i64 0, .slice none 0 0]
  have hRd := hRd.below bnx
  have hR := hR.below bnx
  have bb := bb.thenB' bnx
  have hx2 := bnx.size
  clear bnx b2 o1 o2 hr0 hn1 hn2
  go_wp2_with fail
  generalize w2.alloc (.cells #[.int .i64 0, .int .i64 0, .int .i64 k, .int .i64 0, .int .i64 0, .int .i64 0, .slice none 0 0] 24) = w3 at *
  generalize w2.heap.size = xb at *
  have hgx : g ≠ xb := by omega
  have hrg : w.heap.size ≠ g := by omega
  have hrx : w.heap.size ≠ xb := by omega
  have HRAW : Hid (rawE k body = (⟨(rNum 6 (body, 0)).1, (rNum 1 (rNum 6 (body, 0)).2).1, k, (rNum 2 (rNum 1 (rNum 6 (body, 0)).2).2).1, (rNum 2 (rNum 2 (rNum 1 (rNum 6 (body, 0)).2).2).2).1, (rNum 1 (rNum 2 (rNum 2 (rNum 1 (rNum 6 (body, 0)).2).2).2).2).1,
    (rBlob 128 (rNum 1 (rNum 2 (rNum 2 (rNum 1 (rNum 6 (body, 0)).2).2).2).2).2).1⟩, rEnd (rBlob 128 (rNum 1 (rNum 2 (rNum 2 (rNum 1 (rNum 6 (body, 0)).2).2).2).2).2).2)) := rfl
  generalize rawE k body = raw at *
  refine (Num_any' g _ (body, 0) 6 _ hRd).mono ?_
  rintro r y1 ⟨rfl, hRd, m⟩
  have hX := hX.mod m (fun e => hgx (show xb = g from e).symm)
  have hR := hR.mod m (fun e => hrg e)
  have bb := bb.thenM m bb.size (fun i hi e => by have e : i = g := e; omega)
  clear m
  generalize rNum 6 (body, 0) = p1 at *
  go_wp2_with first
    | (with_reducible show wpList _ _ _ _ _ _
       refine wpList_fldB rfl 3 (.tmp 36) (.tmp 35) rfl xb 0 24 _ (.int .i64 p1.1) rfl rfl rfl infoI1 hX 7 rfl (by decide) ?_
       intro z1 hX1 m1
       have hRd1 := hRd.mod m1 (fun e => hgx e) (fun b hb e => by have e : b = xb := e; omega)
       have hR1 := hR.mod m1 (fun e => hrx e)
       have bb1 := bb.thenM m1 bb.size (fun i hi e => by have e : i = xb := e; omega))
  clear hRd hR bb m1
  have hX : Blk z1 xb 24 #[.int .i64 p1.1, .int .i64 0, .int .i64 k, .int .i64 0, .int .i64 0, .int .i64 0, .slice none 0 0] := hX1
  have hRd := hRd1
  have hR := hR1
  have bb := bb1
  clear hRd1 hR1 bb1 hX1
  refine (Num_any' g _ p1.2 1 _ hRd).mono ?_
  rintro r y2 ⟨rfl, hRd, m⟩
  have hX := hX.mod m (fun e => hgx (show xb = g from e).symm)
  have hR := hR.mod m (fun e => hrg e)
  have bb := bb.thenM m bb.size (fun i hi e => by have e : i = g := e; omega)
  clear m
  generalize rNum 1 p1.2 = p2 at *
  go_wp2_with first
    | (with_reducible show wpList _ _ _ _ _ _
       refine wpList_fldB rfl 3 (.tmp 39) (.tmp 38) rfl xb 1 24 _ (.int .i64 p2.1) rfl rfl rfl infoI1 hX 7 rfl (by decide) ?_
       intro z2 hX2 m2
       have hRd2 := hRd.mod m2 (fun e => hgx e) (fun b hb e => by have e : b = xb := e; omega)
       have hR2 := hR.mod m2 (fun e => hrx e)
       have bb2 := bb.thenM m2 bb.size (fun i hi e => by have e : i = xb := e; omega))
  clear hRd hR bb m2
  have hX : Blk z2 xb 24 #[.int .i64 p1.1, .int .i64 p2.1, .int .i64 k, .int .i64 0, .int .i64 0, .int .i64 0, .slice none 0 0] := hX2
  have hRd := hRd2
  have hR := hR2
  have bb := bb2
  clear hRd2 hR2 bb2 hX2
  refine (Num_any' g _ p2.2 2 _ hRd).mono ?_
  rintro r y3 ⟨rfl, hRd, m⟩
  have hX := hX.mod m (fun e => hgx (show xb = g from e).symm)
  have hR := hR.mod m (fun e => hrg e)
  have bb := bb.thenM m bb.size (fun i hi e => by have e : i = g := e; omega)
  clear m
  generalize rNum 2 p2.2 = p3 at *
  go_wp2_with first
    | (with_reducible show wpList _ _ _ _ _ _
       refine wpList_fldB rfl 3 (.tmp 42) (.tmp 41) rfl xb 3 24 _ (.int .i64 p3.1) rfl rfl rfl infoI1 hX 7 rfl (by decide) ?_
       intro z3 hX3 m3
       have hRd3 := hRd.mod m3 (fun e => hgx e) (fun b hb e => by have e : b = xb := e; omega)
       have hR3 := hR.mod m3 (fun e => hrx e)
       have bb3 := bb.thenM m3 bb.size (fun i hi e => by have e : i = xb := e; omega))
  clear hRd hR bb m3
  have hX : Blk z3 xb 24 #[.int .i64 p1.1, .int .i64 p2.1, .int .i64 k, .int .i64 p3.1, .int .i64 0, .int .i64 0, .slice none 0 0] := hX3
  have hRd := hRd3
  have hR := hR3
  have bb := bb3
  clear hRd3 hR3 bb3 hX3
  refine (Num_any' g _ p3.2 2 _ hRd).mono ?_
  rintro r y4 ⟨rfl, hRd, m⟩
  have hX := hX.mod m (fun e => hgx (show xb = g from e).symm)
  have hR := hR.mod m (fun e => hrg e)
  have bb := bb.thenM m bb.size (fun i hi e => by have e : i = g := e; omega)
  clear m
  generalize rNum 2 p3.2 = p4 at *
  go_wp2_with first
    | (with_reducible show wpList _ _ _ _ _ _
       refine wpList_fldB rfl 3 (.tmp 45) (.tmp 44) rfl xb 4 24 _ (.int .i64 p4.1) rfl rfl rfl infoI1 hX 7 rfl (by decide) ?_
       intro z4 hX4 m4
       have hRd4 := hRd.mod m4 (fun e => hgx e) (fun b hb e => by have e : b = xb := e; omega)
       have hR4 := hR.mod m4 (fun e => hrx e)
       have bb4 := bb.thenM m4 bb.size (fun i hi e => by have e : i = xb := e; omega))
  clear hRd hR bb m4
  have hX : Blk z4 xb 24 #[.int .i64 p1.1, .int .i64 p2.1, .int .i64 k, .int .i64 p3.1, .int .i64 p4.1, .int .i64 0, .slice none 0 0] := hX4
  have hRd := hRd4
  have hR := hR4
  have bb := bb4
  clear hRd4 hR4 bb4 hX4
  refine (Num_any' g _ p4.2 1 _ hRd).mono ?_
  rintro r y5 ⟨rfl, hRd, m⟩
  have hX := hX.mod m (fun e => hgx (show xb = g from e).symm)
  have hR := hR.mod m (fun e => hrg e)
  have bb := bb.thenM m bb.size (fun i hi e => by have e : i = g := e; omega)
  clear m
  generalize rNum 1 p4.2 = p5 at *
  go_wp2_with first
    | (with_reducible show wpList _ _ _ _ _ _
       refine wpList_fldB rfl 3 (.tmp 48) (.tmp 47) rfl xb 5 24 _ (.int .i64 p5.1) rfl rfl rfl infoI1 hX 7 rfl (by decide) ?_
       intro z5 hX5 m5
       have hRd5 := hRd.mod m5 (fun e => hgx e) (fun b hb e => by have e : b = xb := e; omega)
       have hR5 := hR.mod m5 (fun e => hrx e)
       have bb5 := bb.thenM m5 bb.size (fun i hi e => by have e : i = xb := e; omega))
  clear hRd hR bb m5
  have hX : Blk z5 xb 24 #[.int .i64 p1.1, .int .i64 p2.1, .int .i64 k, .int .i64 p3.1, .int .i64 p4.1, .int .i64 p5.1, .slice none 0 0] := hX5
  have hRd := hRd5
  have hR := hR5
  have bb := bb5
  clear hRd5 hR5 bb5 hX5
  refine (Blob_any' g _ p5.2 128 _ hRd).mono ?_
  rintro r y6 ⟨v6, rfl, o6, hRd, m⟩
  have hsz6 : xb < z5.heap.size := hX.lt
  have hgz6 : g < z5.heap.size := by omega
  have hX := hX.mod m (fun e => hgx (show xb = g from e).symm)
  have hR := hR.mod m (fun e => hrg e)
  have bb := bb.thenM m bb.size (fun i hi e => by have e : i = g := e; omega)
  clear m
  have HD6 := Lib.hid (rBlob_big 128 p5.2)
  generalize rBlob 128 p5.2 = p6 at *
  obtain ⟨A6, n6, c6, rfl, hn6, _, _⟩ := OwnB.form' o6
  go_wp2_with first
    | (with_reducible show wpList _ _ _ _ _ _
       refine wpList_fldB rfl 22 (.tmp 51) (.tmp 50) rfl xb 6 24 _ (.slice A6 n6 c6) rfl rfl rfl infoS1 hX 7 rfl (by decide) ?_
       intro z6 hX6 m6
       have hRd6 := hRd.mod m6 (fun e => hgx e) (fun b hb e => by have e : b = xb := e; omega)
       have hR6 := hR.mod m6 (fun e => hrx e)
       have o66 := OwnB.mod o6 m6 (fun i hi e => by have e : i = xb := e; omega)
       have bb6 := bb.thenM m6 bb.size (fun i hi e => by have e : i = xb := e; omega))
  clear hRd hR bb o6
  have hX : Blk z6 xb 24 #[.int .i64 p1.1, .int .i64 p2.1, .int .i64 k, .int .i64 p3.1, .int .i64 p4.1, .int .i64 p5.1, .slice A6 n6 c6] := hX6
  have hRd := hRd6
  have hR := hR6
  have bb := bb6
  have o6 := o66
  clear hRd6 hR6 bb6 hX6 o66 m6
  refine (End_any g _ p6.2 _ hRd).mono ?_
  rintro r y7 ⟨rfl, hRd, m⟩
  have hX := hX.mod m (fun e => hgx (show xb = g from e).symm)
  have hR := hR.mod m (fun e => hrg e)
  have bb := bb.thenM m bb.size (fun i hi e => by have e : i = g := e; omega)
  have o6 := OwnB.mod o6 m (fun i hi e => by have e : i = g := e; omega)
  clear m hRd
  generalize rEnd p6.2 = p7 at *
  have HU3 : Hid (res = if p7.2 ≠ 0 then (zeroE, p7.2) else if okE ⟨p1.1, p2.1, k, p3.1, p4.1, p5.1, p6.1⟩ = true then (⟨p1.1, p2.1, k, p3.1, p4.1, p5.1, p6.1⟩, 0) else (zeroE, 70)) := by
    have h := HU2.out; rw [HRAW.out] at h; exact h
  clear HU2 HRAW
  generalize p1.1 = q1 at *
  generalize p2.1 = q2 at *
  generalize p3.1 = q3 at *
  generalize p4.1 = q4 at *
  generalize p5.1 = q5 at *
  generalize p6.1 = d at *
  generalize p7.2 = en at *
  by_cases hen : en = 0
  case neg =>
    have HV : Hid (res = (zeroE, en)) := by have h := HU3.out; unfold Hid; rw [h, if_pos hen]
    have e2 : (en != 0) = true := by simp [hen]
    clear hen HU3
    go_wp2_with first
      | (with_reducible show wpList _ _ _ _ _ _
         refine wpList_rowB rfl 24 (.tmp 2) (.tmp 56) rfl w.heap.size 24 _ #[.int .i64 0, .int .i64 0, .int .i64 0, .int .i64 0, .int .i64 0, .int .i64 0, .slice none 0 0] rfl rfl hR infoEn7 rfl (by simp [Value.oneCell']) ?_
         intro wz hRz mz
         have bbz := bb.thenM mz bb.size (fun i hi e => by have e : i = w.heap.size := e; omega))
    (try simp only [Exit.inBlock, Exit.then])
    refine bodyPost_ret (results_cell_tmp rfl _ _ w.heap.size _ _ (0, 0) _ rfl hRz Tryd.underlying24 rfl infoEn7) rfl ?_
    unfold Unpacked
    rw [HV.out]
    exact ⟨none, 0, rfl, OwnB.nil, bbz⟩
  subst hen
  have HU4 : Hid (res = if okE ⟨q1, q2, k, q3, q4, q5, d⟩ = true then (⟨q1, q2, k, q3, q4, q5, d⟩, 0) else (zeroE, 70)) := by
    have h := HU3.out; unfold Hid; rw [h, if_neg (by simp)]
  clear HU3
  have hcl := Clean_any ⟨q1, q2, k, q3, q4, q5, d⟩ _ A6 c6 y7 (OwnB.rd' o6) HD6.out (hte.below (bb.mono (Nat.le_refl _)))
  have hck := fun W => Check_any ⟨q1, q2, k, q3, q4, q5, d⟩ A6 c6 W
  have HCS := Lib.hid (clean_same_iff ⟨q1, q2, k, q3, q4, q5, d⟩)
  have HOK : Hid (okE ⟨q1, q2, k, q3, q4, q5, d⟩ = (mayE ⟨q1, q2, k, q3, q4, q5, d⟩ && sameO (cleanO ⟨q1, q2, k, q3, q4, q5, d⟩) ⟨q1, q2, k, q3, q4, q5, d⟩)) := rfl
  unfold Cleaned enV enA at hcl
  unfold enV enA at hck
  generalize mayE ⟨q1, q2, k, q3, q4, q5, d⟩ = may at *
  generalize hew : errE may = ew at *
  have HEW := Lib.hid hew
  clear hew
  generalize cleanO ⟨q1, q2, k, q3, q4, q5, d⟩ = ce at *
  obtain ⟨s', o', k', f', l', n', d'⟩ := ce
  dsimp only at hcl hck HCS
  rw [← hn6.out] at hcl hck HCS
  go_wp2_with first
    | (with_reducible show wpList _ _ _ _ _ _
       refine wpList_load_row rfl 24 (.tmp 9) rfl xb rfl 24 _ (0, 0) _ hX Tryd.underlying24 rfl infoEn7 ?_)
  refine hcl.mono ?_
  clear hcl
  rintro r y8 ⟨A8, c8, rfl, o8, b8⟩
  have hX := hX.below b8
  have hR := hR.below b8
  have bb := bb.thenB' b8
  have o6 := OwnB.below o6 b8
  have bn8 := below_new y8 (.cells #[.int .i64 s', .int .i64 o', .int .i64 k', .int .i64 f', .int .i64 l', .int .i64 n', .slice A8 d'.length c8] 24)
  have hC := Blk.new y8 24 #[.int .i64 s', .int .i64 o', .int .i64 k', .int .i64 f', .int .i64 l', .int .i64 n', .slice A8 d'.length c8]
  have hX := hX.below bn8
  have hR := hR.below bn8
  have bb := bb.thenB' bn8
  have o6 := OwnB.below o6 bn8
  clear o8 b8 bn8
  go_wp2_with first
    | (with_reducible show wpList _ _ _ _ _ _
       refine wpList_load_row rfl 24 (.tmp 9) rfl xb rfl 24 _ (0, 0) _ hX Tryd.underlying24 rfl infoEn7 ?_)
  refine (hck _).mono ?_
  clear hck
  rintro r y9 ⟨rfl, b9⟩
  have hX := hX.below b9
  have hR := hR.below b9
  have hC := hC.below b9
  have bb := bb.thenB' b9
  have o6 := OwnB.below o6 b9
  generalize y8.heap.size = cb at *
  have x3 := Blk.get hX (i := 3) rfl
  have x4 := Blk.get hX (i := 4) rfl
  have x5 := Blk.get hX (i := 5) rfl
  have x6 := Blk.get hX (i := 6) rfl
  have k3 := Blk.get hC (i := 3) rfl
  have k4 := Blk.get hC (i := 4) rfl
  have k5 := Blk.get hC (i := 5) rfl
  have k6 := Blk.get hC (i := 6) rfl
  clear b9
  by_cases hmy : may = true
  case neg =>
    have hm0 : may = false := by simpa using hmy
    obtain rfl : ew = 70 := by rw [← HEW.out, hm0]; rfl
    have HV : Hid (res = (zeroE, 70)) := by
      have h := HU4.out; unfold Hid; rw [h, HOK.out, hm0, if_neg (by simp)]
    clear hm0 hmy HEW
    clear HU4 HOK HCS
    go_upto_region 19 with fail
    clear x3 x4 x5 x6 k3 k4 k5 k6 hX hC o6 hn6
    go_wp2_with first
      | (with_reducible show wpList _ _ _ _ _ _
         refine wpList_rowB rfl 24 (.tmp 2) (.tmp 93) rfl w.heap.size 24 _ #[.int .i64 0, .int .i64 0, .int .i64 0, .int .i64 0, .int .i64 0, .int .i64 0, .slice none 0 0] rfl rfl hR infoEn7 rfl (by simp [Value.oneCell']) ?_
         intro wz hRz mz
         have bbz := bb.thenM mz bb.size (fun i hi e => by have e : i = w.heap.size := e; omega))
    (try simp only [Exit.inBlock, Exit.then])
    refine bodyPost_ret (results_cell_tmp rfl _ _ w.heap.size _ _ (0, 0) _ rfl hRz Tryd.underlying24 rfl infoEn7) rfl ?_
    unfold Unpacked
    rw [HV.out]
    exact ⟨none, 0, rfl, OwnB.nil, bbz⟩
  obtain rfl : ew = 0 := by rw [← HEW.out, hmy]; rfl
  have HOK : Hid (okE ⟨q1, q2, k, q3, q4, q5, d⟩ = (true && sameO ⟨s', o', k', f', l', n', d'⟩ ⟨q1, q2, k, q3, q4, q5, d⟩)) := by have h := HOK.out; rw [hmy] at h; exact h
  clear hmy HEW
  by_cases hf : f' = q3
  case neg =>
    have HV : Hid (res = (zeroE, 70)) := by
      have h := HU4.out; unfold Hid; rw [h, HOK.out, if_neg (by intro h; rw [Bool.true_and] at h; exact hf (HCS.out.1 h).1)]
    have e3 : (f' != q3) = true := by simp [hf]
    clear hf
    clear HU4 HOK HCS
    go_upto_region 19 with fail
    clear x3 x4 x5 x6 k3 k4 k5 k6 hX hC o6 hn6
    go_wp2_with first
      | (with_reducible show wpList _ _ _ _ _ _
         refine wpList_rowB rfl 24 (.tmp 2) (.tmp 93) rfl w.heap.size 24 _ #[.int .i64 0, .int .i64 0, .int .i64 0, .int .i64 0, .int .i64 0, .int .i64 0, .slice none 0 0] rfl rfl hR infoEn7 rfl (by simp [Value.oneCell']) ?_
         intro wz hRz mz
         have bbz := bb.thenM mz bb.size (fun i hi e => by have e : i = w.heap.size := e; omega))
    (try simp only [Exit.inBlock, Exit.then])
    refine bodyPost_ret (results_cell_tmp rfl _ _ w.heap.size _ _ (0, 0) _ rfl hRz Tryd.underlying24 rfl infoEn7) rfl ?_
    unfold Unpacked
    rw [HV.out]
    exact ⟨none, 0, rfl, OwnB.nil, bbz⟩
  subst hf
  by_cases hf : l' = q4
  case neg =>
    have HV : Hid (res = (zeroE, 70)) := by
      have h := HU4.out; unfold Hid; rw [h, HOK.out, if_neg (by intro h; rw [Bool.true_and] at h; exact hf (HCS.out.1 h).2.1)]
    have e3 : (l' != q4) = true := by simp [hf]
    clear hf
    clear HU4 HOK HCS
    go_upto_region 19 with fail
    clear x3 x4 x5 x6 k3 k4 k5 k6 hX hC o6 hn6
    go_wp2_with first
      | (with_reducible show wpList _ _ _ _ _ _
         refine wpList_rowB rfl 24 (.tmp 2) (.tmp 93) rfl w.heap.size 24 _ #[.int .i64 0, .int .i64 0, .int .i64 0, .int .i64 0, .int .i64 0, .int .i64 0, .slice none 0 0] rfl rfl hR infoEn7 rfl (by simp [Value.oneCell']) ?_
         intro wz hRz mz
         have bbz := bb.thenM mz bb.size (fun i hi e => by have e : i = w.heap.size := e; omega))
    (try simp only [Exit.inBlock, Exit.then])
    refine bodyPost_ret (results_cell_tmp rfl _ _ w.heap.size _ _ (0, 0) _ rfl hRz Tryd.underlying24 rfl infoEn7) rfl ?_
    unfold Unpacked
    rw [HV.out]
    exact ⟨none, 0, rfl, OwnB.nil, bbz⟩
  subst hf
  by_cases hf : n' = q5
  case neg =>
    have HV : Hid (res = (zeroE, 70)) := by
      have h := HU4.out; unfold Hid; rw [h, HOK.out, if_neg (by intro h; rw [Bool.true_and] at h; exact hf (HCS.out.1 h).2.2.1)]
    have e3 : (n' != q5) = true := by simp [hf]
    clear hf
    clear HU4 HOK HCS
    go_upto_region 19 with fail
    clear x3 x4 x5 x6 k3 k4 k5 k6 hX hC o6 hn6
    go_wp2_with first
      | (with_reducible show wpList _ _ _ _ _ _
         refine wpList_rowB rfl 24 (.tmp 2) (.tmp 93) rfl w.heap.size 24 _ #[.int .i64 0, .int .i64 0, .int .i64 0, .int .i64 0, .int .i64 0, .int .i64 0, .slice none 0 0] rfl rfl hR infoEn7 rfl (by simp [Value.oneCell']) ?_
         intro wz hRz mz
         have bbz := bb.thenM mz bb.size (fun i hi e => by have e : i = w.heap.size := e; omega))
    (try simp only [Exit.inBlock, Exit.then])
    refine bodyPost_ret (results_cell_tmp rfl _ _ w.heap.size _ _ (0, 0) _ rfl hRz Tryd.underlying24 rfl infoEn7) rfl ?_
    unfold Unpacked
    rw [HV.out]
    exact ⟨none, 0, rfl, OwnB.nil, bbz⟩
  subst hf
  by_cases hf : d'.length = n6
  case neg =>
    have HV : Hid (res = (zeroE, 70)) := by
      have h := HU4.out; unfold Hid; rw [h, HOK.out, if_neg (by intro h; rw [Bool.true_and] at h; exact hf (HCS.out.1 h).2.2.2)]
    have e3 : ((d'.length : Int) != (n6 : Int)) = true := by simp; omega
    clear hf
    clear HU4 HOK HCS
    go_upto_region 19 with fail
    clear x3 x4 x5 x6 k3 k4 k5 k6 hX hC o6 hn6
    go_wp2_with first
      | (with_reducible show wpList _ _ _ _ _ _
         refine wpList_rowB rfl 24 (.tmp 2) (.tmp 93) rfl w.heap.size 24 _ #[.int .i64 0, .int .i64 0, .int .i64 0, .int .i64 0, .int .i64 0, .int .i64 0, .slice none 0 0] rfl rfl hR infoEn7 rfl (by simp [Value.oneCell']) ?_
         intro wz hRz mz
         have bbz := bb.thenM mz bb.size (fun i hi e => by have e : i = w.heap.size := e; omega))
    (try simp only [Exit.inBlock, Exit.then])
    refine bodyPost_ret (results_cell_tmp rfl _ _ w.heap.size _ _ (0, 0) _ rfl hRz Tryd.underlying24 rfl infoEn7) rfl ?_
    unfold Unpacked
    rw [HV.out]
    exact ⟨none, 0, rfl, OwnB.nil, bbz⟩
  have HV : Hid (res = (⟨q1, q2, k, f', l', n', d⟩, 0)) := by
    have h := HU4.out; unfold Hid; rw [h, HOK.out, if_pos (by rw [Bool.true_and]; exact HCS.out.2 ⟨rfl, rfl, rfl, hf⟩)]
  have e3 : ((d'.length : Int) != (n6 : Int)) = false := by simp; omega
  clear HU4 HOK HCS hf
  go_upto_region 20 with fail
  clear x3 x4 x5 x6 k3 k4 k5 k6 hC
  go_wp2_with first
    | (with_reducible show wpList _ _ _ _ _ _
       refine wpList_load_row rfl 24 (.tmp 9) rfl xb rfl 24 _ (0, 0) _ hX Tryd.underlying24 rfl infoEn7 ?_)
    | (with_reducible show wpList _ _ _ _ _ _
       refine wpList_rowB rfl 24 (.tmp 2) (.tmp 94) rfl w.heap.size 24 _ #[.int .i64 q1, .int .i64 q2, .int .i64 k, .int .i64 f', .int .i64 l', .int .i64 n', .slice A6 n6 c6] rfl rfl hR infoEn7 rfl (by simp [Value.oneCell']) ?_
       intro wz hRz mz
       have bbz := bb.thenM mz bb.size (fun i hi e => by have e : i = w.heap.size := e; omega)
       have oz := OwnB.mod o6 mz (fun i hi e => by have e : i = w.heap.size := e; omega))
  (try simp only [Exit.inBlock, Exit.then])
  refine bodyPost_ret (results_cell_tmp rfl _ _ w.heap.size _ _ (0, 0) _ rfl hRz Tryd.underlying24 rfl infoEn7) rfl ?_
  unfold Unpacked
  rw [HV.out]
  have hn6 := hn6.out
  subst hn6
  exact ⟨A6, c6, rfl, OwnB.low oz (by omega), bbz⟩
end Go.Proofs.YthpmmnpjdpgamaaDoor
