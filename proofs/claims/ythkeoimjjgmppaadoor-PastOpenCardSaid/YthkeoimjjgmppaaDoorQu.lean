/- Parts of the proof, joined: PuO. -/
import Derived.Test.YthkeoimjjgmppaaDoorQt
/- PastOpen: the walk. -/
namespace Go.Proofs.YthkeoimjjgmppaaDoor
open Go.RowKit
set_option linter.unusedVariables false
set_option maxRecDepth 100000

theorem Hon.off {w : World} {base g g' : Nat} {vc vr : Value} {L : List CmV} {R : List RcV} {T : TypeId} {cs : Array Value} (h : Hon w base g vc vr L R) (hB : Blk w g' T cs) (hn : ∀ (i : Nat) (b : UInt8), cs[i]? ≠ some (cB b)) : Hon w base g' vc vr L R :=
  have f : ∀ b, (Off3 g vc vr b ∧ b ≠ g') → Off3 g' vc vr b := fun b h => ⟨h.2, h.1.2⟩
  ⟨h.oc, h.ow, h.apt, fun s hs => ⟨Rd.imp (RdB.off (h.al s hs).1 hB hn) (fun b _ hb => f b hb) (by decide), (h.al s hs).2⟩,
    fun s hs => ⟨⟨Rd.imp (RdB.off (h.ar s hs).1.1 hB hn) (fun b _ hb => f b hb) (by decide), (h.ar s hs).1.2⟩, ⟨Rd.imp (RdB.off (h.ar s hs).2.1 hB hn) (fun b _ hb => f b hb) (by decide), (h.ar s hs).2.2⟩⟩⟩
theorem ca_cells (a b c d e : Int) (A : Option Addr) (n m : Nat) (i : Nat) (q : UInt8) : (#[.int .i64 a, .int .i64 b, .int .i64 c, .int .i64 d, .int .i64 e, .slice A n m] : Array Value)[i]? ≠ some (cB q) := by
  unfold cB
  match i with
  | 0 => simp
  | 1 => simp
  | 2 => simp
  | 3 => simp
  | 4 => simp
  | 5 => simp
  | i + 6 => simp
set_option maxHeartbeats 8000000 in
theorem open_walk (W : World) (ht : TabE W) (a0 : Int) (i0 : I64 a0) (A : Option Addr) (X : List CaV) (c : Nat) (hX : CasR W (Old W) A c X) (iX : ∀ s ∈ X, CaI s.x) (x : CaV) (rx : RdC W (Old W) x.A x.x.data x.c) (sx : CaI x.x) :
    Calls Tryd.prog 3 #[.int .i64 a0, .slice A X.length c, .agg #[.int .i64 x.x.image, .int .i64 x.x.kind, .int .i64 x.x.off, .int .i64 x.x.len, .int .i64 x.x.snap, .slice x.A x.x.data.length x.c]] W fun e w' => e = .returned (.bool true) ∧ Below W.heap.size W w' := by
  have b0 := below_new W (.cells #[.int .i64 x.x.image, .int .i64 x.x.kind, .int .i64 x.x.off, .int .i64 x.x.len, .int .i64 x.x.snap, .slice x.A x.x.data.length x.c] 25)
  have hB0 := Blk.new W 25 #[.int .i64 x.x.image, .int .i64 x.x.kind, .int .i64 x.x.off, .int .i64 x.x.len, .int .i64 x.x.snap, .slice x.A x.x.data.length x.c]
  generalize hw0 : W.alloc (.cells #[.int .i64 x.x.image, .int .i64 x.x.kind, .int .i64 x.x.off, .int .i64 x.x.len, .int .i64 x.x.snap, .slice x.A x.x.data.length x.c] 25) = w0 at *
  have haw := awake23 w0 (ht.below b0)
  have hc := hX.cap
  have hm := hX.max
  have hg0 := hB0.lt
  have hX0 : CasR w0 (Old w0) A c X := (hX.below b0).imp fun b hb _ => hb
  go_enter Tryd.func3, Tryd.ntmps3
  go_wp2_with fail
  refine haw.mono ?_
  clear haw hw0
  rintro e w1 ⟨rfl, bb⟩
  obtain ⟨g5, hg5⟩ : ∃ g, W.heap.size = g := ⟨_, rfl⟩
  rw [hg5] at hB0 hg0
  rw [hg5]
  have l5 : w1.cell? ⟨g5, 5, none⟩ = some (.slice x.A x.x.data.length x.c) := ((hB0.below bb).cell 5).trans rfl
  have l1 : w1.cell? ⟨g5, 1, none⟩ = some (.int .i64 x.x.kind) := ((hB0.below bb).cell 1).trans rfl
  by_cases hn : X.length ≤ 15
  rotate_left
  focus
    have hg : (15 : Int) < (X.length : Int) := by omega
    go_wp2_with fail
    go_ret
    exact ⟨rfl, b0.thenB' bb⟩
  have hg : ¬ (15 : Int) < (X.length : Int) := by omega
  by_cases hd : x.x.data.length ≤ 200
  rotate_left
  focus
    have hgd : (200 : Int) < (x.x.data.length : Int) := by omega
    go_wp2_with fail
    go_ret
    exact ⟨rfl, b0.thenB' bb⟩
  have hgd : ¬ (200 : Int) < (x.x.data.length : Int) := by omega
  by_cases hk1 : x.x.kind < 1
  focus
    go_wp2_with fail
    go_ret
    exact ⟨rfl, b0.thenB' bb⟩
  by_cases hk6 : 6 < x.x.kind
  focus
    go_wp2_with fail
    go_ret
    exact ⟨rfl, b0.thenB' bb⟩
  go_wp2_with fail
  have HKI : Hid (1 ≤ x.x.kind ∧ x.x.kind ≤ 6) := Lib.hid ⟨by omega, by omega⟩
  clear l5 l1 hgd hg hk1 hk6
  go_loopw [8] (fun sk wr => ∃ k : Nat, sk = .int .i64 (k : Int) ∧ k ≤ X.length ∧ Hid (∀ s ∈ X.take k, s.x.data.length ≤ 200) ∧ Below w0.heap.size w0 wr) (fun sk _ => X.length - (intOf sk).toNat)
  case atStart => exact ⟨0, rfl, Nat.zero_le _, Lib.hid (fun s hs => absurd hs (by simp)), bb⟩
  case round =>
    clear bb
    obtain ⟨k, rfl, hk, HB, bb⟩ := hrel
    by_cases hlt : k < X.length
    · obtain ⟨ad, hA, _, _, _, _, _, c5⟩ := (hX0.below bb).at2 hlt
      subst hA
      have HS := Lib.hid (fun h => take_step hlt HB.out h)
      generalize X[k] = s at *
      by_cases hs : s.x.data.length ≤ 200
      · have hs' : ¬ (200 : Int) < (s.x.data.length : Int) := by omega
        have H2 := Lib.hid (HS.out hs)
        clear HB HS
        go_wp2_with fail
        go_roundw
        case rel => exact ⟨k + 1, by go_num, hlt, H2, bb⟩
        case measure => simp only [intOf]; omega
      · have hs' : (200 : Int) < (s.x.data.length : Int) := by omega
        clear HB HS
        go_wp2_with fail
        go_ret
        exact ⟨rfl, b0.thenB' bb⟩
    · obtain rfl : k = X.length := by omega
      have HX := Lib.hid (all_LBd HB.out iX)
      clear HB
      have hon := honest_any a0 A c X wr ((hX0.below bb).imp fun b hb h => by have : b < w0.heap.size := h; have := bb.size; show b < wr.heap.size; omega) hn
      go_wp2_with fail
      refine hon.mono ?_
      clear hon
      rintro e w3 ⟨g, vc, vr, L, R, rfl, hH, eL, eR, b3⟩
      have HEL := Lib.hid eL
      have HER := Lib.hid eR
      have hwb := bb.size
      have hw3 := b3.size
      have bb := bb.thenB' b3
      clear b3 eL eR
      have hB3 : Blk w3 g5 25 #[.int .i64 x.x.image, .int .i64 x.x.kind, .int .i64 x.x.off, .int .i64 x.x.len, .int .i64 x.x.snap, .slice x.A x.x.data.length x.c] := hB0.below bb
      have bb := b0.thenB' bb
      have hH3 := hH.off hB3 (ca_cells _ _ _ _ _ _ _ _)
      have rz : RdC W (Off3 g5 vc vr) x.A x.x.data x.c := rx.imp fun b hb h => by
        have h : b < W.heap.size := h
        exact ⟨by omega, fun e => by have := (OwnC.lt hH3.oc b e).1; omega, fun e => by have := (OwnC.lt hH3.ow b e).1; omega⟩
      clear hH
      obtain ⟨A1, c1, A2, c2, rfl, rfl, _, _⟩ := hH3.form
      have hvr3 : ∀ b, (Value.slice A2 R.length c2).ownBlock = some b → b < w3.heap.size := fun b hb => (OwnC.lt hH3.ow b hb).2
      go_upto_region 14 with first
        | (with_reducible show wpList _ _ _ _ _ _
           refine wpList_fldB rfl 3 (.tmp 62) _ rfl g5 0 25 _ (.int .i64 1) rfl rfl rfl infoN1 hB3 6 rfl (by decide) ?_
           intro w4 hB4 m4
           have hB4 : Blk w4 g5 25 #[.int .i64 1, .int .i64 x.x.kind, .int .i64 x.x.off, .int .i64 x.x.len, .int .i64 x.x.snap, .slice x.A x.x.data.length x.c] := hB4
           have l1 : w4.cell? ⟨g5, 1, none⟩ = some (.int .i64 x.x.kind) := (hB4.cell 1).trans rfl
           have l2 : w4.cell? ⟨g5, 2, none⟩ = some (.int .i64 x.x.off) := (hB4.cell 2).trans rfl
           have l3 : w4.cell? ⟨g5, 3, none⟩ = some (.int .i64 x.x.len) := (hB4.cell 3).trans rfl
           have l4 : w4.cell? ⟨g5, 4, none⟩ = some (.int .i64 x.x.snap) := (hB4.cell 4).trans rfl
           have l5 : w4.cell? ⟨g5, 5, none⟩ = some (.slice x.A x.x.data.length x.c) := (hB4.cell 5).trans rfl
           have hH4 := hH3.mod m4 (fun b hb e => ⟨e, by omega⟩)
           have bb4 := bb.thenM m4 bb.size (fun b hb e => by omega)
           have hw4 := Nat.le_trans hw3 m4.size
           have hs34 := m4.size
           clear m4)
      have bn := below_new w4 (.cells #[.int .i64 99, .int .i64 3, .int .i64 x.x.kind, .int .i64 x.x.off, .int .i64 x.x.len, .int .i64 x.x.snap, .slice x.A x.x.data.length x.c] 32)
      have hE := Blk.new w4 32 #[.int .i64 99, .int .i64 3, .int .i64 x.x.kind, .int .i64 x.x.off, .int .i64 x.x.len, .int .i64 x.x.snap, .slice x.A x.x.data.length x.c]
      have hH5 := hH4.below bn
      have hB5 := hB4.below bn
      have bb5 := bb4.thenB' bn
      have hw5 := Nat.le_trans hw4 bn.size
      have hlE := hE.lt
      generalize hw5e : w4.alloc (.cells #[.int .i64 99, .int .i64 3, .int .i64 x.x.kind, .int .i64 x.x.off, .int .i64 x.x.len, .int .i64 x.x.snap, .slice x.A x.x.data.length x.c] 32) = w5 at *
      generalize w4.heap.size = gE at *
      clear hw5e bn l1 l2 l3 l4 l5
      have hio : imO a0 (pcs L) 1 1000 = some (stK (newP a0) (X.map CaV.x) X.length) := by
        rw [HEL.out]
        unfold imO
        rw [if_pos (ris_K (map_le X))]
        exact atF_K 1000 _ (map_le X) _ (Nat.le_refl _) fun j hj => by omega
      have hat := At_any _ A1 c1 L a0 1 1000 w5 (own_cms hH5.oc rfl hH5.al)
      unfold AtR at hat
      rw [hio] at hat
      clear hio
      go_wp2_with fail
      refine hat.mono ?_
      clear hat
      rintro e w6 ⟨i, rfl, hip, rI, b6⟩
      have hip : i.p = stK (newP a0) (X.map CaV.x) X.length := hip
      have HIP := Lib.hid hip
      have hE6 := hE.below b6
      have hB6 := hB5.below b6
      have hH6 := hH5.below b6
      have bb6 := bb5.thenB' b6
      have hw6 := Nat.le_trans hw5 b6.size
      have hdo := fun V q q2 => rDo_any (fun _ => True) (Off3 g5 (.slice A1 L.length c1) (.slice A2 R.length c2)) i (entP 99 3 x.x) x.A x.c V q q2 rz.2.1 rz.2.2
      clear hip hE hB5 hH5
      go_wp2_with first
        | (with_reducible show wpList _ _ _ _ _ _
           refine wpList_rowB rfl 35 (.tmp 12) (.tmp 78) rfl w6.heap.size 35 _ (imA i) rfl rfl (Blk.new w6 35 #[.slice none 0 0, .slice none 0 0, .int .i64 0]) infoIm rfl (imA_ok _) ?_
           intro w7 hM7 mm
           have nn := im_new mm
           have hE7 := hE6.below nn
           have hB7 := hB6.below nn
           have hH7 := hH6.below nn
           have bb7 := bb6.thenB' nn
           have hw7 := Nat.le_trans hw6 nn.size
           have rI7 := rI.below nn
           clear nn mm)
        | (with_reducible show wpList _ _ _ _ _ _
           refine wpList_load_row rfl 35 (.tmp 12) rfl w6.heap.size rfl 35 _ (0, 0) _ hM7 Tryd.underlying35 rfl infoIm ?_)
        | (with_reducible show wpList _ _ _ _ _ _
           refine wpList_load_row rfl 32 (.tmp 11) rfl gE rfl 32 _ (0, 0) _ hE7 Tryd.underlying32 rfl infoEn7 ?_)
      refine (hdo w7 rI7 (rz.below bb7).1).mono ?_
      clear hdo
      rintro e w8 ⟨k, rfl, _, _, b8⟩
      rw [HIP.out]
      obtain ⟨ee, hee⟩ : ∃ ee, (doP (stK (newP a0) (X.map CaV.x) X.length) (entP 99 3 x.x)).2.2 = ee := ⟨_, rfl⟩
      rw [hee]
      have HEE := Lib.hid hee
      clear hee
      generalize (doP (stK (newP a0) (X.map CaV.x) X.length) (entP 99 3 x.x)).2.1 = id
      have hE8 := hE7.below b8
      have hB8 := hB7.below b8
      have hH8 := hH7.below b8
      have bb8 := bb7.thenB' b8
      have hw8 := Nat.le_trans hw7 b8.size
      clear hE7 hB7 hH7 bb7 hM7
      go_upto_region 19 with first
        | (with_reducible show wpList _ _ _ _ _ _
           refine wpList_rowB rfl 35 (.tmp 14) (.tmp 84) rfl w8.heap.size 35 _ (imA k) rfl rfl (Blk.new w8 35 #[.slice none 0 0, .slice none 0 0, .int .i64 0]) infoIm rfl (imA_ok _) ?_
           intro w9 hM9 mm
           have nn := im_new mm
           have hE9 := hE8.below nn
           have hB9 := hB8.below nn
           have hH9 := hH8.below nn
           have bb9 := bb8.thenB' nn
           have hw9 := Nat.le_trans hw8 nn.size
           clear nn mm)
        | (with_reducible show wpList _ _ _ _ _ _
           refine wpList_load_row rfl 25 (.tmp 5) rfl g5 rfl 25 _ (0, 0) _ hB9 Tryd.underlying25 rfl infoCa6 ?_)
      have bn := below_new w9 (.cells #[.int .i64 3, .int .i64 1, .int .i64 x.x.kind, .int .i64 x.x.off, .int .i64 x.x.len, .int .i64 x.x.snap, .slice x.A x.x.data.length x.c, .int .i64 100, .int .i64 0, .bool false, .int .i64 0, .slice none 0 0, .int .i64 0, .int .i64 0] 44)
      have hZ := Blk.new w9 44 #[.int .i64 3, .int .i64 1, .int .i64 x.x.kind, .int .i64 x.x.off, .int .i64 x.x.len, .int .i64 x.x.snap, .slice x.A x.x.data.length x.c, .int .i64 100, .int .i64 0, .bool false, .int .i64 0, .slice none 0 0, .int .i64 0, .int .i64 0]
      have hE10 := hE9.below bn
      have hH10 := hH9.below bn
      have bb10 := bb9.thenB' bn
      have hb10 := Nat.le_trans hw9 bn.size
      have hlZ := hZ.lt
      generalize hw10 : w9.alloc (.cells #[.int .i64 3, .int .i64 1, .int .i64 x.x.kind, .int .i64 x.x.off, .int .i64 x.x.len, .int .i64 x.x.snap, .slice x.A x.x.data.length x.c, .int .i64 100, .int .i64 0, .bool false, .int .i64 0, .slice none 0 0, .int .i64 0, .int .i64 0] 44) = w10 at *
      generalize w9.heap.size = gZ at *
      have rz10 : RcR w10 (Off3 g5 (.slice A1 L.length c1) (.slice A2 R.length c2)) (⟨3, callH x.x, x.A, x.c, 100, 0, false, 0, none, [], 0, 0, 0⟩ : RcV) := ⟨rz.below bb10, RdC.nil⟩
      have HLR : Hid (R.length = X.length) := Lib.hid (by rw [← prs_len, HER.out, rsK_len _ (map_le X)])
      have hlR : R.length ≤ 1000000 := by rw [HLR.out]; omega
      have hlL : L.length ≤ 1000000 := by rw [← pcs_len, HEL.out]; have := csK_len (m := newP a0) (xs := X.map CaV.x) X.length; omega
      clear hw10 bn hH9 hE9 bb9
      go_upto_region 20 with first
        | (with_reducible show wpList _ _ _ _ _ _
           refine wpList_load_row rfl 44 (.tmp 17) rfl gZ rfl 44 _ (0, 0) _ hZ Tryd.underlying44 rfl (infoRc (⟨3, callH x.x, x.A, x.c, 100, 0, false, 0, none, [], 0, 0, 0⟩ : RcV)) ?_)
        | (with_reducible show wpList _ _ _ _ _ _
           refine wpList_app1 rfl (.tmp 91) (.tmp 93) 28 rfl rcC_len rcC_one (by decide) _ 144 Tryd.underlying28 infoRc14 rfl (by decide) _ wr.heap.size (.slice A2 R.length c2) R (⟨3, callH x.x, x.A, x.c, 100, 0, false, 0, none, [], 0, 0, 0⟩ : RcV) rfl rfl rfl hH10.ow hlR hb10 ?_
           intro vr' w11 ap)
      have hH11 := hH10.addR rz10 ap
      have hE11 := hE10.mod ap.mod (fun e => by have := hvr3 _ e; omega)
      have bb11 := bb10.thenM ap.mod bb10.size (fun b hb e => by have := (OwnC.lt hH10.ow b e).1; omega)
      have hw11 := Nat.le_trans hb10 ap.mod.size
      obtain ⟨A3, n3, c3, rfl, HN3, _, _⟩ := OwnC.form' hH11.ow
      have HE3 : Hid (prs (R ++ [(⟨3, callH x.x, x.A, x.c, 100, 0, false, 0, none, [], 0, 0, 0⟩ : RcV)]) = rsK (newP a0) (X.map CaV.x) X.length ++ [(⟨3, callH x.x, x.A, x.c, 100, 0, false, 0, none, [], 0, 0, 0⟩ : RcV).p]) := Lib.hid (by rw [prs_app, HER.out])
      have HLX : Hid (LBd x.x) := Lib.hid ⟨hd, sx.2.2.2.1.2⟩
      have HRB : Hid (∀ tt d E, ∀ r ∈ rsK (newP a0) (X.map CaV.x) X.length ++ [(⟨3, callH x.x, 100, tt, d, E, [], 0, 0⟩ : PR)], RBd r) := Lib.hid (fun tt d E r hr => by
        rcases List.mem_append.1 hr with h | h
        · exact rsK_bd (map_le X) HX.out r h
        · obtain rfl := List.mem_singleton.1 h
          exact ⟨big_of HLX.out.1, HLX.out.2⟩)
      have HRN : Hid (∀ z : PR, (rsK (newP a0) (X.map CaV.x) X.length ++ [z]).length ≤ 1000) := Lib.hid (fun z => by rw [List.length_append, rsK_len _ (map_le X), List.length_singleton]; omega)
      have HCB : Hid (∀ c ∈ csK (newP a0) (X.map CaV.x) X.length ++ [(⟨101, 1, entP 99 3 x.x, x.A, x.c⟩ : CmV).p], c.e.data.length ≤ big) := Lib.hid (fun c hc => by
        rcases List.mem_append.1 hc with h | h
        · exact csK_bd (map_le X) HX.out c h
        · obtain rfl := List.mem_singleton.1 h
          exact big_of HLX.out.1)
      clear ap hH10 hE10 rz10
      go_wp2_with fail
      refine (layout_any _).mono ?_
      rintro e w12 ⟨rfl, b12⟩
      have hr := right_of2 (size := a0) (own_cms (hH11.below b12).oc rfl (hH11.below b12).al) (own_rcs (hH11.below b12).ow HN3.out (hH11.below b12).ar) rfl HN3.out (ht.below (bb11.thenB' b12)) HEL.out HE3.out true (right_K (map_le X) (by omega) [(⟨3, callH x.x, x.A, x.c, 100, 0, false, 0, none, [], 0, 0, 0⟩ : RcV).p] (fun z hz => by obtain rfl := List.mem_singleton.1 hz; exact ⟨rfl, by show 2 * (X.length : Int) ≤ 100; omega⟩)) (HRB.out 0 false 0) (csK_bd (map_le X) HX.out) (HRN.out _)
      go_wp2_with fail
      refine hr.mono ?_
      clear hr
      rintro e w13 ⟨rfl, b13⟩
      have b13 := b12.thenB' b13
      have hH13 := hH11.below b13
      have hE13 := hE11.below b13
      have bb13 := bb11.thenB' b13
      have hw13 := Nat.le_trans hw11 b13.size
      clear hH11 hE11 bb11 b12 b13
      have rz14 : CmR w13 (Off3 g5 (.slice A1 L.length c1) (.slice A3 n3 c3)) (⟨101, 1, entP 99 3 x.x, x.A, x.c⟩ : CmV) := RdC.imp (rx.below bb13) fun b hb h => by
        have h : b < W.heap.size := h
        exact ⟨by omega, fun e => by have := (OwnC.lt hH13.oc b e).1; omega, fun e => by have := (OwnC.lt hH13.ow b e).1; omega⟩
      go_upto_region 22 with first
        | (with_reducible show wpList _ _ _ _ _ _
           refine wpList_load_row rfl 32 (.tmp 11) rfl gE rfl 32 _ (0, 0) _ hE13 Tryd.underlying32 rfl infoEn7 ?_)
        | (with_reducible show wpList _ _ _ _ _ _
           refine wpList_app1 rfl (.tmp 100) (.tmp 103) 27 rfl cmC_len cmC_one (by decide) _ 88 Tryd.underlying27 infoCm9 rfl (by decide) _ wr.heap.size (.slice A1 L.length c1) L (⟨101, 1, entP 99 3 x.x, x.A, x.c⟩ : CmV) rfl rfl rfl hH13.oc hlL hw13 ?_
           intro vc' w14 ap)
      have hH14 := hH13.addL rz14 ap
      have bb14 := bb13.thenM ap.mod bb13.size (fun b hb e => by have := (OwnC.lt hH13.oc b e).1; omega)
      obtain ⟨A4, n4, c4, rfl, HN4, _, _⟩ := OwnC.form' hH14.oc
      have HC3 : Hid (pcs (L ++ [(⟨101, 1, entP 99 3 x.x, x.A, x.c⟩ : CmV)]) = csK (newP a0) (X.map CaV.x) X.length ++ [(⟨101, 1, entP 99 3 x.x, x.A, x.c⟩ : CmV).p]) := Lib.hid (by rw [pcs_app, HEL.out])
      clear ap hH13 hE13 rz14
      go_wp2_with fail
      refine (layout_any _).mono ?_
      rintro e w15 ⟨rfl, b15⟩
      obtain ⟨zb, hzb⟩ : ∃ zb, decide (ee = 0) = zb := ⟨_, rfl⟩
      have hmy : matchP (⟨3, callH x.x, x.A, x.c, 100, 0, false, 0, none, [], 0, 0, 0⟩ : RcV).p (⟨101, 1, entP 99 3 x.x, x.A, x.c⟩ : CmV).p = true := match_of (decide_eq_true HKI.out) rfl (show (100 : Int) < 101 by decide) (.inl rfl) rfl
      have hr := right_of2 (size := a0) (own_cms (hH14.below b15).oc HN4.out (hH14.below b15).al) (own_rcs (hH14.below b15).ow HN3.out (hH14.below b15).ar) HN4.out HN3.out (ht.below (bb14.thenB' b15)) HC3.out HE3.out zb ((right_K1 (map_le X) (by omega) (show 2 * (X.length : Int) + 2 ≤ 101 by omega) rfl rfl (show 2 * (X.length : Int) ≤ 100 by omega) hmy).trans (by rw [← hzb, ← HEE.out]; rfl)) (HRB.out 0 false 0) HCB.out (HRN.out _)
      have HZB := Lib.hid hzb
      clear hzb
      go_wp2_with fail
      refine hr.mono ?_
      clear hr
      rintro e w16 ⟨rfl, b16⟩
      have b16 := b15.thenB' b16
      have hH16 := hH14.below b16
      have bb16 := bb14.thenB' b16
      have hRl : R.length < (R ++ [(⟨3, callH x.x, x.A, x.c, 100, 0, false, 0, none, [], 0, 0, 0⟩ : RcV)]).length := by rw [List.length_append, List.length_singleton]; omega
      have h16R : (R ++ [(⟨3, callH x.x, x.A, x.c, 100, 0, false, 0, none, [], 0, 0, 0⟩ : RcV)])[R.length]? = some (⟨3, callH x.x, x.A, x.c, 100, 0, false, 0, none, [], 0, 0, 0⟩ : RcV) := by rw [List.getElem?_append_right (Nat.le_refl _), Nat.sub_self]; rfl
      obtain ⟨ad3, hA3, _⟩ := (own_rcs hH16.ow HN3.out hH16.ar).at_ hRl
      subst hA3
      have hsub : ((n3 : Int) - 1) = (R.length : Int) := by rw [HN3.out, List.length_append, List.length_singleton]; omega
      have hlt3 : (R.length : Int) < (n3 : Int) := by rw [HN3.out, List.length_append, List.length_singleton]; omega
      have hl16 := hRl
      have hs16 := hH16.ar (⟨3, callH x.x, x.A, x.c, 100, 0, false, 0, none, [], 0, 0, 0⟩ : RcV) (List.mem_of_getElem? h16R)
      clear hH14 bb14 b15 b16
      go_upto_region 26 with first
        | (with_reducible show wpList _ _ _ _ _ _
           refine wpList_updC1 rfl 4 (.tmp 115) _ rfl infoBo1 rcC_len hH16.ow h16R 9 (.bool true) (⟨3, callH x.x, x.A, x.c, 100, 0, true, 0, none, [], 0, 0, 0⟩ : RcV) (by decide) rfl ad3 rfl rfl rfl rfl ?_
           intro w17 o17 m17
           have hH17 := hH16.setR o17 m17 (show RcR w16 (Off3 g5 (.slice A4 n4 c4) (.slice (some ad3) n3 c3)) (⟨3, callH x.x, x.A, x.c, 100, 0, true, 0, none, [], 0, 0, 0⟩ : RcV) from ⟨hs16.1, RdC.nil⟩)
           have hl17 : R.length < ((R ++ [(⟨3, callH x.x, x.A, x.c, 100, 0, false, 0, none, [], 0, 0, 0⟩ : RcV)]).set R.length (⟨3, callH x.x, x.A, x.c, 100, 0, true, 0, none, [], 0, 0, 0⟩ : RcV)).length := by rw [List.length_set]; exact hl16
           have h17R : ((R ++ [(⟨3, callH x.x, x.A, x.c, 100, 0, false, 0, none, [], 0, 0, 0⟩ : RcV)]).set R.length (⟨3, callH x.x, x.A, x.c, 100, 0, true, 0, none, [], 0, 0, 0⟩ : RcV))[R.length]? = some (⟨3, callH x.x, x.A, x.c, 100, 0, true, 0, none, [], 0, 0, 0⟩ : RcV) := List.getElem?_set_self hl16
           have hs17 := hH17.ar (⟨3, callH x.x, x.A, x.c, 100, 0, true, 0, none, [], 0, 0, 0⟩ : RcV) (List.mem_of_getElem? h17R)
           have bb17 := bb16.thenM m17 bb16.size (fun b hb e => by have := (OwnC.lt hH16.ow b e).1; omega))
        | (with_reducible show wpList _ _ _ _ _ _
           refine wpList_updC1 rfl 3 (.tmp 121) _ rfl infoN1 rcC_len hH17.ow h17R 8 (.int .i64 200) (⟨3, callH x.x, x.A, x.c, 100, 200, true, 0, none, [], 0, 0, 0⟩ : RcV) (by decide) rfl ad3 rfl rfl rfl rfl ?_
           intro w18 o18 m18
           have hH18 := hH17.setR o18 m18 (show RcR w17 (Off3 g5 (.slice A4 n4 c4) (.slice (some ad3) n3 c3)) (⟨3, callH x.x, x.A, x.c, 100, 200, true, 0, none, [], 0, 0, 0⟩ : RcV) from ⟨hs17.1, RdC.nil⟩)
           have hl18 : R.length < (((R ++ [(⟨3, callH x.x, x.A, x.c, 100, 0, false, 0, none, [], 0, 0, 0⟩ : RcV)]).set R.length (⟨3, callH x.x, x.A, x.c, 100, 0, true, 0, none, [], 0, 0, 0⟩ : RcV)).set R.length (⟨3, callH x.x, x.A, x.c, 100, 200, true, 0, none, [], 0, 0, 0⟩ : RcV)).length := by rw [List.length_set]; exact hl17
           have h18R : (((R ++ [(⟨3, callH x.x, x.A, x.c, 100, 0, false, 0, none, [], 0, 0, 0⟩ : RcV)]).set R.length (⟨3, callH x.x, x.A, x.c, 100, 0, true, 0, none, [], 0, 0, 0⟩ : RcV)).set R.length (⟨3, callH x.x, x.A, x.c, 100, 200, true, 0, none, [], 0, 0, 0⟩ : RcV))[R.length]? = some (⟨3, callH x.x, x.A, x.c, 100, 200, true, 0, none, [], 0, 0, 0⟩ : RcV) := List.getElem?_set_self hl17
           have hs18 := hH18.ar (⟨3, callH x.x, x.A, x.c, 100, 200, true, 0, none, [], 0, 0, 0⟩ : RcV) (List.mem_of_getElem? h18R)
           have bb18 := bb17.thenM m18 bb17.size (fun b hb e => by have := (OwnC.lt hH17.ow b e).1; omega))
        | (with_reducible show wpList _ _ _ _ _ _
           refine wpList_updC1 rfl 38 (.tmp 128) _ rfl infoErr1 rcC_len hH18.ow h18R 10 (.int .i64 212) (⟨3, callH x.x, x.A, x.c, 100, 200, true, 212, none, [], 0, 0, 0⟩ : RcV) (by decide) rfl ad3 rfl rfl rfl rfl ?_
           intro w19 o19 m19
           have hH19 := hH18.setR o19 m19 (show RcR w18 (Off3 g5 (.slice A4 n4 c4) (.slice (some ad3) n3 c3)) (⟨3, callH x.x, x.A, x.c, 100, 200, true, 212, none, [], 0, 0, 0⟩ : RcV) from ⟨hs18.1, RdC.nil⟩)
           have hl19 : R.length < ((((R ++ [(⟨3, callH x.x, x.A, x.c, 100, 0, false, 0, none, [], 0, 0, 0⟩ : RcV)]).set R.length (⟨3, callH x.x, x.A, x.c, 100, 0, true, 0, none, [], 0, 0, 0⟩ : RcV)).set R.length (⟨3, callH x.x, x.A, x.c, 100, 200, true, 0, none, [], 0, 0, 0⟩ : RcV)).set R.length (⟨3, callH x.x, x.A, x.c, 100, 200, true, 212, none, [], 0, 0, 0⟩ : RcV)).length := by rw [List.length_set]; exact hl18
           have h19R : ((((R ++ [(⟨3, callH x.x, x.A, x.c, 100, 0, false, 0, none, [], 0, 0, 0⟩ : RcV)]).set R.length (⟨3, callH x.x, x.A, x.c, 100, 0, true, 0, none, [], 0, 0, 0⟩ : RcV)).set R.length (⟨3, callH x.x, x.A, x.c, 100, 200, true, 0, none, [], 0, 0, 0⟩ : RcV)).set R.length (⟨3, callH x.x, x.A, x.c, 100, 200, true, 212, none, [], 0, 0, 0⟩ : RcV))[R.length]? = some (⟨3, callH x.x, x.A, x.c, 100, 200, true, 212, none, [], 0, 0, 0⟩ : RcV) := List.getElem?_set_self hl18
           have hs19 := hH19.ar (⟨3, callH x.x, x.A, x.c, 100, 200, true, 212, none, [], 0, 0, 0⟩ : RcV) (List.mem_of_getElem? h19R)
           have bb19 := bb18.thenM m19 bb18.size (fun b hb e => by have := (OwnC.lt hH18.ow b e).1; omega))
      have HE4 : Hid (prs ((((R ++ [(⟨3, callH x.x, x.A, x.c, 100, 0, false, 0, none, [], 0, 0, 0⟩ : RcV)]).set R.length (⟨3, callH x.x, x.A, x.c, 100, 0, true, 0, none, [], 0, 0, 0⟩ : RcV)).set R.length (⟨3, callH x.x, x.A, x.c, 100, 200, true, 0, none, [], 0, 0, 0⟩ : RcV)).set R.length (⟨3, callH x.x, x.A, x.c, 100, 200, true, 212, none, [], 0, 0, 0⟩ : RcV)) = rsK (newP a0) (X.map CaV.x) X.length ++ [(⟨3, callH x.x, x.A, x.c, 100, 200, true, 212, none, [], 0, 0, 0⟩ : RcV).p]) := Lib.hid (by rw [prs_set, prs_set, prs_set, List.set_set, List.set_set, HE3.out, set_end _ _ _ (by rw [HLR.out]; exact rsK_len _ (map_le X))])
      have hn19 : n3 = ((((R ++ [(⟨3, callH x.x, x.A, x.c, 100, 0, false, 0, none, [], 0, 0, 0⟩ : RcV)]).set R.length (⟨3, callH x.x, x.A, x.c, 100, 0, true, 0, none, [], 0, 0, 0⟩ : RcV)).set R.length (⟨3, callH x.x, x.A, x.c, 100, 200, true, 0, none, [], 0, 0, 0⟩ : RcV)).set R.length (⟨3, callH x.x, x.A, x.c, 100, 200, true, 212, none, [], 0, 0, 0⟩ : RcV)).length := by simp only [List.length_set]; exact HN3.out
      have HN19 := Lib.hid hn19
      have hL19 := own_cms hH19.oc HN4.out hH19.al
      have hR19 := own_rcs hH19.ow hn19 hH19.ar
      clear hn19 hsub hlt3 hs16 hs17 hs18 hs19 hH16 hH17 hH18 h16R h17R h18R h19R hl16 hl17 hl18 hl19 o17 o18 o19 m17 m18 m19 bb16 bb17 bb18 hH19
      go_wp2_with fail
      refine (layout_any _).mono ?_
      rintro e w20 ⟨rfl, b20⟩
      have hr := right_of2 (size := a0) (hL19.below b20) (hR19.below b20) HN4.out HN19.out (ht.below (bb19.thenB' b20)) HC3.out HE4.out false (right_no1 (owned_none (c := (⟨101, 1, entP 99 3 x.x, x.A, x.c⟩ : CmV).p) (List.mem_append_right _ (List.mem_singleton.2 rfl)) fun r hr => by
        rcases List.mem_append.1 hr with h | h
        · obtain ⟨q, y, hq, _, rfl⟩ := rsK_mem (map_le X) h
          exact match_late (show 2 * (q : Int) + 3 < 101 by omega)
        · obtain rfl := List.mem_singleton.1 h
          cases hm : matchP (⟨3, callH x.x, x.A, x.c, 100, 200, true, 212, none, [], 0, 0, 0⟩ : RcV).p (⟨101, 1, entP 99 3 x.x, x.A, x.c⟩ : CmV).p with
          | false => rfl
          | true =>
            rcases (match_parts hm).2.2.2 with h4 | ⟨h4, _⟩
            · cases h4
            · cases h4)) (HRB.out 200 true 212) HCB.out (HRN.out _)
      go_wp2_with fail
      refine hr.mono ?_
      clear hr
      rintro e w21 ⟨rfl, b21⟩
      have bb21 := (bb19.thenB' b20).thenB' b21
      have hfin : (zb == (ee == 0)) = true := by rw [← HZB.out]; by_cases h : ee = 0 <;> simp [h]
      go_wp2_with fail
      go_ret
      exact ⟨rfl, bb21⟩
end Go.Proofs.YthkeoimjjgmppaaDoor
