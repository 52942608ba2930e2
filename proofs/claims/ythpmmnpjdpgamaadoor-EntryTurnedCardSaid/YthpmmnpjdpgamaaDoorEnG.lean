/- The law EntryTurned: the walk. -/
import Derived.Test.YthpmmnpjdpgamaaDoorEnE
import Derived.Test.YthpmmnpjdpgamaaDoorFrBits
namespace Go.Proofs.YthpmmnpjdpgamaaDoor
open Go.RowKit
set_option linter.unusedVariables false

set_option maxHeartbeats 8000000 in
set_option maxRecDepth 100000 in
theorem turned_walk (e : E7) (v : Value) (at_ : Int) (ia : I64 at_) (bt : UInt8) (w : World) (hy : EnY w v e) (ht : T7 w) :
    Calls Tryd.prog 7 #[v, .int .i64 at_, .int .u8 (bt.toNat : Int)] w fun r w' => r = .returned (.bool true) ∧ Below w.heap.size w w' := by
  have ht0 := ht
  obtain ⟨cs, rfl, q0, a0⟩ := hy.agg
  have bb := below_new w (.cells cs 24)
  have hB := Blk.new w 24 cs
  have hy := hy.below bb
  have ht := ht.below bb
  obtain ⟨A, c, h6, r6, l6, m6⟩ := hy.data
  go_enter Tryd.func7, Tryd.ntmps7
  go_wp2_with fail
  refine (awake_any7 _ ht.1 ht.2.1 ht.2.2).mono ?_
  rintro e1 w1 ⟨rfl, b1⟩
  have hB := hB.below b1
  have hy := hy.below b1
  have ht := ht.below b1
  have bb := bb.thenB' b1
  have c6 := hB.cell 6
  rw [h6] at c6
  clear b1
  by_cases hl : 1000 < e.data.length
  focus
    go_wp2_with fail
    go_ret
    exact ⟨rfl, bb⟩
  have hld : decide ((1000 : Int) < (e.data.length : Int)) = false := decide_eq_false (by omega)
  have hl : e.data.length ≤ big := by unfold big; omega
  clear r6 l6 m6
  go_wp2_with first
    | (with_reducible show wpList _ _ _ _ _ _
       refine wpList_load_rowG rfl rfl 24 (.tmp 3) rfl w.heap.size rfl 24 cs hB _ Tryd.underlying24 (by rw [q0]; exact infoEn7) ?_)
  refine (hy.check).mono ?_
  rintro e1 w2 ⟨rfl, b1⟩
  have hB := hB.below b1
  have hy := hy.below b1
  have ht := ht.below b1
  have bb := bb.thenB' b1
  clear b1
  cases hm : mayE e
  focus
    dsimp only [errE]
    go_wp2_with fail
    go_ret
    exact ⟨rfl, bb⟩
  have HP := fun W (hy : EnY W (.agg cs) e) (ht : T7 W) => hy.pack hl ht
  have hlen : 12 ≤ (packO e).length ∧ (packO e).length ≤ 8204 := by
    obtain ⟨h1, h2, h3⟩ := pack_frame hm
    rw [h1, frameO_len]
    omega
  have HLN := Lib.hid hlen
  have HC := Lib.hid (fun i hi => unp_cut hm i hi)
  have HMR := Lib.hid (fun x => unp_more hm x)
  have HT := Lib.hid (fun i d hi hd => unp_turned hm i d hi hd)
  clear hlen hm
  generalize packO e = F at *
  dsimp only [errE]
  go_wp2_with first
    | (with_reducible show wpList _ _ _ _ _ _
       refine wpList_load_row rfl 24 (.tmp 3) rfl w.heap.size rfl 24 cs (0, 0) _ hB Tryd.underlying24 rfl (by rw [q0]; exact infoEn7) ?_)
  refine (HP _ hy ht).mono ?_
  rintro e1 w3 ⟨v3, rfl, o3, b1⟩
  have hsz := bb.size
  obtain ⟨A3, n3, c3, rfl, E3, l3, m3⟩ := OwnB.form' o3
  have hB := hB.below b1
  have hy := hy.below b1
  have ht := ht.below b1
  have bb := bb.thenB' b1
  clear b1
  have hm3 : c3 ≤ 9223372036854775807 := m3
  have hn12 : 12 ≤ n3 := by rw [E3.out]; exact HLN.out.1
  have hn20 : n3 ≤ 8204 := by rw [E3.out]; exact HLN.out.2
  obtain ⟨j, hj, hj2⟩ := and_mask at_ 65535 (by omega)
  have hj : bits .and .i64 at_ 65535 = (j : Int) := hj
  obtain ⟨k, hk⟩ : ∃ k, k = j % n3 := ⟨_, rfl⟩
  have hkn : k < n3 := by rw [hk]; exact Nat.mod_lt _ (by omega)
  have hk1 : (j : Int).tmod (n3 : Int) = (k : Int) := by rw [hk]; rfl
  have hk2 : (j : Int) % (n3 : Int) = (k : Int) := by rw [hk]; rfl
  have hn0 : (n3 : Int) ≠ 0 := by omega
  have hn0b : ((n3 : Int) == 0) = false := by simp; omega
  have hkc : k ≤ c3 := by omega
  have hkF : k < F.length := by rw [← E3.out]; exact hkn
  have rk : RdB w3 _ A3 (F.take k) := o3.rd'.take (by omega)
  have lk : (F.take k).length = k := by rw [List.length_take]; omega
  have hcut := unpack_y (c := c3) rk (by omega) (by omega) hm3 ht
  rw [lk, HC.out k hkF] at hcut
  clear lk rk hk
  go_wp2_with fail
  refine (hcut).mono ?_
  rintro e1 w4 ⟨v5, rfl, y5, b1⟩
  have hB := hB.below b1
  have hy := hy.below b1
  have ht := ht.below b1
  have o3 := OwnB.below o3 b1
  have bb := bb.thenB' b1
  clear hcut
  clear b1
  obtain ⟨cs5, rfl, q5, a5⟩ := y5.agg
  have hz5 := Blk.new w4 24 z7
  unfold z7 at hz5
  go_wp2_with first
    | (with_reducible show wpList _ _ _ _ _ _
       refine wpList_rowB rfl 24 (.tmp 10) (.tmp 43) rfl w4.heap.size 24 _ cs5 rfl rfl hz5 (by rw [q5]; exact infoEn7) (by rw [q5]; rfl) a5 ?_
       intro z5 B5 m5
       have b1 := new7 m5
       have hB := hB.below b1
       have hy := hy.below b1
       have ht := ht.below b1
       have y5 := y5.below b1
       have o3 := OwnB.below o3 b1
       have bb := bb.thenB' b1
       clear b1 m5 hz5 a5
       have hem : OwnB (z5.alloc (.cells #[] 5)) z5.heap.size (.slice (some ⟨z5.heap.size, 0, none⟩) 0 0) [] := own_lit z5 _ [] _ (Nat.le_refl _) (by simp)
       have be := below_new z5 (.cells #[] 5)
       have re := RdB.below o3.rd' be)
    | (at_builtin
       refine wpList_appB rfl (.tmp 46) (.tmp 47) rfl z5.heap.size _ [] rfl hem _ A3 n3 c3 F rfl E3.out re (by unfold big; rw [List.length_nil, ← E3.out]; omega) be.size ?_
       intro v6 w5 o6 x6
       rw [List.nil_append] at o6
       have bx := be.trans (x6.below hem (Nat.le_refl _) be.size)
       have bn := below_new w5 (.cells #[.int .u8 (IntKind.u8.wrap at_)] 5)
       have by5 := bx.thenB' bn
       have o6b := o6.below bn
       obtain ⟨x, hx⟩ := byte_wrap at_)
    | (at_builtin
       refine wpList_appB rfl (.tmp 48) (.tmp 51) rfl z5.heap.size v6 F rfl o6b _ (some ⟨w5.heap.size, 0, none⟩) 1 1 [x] rfl rfl (rd_newB1 w5 x _ hx) (by unfold big; rw [List.length_singleton, ← E3.out]; omega) by5.size ?_
       intro v7 w6 o7 x7
       have b1 := by5.trans (x7.below o6b (Nat.le_refl _) by5.size))
  obtain ⟨A7, n7, c7, rfl, E7_, l7, m7⟩ := o7.form'
  have hmore := unpack_y (c := c7) o7.rd' (by rw [List.length_append, List.length_singleton, ← E3.out]; omega) (by rw [← E7_.out]; exact l7) m7 (ht.below b1)
  rw [← E7_.out, HMR.out] at hmore
  have hB := hB.below b1
  have hy := hy.below b1
  have ht := ht.below b1
  have y5 := y5.below b1
  have o3 := OwnB.below o3 b1
  have bb := bb.thenB' b1
  have B5 := B5.below b1
  clear hem be re o6 x6 bx bn by5 o6b x7 o7 b1 E7_ l7 m7
  refine (hmore).mono ?_
  rintro e1 w7 ⟨v6, rfl, y6, b1⟩
  have hB := hB.below b1
  have hy := hy.below b1
  have ht := ht.below b1
  have y5 := y5.below b1
  have o3 := OwnB.below o3 b1
  have B5 := B5.below b1
  have bb := bb.thenB' b1
  clear hmore
  clear b1
  obtain ⟨cs6, rfl, q6, a6⟩ := y6.agg
  have hz6 := Blk.new w7 24 z7
  unfold z7 at hz6
  go_upto_region 12 with first
    | (with_reducible show wpList _ _ _ _ _ _
       refine wpList_rowB rfl 24 (.tmp 12) (.tmp 54) rfl w7.heap.size 24 _ cs6 rfl rfl hz6 (by rw [q6]; exact infoEn7) (by rw [q6]; rfl) a6 ?_
       intro z6 B6 m6
       have b1 := new7 m6
       have hB := hB.below b1
       have hy := hy.below b1
       have ht := ht.below b1
       have y5 := y5.below b1
       have o3 := OwnB.below o3 b1
       have B5 := B5.below b1
       have y6 := y6.below b1
       have bb := bb.thenB' b1
       clear b1 m6 hz6 a6)
  obtain ⟨g, hg, hg1, hg2, hcell, hfr, hst⟩ := (RowB.of_own o3).store hkF
  have hx : F.getD k 0 = F[k] := gd F k hkF
  have hbase := Nat.le_trans hsz hg1
  obtain ⟨tt, htt⟩ : ∃ tt, tt = bt.toNat % 8 := ⟨_, rfl⟩
  have ht1 : (bt.toNat : Int).tmod 8 = (tt : Int) := by rw [htt]; rfl
  have ht2 : (bt.toNat : Int) % 8 = (tt : Int) := by rw [htt]; rfl
  have ht8 : tt < 8 := by omega
  have HX := fun m (hm : m ≠ 0) => HT.out k (F[k] ^^^ m) hkF (by rw [hx]; exact xor8_ne _ _ hm)
  have hx8 := fun m => xor8 F[k] m
  subst hg
  clear htt hx hB hy ht y5 y6 B5 HC HMR HT HP
  generalize F[k] = x at *
  have ht9 : tt = 0 ∨ tt = 1 ∨ tt = 2 ∨ tt = 3 ∨ tt = 4 ∨ tt = 5 ∨ tt = 6 ∨ tt = 7 := by omega
  clear ht8
  rcases ht9 with rfl | rfl | rfl | rfl | rfl | rfl | rfl | rfl
  focus
    have e8 : bits .xor .u8 (x.toNat : Int) 1 = ((x ^^^ 1).toNat : Int) := hx8 1
    have hX := HX 1 (by decide)
    generalize x ^^^ 1 = d at *
  rotate_left
  focus
    have e8 : bits .xor .u8 (x.toNat : Int) 2 = ((x ^^^ 2).toNat : Int) := hx8 2
    have hX := HX 2 (by decide)
    generalize x ^^^ 2 = d at *
  rotate_left
  focus
    have e8 : bits .xor .u8 (x.toNat : Int) 4 = ((x ^^^ 4).toNat : Int) := hx8 4
    have hX := HX 4 (by decide)
    generalize x ^^^ 4 = d at *
  rotate_left
  focus
    have e8 : bits .xor .u8 (x.toNat : Int) 8 = ((x ^^^ 8).toNat : Int) := hx8 8
    have hX := HX 8 (by decide)
    generalize x ^^^ 8 = d at *
  rotate_left
  focus
    have e8 : bits .xor .u8 (x.toNat : Int) 16 = ((x ^^^ 16).toNat : Int) := hx8 16
    have hX := HX 16 (by decide)
    generalize x ^^^ 16 = d at *
  rotate_left
  focus
    have e8 : bits .xor .u8 (x.toNat : Int) 32 = ((x ^^^ 32).toNat : Int) := hx8 32
    have hX := HX 32 (by decide)
    generalize x ^^^ 32 = d at *
  rotate_left
  focus
    have e8 : bits .xor .u8 (x.toNat : Int) 64 = ((x ^^^ 64).toNat : Int) := hx8 64
    have hX := HX 64 (by decide)
    generalize x ^^^ 64 = d at *
  rotate_left
  focus
    have e8 : bits .xor .u8 (x.toNat : Int) 128 = ((x ^^^ 128).toNat : Int) := hx8 128
    have hX := HX 128 (by decide)
    generalize x ^^^ 128 = d at *
  rotate_left
  all_goals
    clear hx8 HX
    have hX2 := Lib.hid hX
    clear hX
    have r5 := hst d
    have hbs := below_store (k := k) bb hbase (.int .u8 (d.toNat : Int))
    clear hst
    by_cases hk0 : k = 0
    focus
      have hk0b : ((k : Int) == 0) = true := by simp [hk0]
      have hX3 : Hid (unpO (F.set k d) = (zeroE, 11)) := by unfold Hid; rw [hX2.out, if_pos hk0]
    rotate_left
    focus
      have hk0b : ((k : Int) == 0) = false := by simp; exact hk0
      have hX3 : Hid (unpO (F.set k d) = (zeroE, 20)) := by unfold Hid; rw [hX2.out, if_neg hk0]
    rotate_left
    all_goals
      clear hX2 hk0
      go_wp2_with fail
      generalize z6.setCell ⟨g, k, none⟩ (.int .u8 (d.toNat : Int)) = w8 at *
      have ht5 := ht0.below hbs
      have hN := unpack_y (c := c3) r5.rd (by rw [List.length_set, ← E3.out]; omega) (by rw [List.length_set, ← E3.out]; exact l3) hm3 ht5
      rw [List.length_set, ← E3.out, hX3.out] at hN
      refine hN.mono ?_
      clear hN
      rintro e w9 ⟨v9, rfl, y9, b9⟩
      have bb := hbs.thenB' b9
      obtain ⟨cs9, rfl, q9, a9⟩ := y9.agg
      have hz9 := Blk.new w9 24 z7
      unfold z7 at hz9
      clear hX3 hbs r5 b9 o3 ht5
      go_wp2_with first
        | (with_reducible show wpList _ _ _ _ _ _
           refine wpList_rowB rfl 24 (.tmp 14) (.tmp 70) rfl w9.heap.size 24 _ cs9 rfl rfl hz9 (by rw [q9]; exact infoEn7) (by rw [q9]; rfl) a9 ?_
           intro z9 B9 m9
           have b1 := new7 m9
           have y9 := y9.below b1
           have bb := bb.thenB' b1)
        | (with_reducible show wpList _ _ _ _ _ _
           refine wpList_load_rowG rfl rfl 24 (.tmp 14) rfl w9.heap.size rfl 24 cs9 B9 _ Tryd.underlying24 (by rw [q9]; exact infoEn7) ?_)
      refine (y9.same (zeroY _)).mono ?_
      rintro e1 w10 ⟨rfl, b1⟩
      have bb := bb.thenB' b1
      rw [same_self]
      go_wp2_with fail
      go_ret
      exact ⟨rfl, bb⟩
end Go.Proofs.YthpmmnpjdpgamaaDoor
