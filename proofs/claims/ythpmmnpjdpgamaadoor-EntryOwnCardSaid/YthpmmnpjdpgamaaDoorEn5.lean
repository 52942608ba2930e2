/- An entry's bytes: the document's Pack. -/
import Derived.Test.YthpmmnpjdpgamaaDoorEn4
namespace Go.Proofs.YthpmmnpjdpgamaaDoor
open Go.RowKit
set_option linter.unusedVariables false
set_option maxRecDepth 100000

theorem Blk.get {w : World} {g : Nat} {T : TypeId} {cs : Array Value} (h : Blk w g T cs) {i : Nat} {v : Value} (hv : cs[i]? = some v) : w.cell? ⟨g, i, none⟩ = some v := by rw [h.cell, hv]
def RCap (e : E7) (D : Nat → Prop) (w : World) (r : Ending) (w' : World) : Prop := ∃ A' c', r = .returned (enV (cleanO e) A' c') ∧ RdB w' D A' (cleanO e).data ∧ Below w.heap.size w w' ∧ (cleanO e).data.length ≤ c' ∧ c' ≤ 9223372036854775807
theorem rClean_cap (e : E7) (D : Nat → Prop) (A : Option Addr) (c : Nat) (w : World) (hr : RdB w D A e.data) (h1 : e.data.length ≤ c) (h2 : c ≤ 9223372036854775807) :
    Calls Tryd.prog 14 #[enV e A c] w (RCap e D w) :=
  (rClean_any e D A c w hr h1 h2).mono fun r w' ⟨A', c', h3, h4, h5, h6, h7⟩ => ⟨A', c', h3, h4, h5, h6, h7⟩
set_option maxHeartbeats 4000000 in
theorem rPack_any (e : E7) (D : Nat → Prop) (A : Option Addr) (c : Nat) (w : World) (hr : RdB w D A e.data) (hcap : e.data.length ≤ c) (hmax : c ≤ 9223372036854775807) :
    Calls Tryd.prog 18 #[enV e A c] w fun r w' => ∃ v, r = .returned v ∧ OwnB w' w.heap.size v (packO e) ∧ Below w.heap.size w w' := by
  have hck := fun W => rMay_any e A c W
  cases hy : mayE e
  · have HP : Hid (packO e = []) := by unfold Hid packO; rw [hy]; rfl
    rw [hy] at hck
    rw [HP.out]
    clear hy HP
    obtain ⟨s, o, k, f, l, n, d⟩ := e
    unfold enV enA at hck ⊢
    dsimp only at hck ⊢
    go_enter Tryd.func18, Tryd.ntmps18
    go_wp2_with fail
    refine (hck _).mono ?_
    clear hck
    rintro r w1 ⟨rfl, b1⟩
    have bb := (below_new w (.cells #[.int .i64 s, .int .i64 o, .int .i64 k, .int .i64 f, .int .i64 l, .int .i64 n, .slice A d.length c] 24)).thenB' b1
    go_wp2_with fail
    go_ret
    exact ⟨_, rfl, OwnB.nil, bb⟩
  · have HP : Hid (packO e = (makeO (cleanO e).kind (bodyE (cleanO e))).1) := by unfold Hid packO; rw [hy]; rfl
    have hw := may_wf hy
    have hcl := fun W (h1 : Below w.heap.size w W) => rClean_cap e D A c W (RdB.below hr h1) hcap hmax
    unfold RCap at hcl
    rw [hy] at hck
    rw [HP.out]
    clear hy HP
    generalize cleanO e = ce at *
    obtain ⟨s', o', k', f', l', n', d'⟩ := ce
    obtain ⟨s, o, k, f, l, n, d⟩ := e
    have W1 := hw.seq
    have W2 := hw.owner
    have W3 := hw.off
    have W4 := hw.len
    have W5 := hw.snap
    have W6 := hw.data
    dsimp only at hr hcap W1 W2 W3 W4 W5 W6
    have HP : Hid (bodyE ⟨s', o', k', f', l', n', d'⟩ = numE 6 s' ++ numE 1 o' ++ numE 2 f' ++ numE 2 l' ++ numE 1 n' ++ blobE d') := rfl
    have HN1 := numE_len' 6 s'
    have HN2 := numE_len' 1 o'
    have HN3 := numE_len' 2 f'
    have HN4 := numE_len' 2 l'
    have HN5 := numE_len' 1 n'
    have HN6 := blobE_len d'
    clear hw hr
    unfold enV enA at hck hcl ⊢
    dsimp only at hck hcl ⊢
    go_enter Tryd.func18, Tryd.ntmps18
    go_wp2_with fail
    refine (hck _).mono ?_
    clear hck
    rintro r w1 ⟨rfl, b1⟩
    have bn := below_new w (.cells #[.int .i64 s, .int .i64 o, .int .i64 k, .int .i64 f, .int .i64 l, .int .i64 n, .slice A d.length c] 24)
    have hG := (Blk.new w 24 #[.int .i64 s, .int .i64 o, .int .i64 k, .int .i64 f, .int .i64 l, .int .i64 n, .slice A d.length c]).below b1
    have bb := bn.thenB' b1
    have hcl := hcl w1 bb
    clear bn b1
    go_wp2_with first
      | (with_reducible show wpList _ _ _ _ _ _
         refine wpList_load_row rfl 24 (.tmp 1) rfl w.heap.size rfl 24 _ (0, 0) _ hG Tryd.underlying24 rfl infoEn7 ?_)
    refine hcl.mono ?_
    clear hcl hG
    rintro r w2 ⟨A', c', rfl, rd, b2, hc', hm'⟩
    have bb := bb.thenB' b2
    have bn := below_new w2 (.cells #[.int .i64 s', .int .i64 o', .int .i64 k', .int .i64 f', .int .i64 l', .int .i64 n', .slice A' d'.length c'] 24)
    have hC := Blk.new w2 24 #[.int .i64 s', .int .i64 o', .int .i64 k', .int .i64 f', .int .i64 l', .int .i64 n', .slice A' d'.length c']
    have rd := RdB.below rd bn
    have bb := bb.thenB' bn
    clear b2 bn
    go_wp2_with fail
    generalize w2.alloc (.cells #[.int .i64 s', .int .i64 o', .int .i64 k', .int .i64 f', .int .i64 l', .int .i64 n', .slice A' d'.length c'] 24) = w3 at *
    generalize w2.heap.size = g at *
    have hbw := bb.size
    have bz := Below.refl w3.heap.size w3
    refine (rNumE_any 6 s' _ W1).mono ?_
    rintro r y0 ⟨u0, rfl, ou0, du0⟩
    have bz := bz.thenB' du0
    have p0 : OwnB y0 w3.heap.size u0 (numE 6 s') := ou0
    have hCi := Blk.get (hC.below bz) (i := 1) rfl
    go_wp2_with fail
    refine (rNumE_any 1 o' _ W2).mono ?_
    clear hCi
    rintro r y1 ⟨u1, rfl, ou1, du1⟩
    obtain ⟨A1_, n1_, c1_, rfl, hn1_, _, _⟩ := OwnB.form' ou1
    have p0 := OwnB.below p0 du1
    have bz := bz.thenB' du1
    have hs1 : w3.heap.size ≤ y1.heap.size := bz.size
    have hCn := Blk.get (hC.below bz) (i := 3) rfl
    go_wp2_with first
      | (at_builtin; go_loud (refine wpList_appB rfl (.tmp 17) (.tmp 20) rfl w3.heap.size u0 (numE 6 s') rfl p0 _ A1_ n1_ c1_ (numE 1 o') rfl hn1_.out (OwnB.rd' ou1) (by first | (unfold big; omega) | (simp only [List.length_append]; unfold big; omega)) hs1 ?_; intro v1_ z1 q1 x1; have bz := bz.trans (x1.below p0 (Nat.le_refl _) hs1); have hCm := Blk.get (hC.below bz) (i := 3) rfl))
    have p1 := q1
    have hCi := Blk.get (hC.below bz) (i := 3) rfl
    go_wp2_with fail
    refine (rNumE_any 2 f' _ W3).mono ?_
    clear hCi
    rintro r y2 ⟨u2, rfl, ou2, du2⟩
    obtain ⟨A2_, n2_, c2_, rfl, hn2_, _, _⟩ := OwnB.form' ou2
    have p1 := OwnB.below p1 du2
    have bz := bz.thenB' du2
    have hs2 : w3.heap.size ≤ y2.heap.size := bz.size
    have hCn := Blk.get (hC.below bz) (i := 4) rfl
    go_wp2_with first
      | (at_builtin; go_loud (refine wpList_appB rfl (.tmp 22) (.tmp 25) rfl w3.heap.size v1_ (numE 6 s' ++ numE 1 o') rfl p1 _ A2_ n2_ c2_ (numE 2 f') rfl hn2_.out (OwnB.rd' ou2) (by first | (unfold big; omega) | (simp only [List.length_append]; unfold big; omega)) hs2 ?_; intro v2_ z2 q2 x2; have bz := bz.trans (x2.below p1 (Nat.le_refl _) hs2); have hCm := Blk.get (hC.below bz) (i := 4) rfl))
    have p2 := q2
    have hCi := Blk.get (hC.below bz) (i := 4) rfl
    go_wp2_with fail
    refine (rNumE_any 2 l' _ W4).mono ?_
    clear hCi
    rintro r y3 ⟨u3, rfl, ou3, du3⟩
    obtain ⟨A3_, n3_, c3_, rfl, hn3_, _, _⟩ := OwnB.form' ou3
    have p2 := OwnB.below p2 du3
    have bz := bz.thenB' du3
    have hs3 : w3.heap.size ≤ y3.heap.size := bz.size
    have hCn := Blk.get (hC.below bz) (i := 5) rfl
    go_wp2_with first
      | (at_builtin; go_loud (refine wpList_appB rfl (.tmp 27) (.tmp 30) rfl w3.heap.size v2_ (numE 6 s' ++ numE 1 o' ++ numE 2 f') rfl p2 _ A3_ n3_ c3_ (numE 2 l') rfl hn3_.out (OwnB.rd' ou3) (by first | (unfold big; omega) | (simp only [List.length_append]; unfold big; omega)) hs3 ?_; intro v3_ z3 q3 x3; have bz := bz.trans (x3.below p2 (Nat.le_refl _) hs3); have hCm := Blk.get (hC.below bz) (i := 5) rfl))
    have p3 := q3
    have hCi := Blk.get (hC.below bz) (i := 5) rfl
    go_wp2_with fail
    refine (rNumE_any 1 n' _ W5).mono ?_
    clear hCi
    rintro r y4 ⟨u4, rfl, ou4, du4⟩
    obtain ⟨A4_, n4_, c4_, rfl, hn4_, _, _⟩ := OwnB.form' ou4
    have p3 := OwnB.below p3 du4
    have bz := bz.thenB' du4
    have hs4 : w3.heap.size ≤ y4.heap.size := bz.size
    have hCn := Blk.get (hC.below bz) (i := 6) rfl
    go_wp2_with first
      | (at_builtin; go_loud (refine wpList_appB rfl (.tmp 32) (.tmp 35) rfl w3.heap.size v3_ (numE 6 s' ++ numE 1 o' ++ numE 2 f' ++ numE 2 l') rfl p3 _ A4_ n4_ c4_ (numE 1 n') rfl hn4_.out (OwnB.rd' ou4) (by first | (unfold big; omega) | (simp only [List.length_append]; unfold big; omega)) hs4 ?_; intro v4_ z4 q4 x4; have bz := bz.trans (x4.below p3 (Nat.le_refl _) hs4); have hCm := Blk.get (hC.below bz) (i := 6) rfl))
    have p4 := q4
    have hCi := Blk.get (hC.below bz) (i := 6) rfl
    go_wp2_with fail
    refine (rBlobE_any _ A' c' d' _ (RdB.below rd bz) hc' hm').mono ?_
    clear hCi
    rintro r y5 ⟨u5, rfl, ou5, du5⟩
    obtain ⟨A5_, n5_, c5_, rfl, hn5_, _, _⟩ := OwnB.form' ou5
    have p4 := OwnB.below p4 du5
    have bz := bz.thenB' du5
    have hs5 : w3.heap.size ≤ y5.heap.size := bz.size
    go_wp2_with first
      | (at_builtin; go_loud (refine wpList_appB rfl (.tmp 37) (.tmp 40) rfl w3.heap.size v4_ (numE 6 s' ++ numE 1 o' ++ numE 2 f' ++ numE 2 l' ++ numE 1 n') rfl p4 _ A5_ n5_ c5_ (blobE d') rfl hn5_.out (OwnB.rd' ou5) (by first | (unfold big; omega) | (simp only [List.length_append]; unfold big; omega)) hs5 ?_; intro v5_ z5 q5 x5; have bz := bz.trans (x5.below p4 (Nat.le_refl _) hs5); have hCm := Blk.get (hC.below bz) (i := 2) rfl))
    have p5 := q5
    obtain ⟨A9, n9, c9, rfl, hn9, _, _⟩ := OwnB.form' p5
    have hmk := rMake_any _ A9 c9 k' _ _ (OwnB.rd' p5) (by simp only [List.length_append]; omega)
    rw [← hn9.out] at hmk
    have hCk := Blk.get (hC.below bz) (i := 2) rfl
    go_wp2_with fail
    refine hmk.mono ?_
    clear hmk
    rintro r w9 ⟨v9, rfl, o9, b9⟩
    have bb := bb.trans ((bz.thenB' b9).mono bb.size)
    have hb9 := b9.size
    go_wp2_with fail
    go_ret
    exact ⟨_, rfl, by rw [HP.out]; exact OwnB.low o9 (by have := bz.size; have := hbw; omega), bb⟩
end Go.Proofs.YthpmmnpjdpgamaaDoor
