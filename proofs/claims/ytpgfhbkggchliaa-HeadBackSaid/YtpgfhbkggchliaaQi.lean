/- Parts of the proof, joined: HdG HdH HdI HdJ. -/
import Derived.Test.YtpgfhbkggchliaaQh
/- What a head says, as plain data; its bytes. No program. -/
namespace Go.Proofs.Ytpgfhbkggchliaa
open Go.RowKit
set_option linter.unusedVariables false

structure PH where
  u : Int
  n : Int
  o : Int
  size : Int
  m : List Int
  S : List (Int × Int × List Int)
  last : Int
  seq : Int
def HdV.p (h : HdV) : PH := ⟨h.u, h.n, h.o, h.size, h.m, pureS h.S, h.last, h.seq⟩
def zeroP : PH := ⟨0, 0, 0, 0, [], [], 0, 0⟩
theorem zero_p : zeroH.p = zeroP := rfl
def mayP (p : PH) : Bool :=
  layO p.u p.n p.o && (sizedO p.u p.n p.o p.size p.m && (decide (p.S.length ≤ 4) && (decide (0 ≤ p.last) && (decide (p.last ≤ 100) && (decide (0 ≤ p.seq) && (decide (p.seq ≤ 1099511627776) && snapsO p.u p.n p.o p.last 0 p.S))))))
theorem may_p (h : HdV) : mayH h = mayP h.p := by
  unfold mayH mayP HdV.p
  dsimp only
  rw [pure_len]
theorem eqH_p {a b : HdV} (h : a.p = b.p) : EqH a b := by
  unfold HdV.p at h
  injection h with h1 h2 h3 h4 h5 h6 h7 h8
  exact ⟨h1, h2, h3, h4, h5, h6, h7, h8⟩

/-! ### what may be is bounded -/
theorem lay_bd {u n o : Int} (h : layO u n o = true) : 1 ≤ u ∧ 1 ≤ n ∧ n ≤ 8 ∧ u ≤ o ∧ o ≤ 64 := by
  unfold layO at h
  simp only [decide_eq_true_eq] at h
  omega
theorem sized_bd {u n o s : Int} {m : List Int} (h : sizedO u n o s m = true) : 0 ≤ s ∧ s ≤ 512 ∧ mayO m = true := by
  unfold sizedO at h
  simp only [Bool.and_eq_true, decide_eq_true_eq] at h
  exact ⟨h.1.1, h.1.2, h.2.1⟩
theorem snaps_bd {u n o last : Int} : ∀ (S : List (Int × Int × List Int)) (a : Int), snapsO u n o last a S = true → ∀ s ∈ S, a < s.1 ∧ s.1 ≤ last ∧ sizedO u n o s.2.1 s.2.2 = true
  | [], _, _, _, hs => by simp at hs
  | x :: S, a, h, s, hs => by
    unfold snapsO at h
    simp only [Bool.and_eq_true, decide_eq_true_eq] at h
    obtain ⟨h1, h2, h3, h4⟩ := h
    rcases List.mem_cons.1 hs with rfl | hs
    · exact ⟨h1, h2, h3⟩
    · have := snaps_bd S x.1 h4 s hs
      exact ⟨by omega, this.2⟩
structure MayP (p : PH) : Prop where
  lay : 1 ≤ p.u ∧ 1 ≤ p.n ∧ p.n ≤ 8 ∧ p.u ≤ p.o ∧ p.o ≤ 64
  size : 0 ≤ p.size ∧ p.size ≤ 512 ∧ mayO p.m = true
  four : p.S.length ≤ 4
  last : 0 ≤ p.last ∧ p.last ≤ 100
  seq : 0 ≤ p.seq ∧ p.seq ≤ 1099511627776
  snaps : ∀ s ∈ p.S, 0 < s.1 ∧ s.1 ≤ p.last ∧ 0 ≤ s.2.1 ∧ s.2.1 ≤ 512 ∧ mayO s.2.2 = true
theorem mayP_bd {p : PH} (h : mayP p = true) : MayP p := by
  unfold mayP at h
  simp only [Bool.and_eq_true, decide_eq_true_eq] at h
  obtain ⟨h1, h2, h3, h4, h5, h6, h7, h8⟩ := h
  exact ⟨lay_bd h1, sized_bd h2, h3, ⟨h4, h5⟩, ⟨h6, h7⟩, fun s hs => by
    have := snaps_bd _ _ h8 s hs
    exact ⟨this.1, this.2.1, sized_bd this.2.2⟩⟩

/-! ### bytes -/
def snB (s : Int × Int × List Int) : List UInt8 := numE 1 s.1 ++ numE 2 s.2.1 ++ blobE (packO s.2.2)
def headB (p : PH) : List UInt8 := numE 1 p.u ++ numE 1 p.n ++ numE 1 p.o ++ numE 1 p.last ++ numE 2 p.size ++ numE 6 p.seq ++ blobE (packO p.m) ++ numE 1 (p.S.length : Nat)
def packB (p : PH) : List UInt8 := headB p ++ p.S.flatMap snB
def packP (p : PH) : List UInt8 := if mayP p then packB p else []
theorem num1 (z : Int) (h0 : 0 ≤ z) (h : z ≤ 255) : numE 1 z = [UInt8.ofNat z.toNat] := by
  unfold numE
  rw [show (wideI 1).toNat = 1 from rfl]
  unfold encN clampN
  simp
  congr 1
  omega
theorem packO_bd (m : List Int) : (packO m).length ≤ 130 := by
  rw [packO_len]
  have := rowF_len (gN m)
  have : (rowO m).length ≤ 512 := this
  omega
theorem blobP_len (m : List Int) : (blobE (packO m)).length ≤ 137 := by
  have h := packO_bd m
  unfold blobE
  have := numE_length 2 (min (packO m).length 65535 : Nat)
  simp
  omega
theorem snB_len (s : Int × Int × List Int) : (snB s).length ≤ 151 := by
  unfold snB
  have h1 := numE_length 1 s.1
  have h2 := numE_length 2 s.2.1
  have h3 := blobP_len s.2.2
  simp
  omega
theorem headB_len (p : PH) : (headB p).length ≤ 186 := by
  unfold headB
  have h1 := numE_length 1 p.u
  have h2 := numE_length 1 p.n
  have h3 := numE_length 1 p.o
  have h4 := numE_length 1 p.last
  have h5 := numE_length 2 p.size
  have h6 := numE_length 6 p.seq
  have h7 := numE_length 1 (p.S.length : Nat)
  have h8 := blobP_len p.m
  simp
  omega
theorem flatS_len (S : List (Int × Int × List Int)) : (S.flatMap snB).length ≤ 151 * S.length := by
  induction S with
  | nil => simp
  | cons s S ih =>
    have := snB_len s
    rw [List.flatMap_cons, List.length_append, List.length_cons]
    omega
theorem flatS_take (S : List (Int × Int × List Int)) (k : Nat) (h : k < S.length) : (S.take (k + 1)).flatMap snB = (S.take k).flatMap snB ++ snB S[k] := by
  rw [List.take_succ_eq_append_getElem h, List.flatMap_append]
  simp
theorem pure_get (S : List SnV) (k : Nat) (h : k < S.length) : (pureS S)[k]'(by rw [pure_len]; exact h) = (S[k].id, S[k].size, S[k].m) := by
  unfold pureS
  simp
end Go.Proofs.Ytpgfhbkggchliaa

/- A head's bytes: the code. -/
namespace Go.Proofs.Ytpgfhbkggchliaa
open Go.RowKit
set_option linter.unusedVariables false

set_option maxHeartbeats 4000000 in
set_option maxRecDepth 100000 in
theorem Pack_any6 (D : Nat → Prop) (h : HdV) (w : World) (hr : HdR w D h) :
    Calls Try.prog 23 #[hdV h] w fun e w' => ∃ v, e = .returned v ∧ OwnB w' w.heap.size v (packP h.p) ∧ Below w.heap.size w w' := by
  obtain ⟨rm, lm, mm, hS, hl, hm, hrs⟩ := id hr
  have b1 := below_new w (.cells (hdA h) 27)
  have hB := Blk.new w 27 (hdA h)
  have hck := Check_any6 D h _ (hr.below b1)
  have hmp := may_p h
  cases hmay : mayH h
  focus
    have E : Hid (packP h.p = []) := by unfold Hid packP; rw [← hmp, hmay]; rfl
    rw [hmay, show eno false 60 = 60 from rfl] at hck
    clear hmay hmp hr
    obtain ⟨u, n, o, hz, MA, m, mc, A, L, sc, la, sq⟩ := h
    unfold hdV hdA at *
    dsimp only at *
    go_enter Try.func23, Try.ntmps23
    go_wp2_with first
      | (with_reducible show wpList _ _ _ _ _ _
         refine wpList_load_row rfl 27 (.tmp 1) rfl w.heap.size rfl 27 _ (0, 0) _ hB Try.underlying27 rfl infoH ?_)
    refine hck.mono ?_
    rintro e w2 ⟨rfl, b2⟩
    go_wp2_with fail
    go_ret
    rw [E.out]
    exact ⟨_, rfl, OwnB.nil, b1.thenB' b2⟩
  have hbd := mayP_bd (hmp ▸ hmay)
  have E : Hid (packP h.p = packB h.p) := by unfold Hid packP; rw [← hmp, hmay]; rfl
  rw [hmay, show eno true 60 = 0 from rfl] at hck
  clear hmay hmp hr
  obtain ⟨u, n, o, hz, MA, m, mc, A, L, sc, la, sq⟩ := h
  unfold hdV hdA at *
  dsimp only at *
  obtain ⟨⟨p1, p2, p3, p4, p5⟩, ⟨p6, p7, _⟩, p8, ⟨p9, p10⟩, ⟨p11, p12⟩, p13⟩ := hbd
  unfold HdV.p at *
  dsimp only at *
  go_enter Try.func23, Try.ntmps23
  go_wp2_with first
    | (with_reducible show wpList _ _ _ _ _ _
       refine wpList_load_row rfl 27 (.tmp 1) rfl w.heap.size rfl 27 _ (0, 0) _ hB Try.underlying27 rfl infoH ?_)
  refine hck.mono ?_
  clear hck
  rintro e w2 ⟨rfl, b2⟩
  have hB := hB.below b2
  have bb := b1.thenB' b2
  have c0 := hB.cell 0
  have c1 := hB.cell 1
  have c2 := hB.cell 2
  have c3 := hB.cell 3
  have c4 := hB.cell 4
  have c5 := hB.cell 5
  have c6 := hB.cell 6
  have c7 := hB.cell 7
  simp at c0 c1 c2 c3 c4 c5 c6 c7
  have hgl := hB.lt
  have hgn : ¬ w.heap.size = w2.heap.size := by omega
  have b3 := below_new w2 (.cells #[.int .u8 u, .int .u8 n, .int .u8 o, .int .u8 la] 5)
  have h0 : numE 1 u ++ numE 1 n ++ numE 1 o ++ numE 1 la = [UInt8.ofNat u.toNat, UInt8.ofNat n.toNat, UInt8.ofNat o.toNat, UInt8.ofNat la.toNat] := by
    rw [num1 u (by omega) (by omega), num1 n (by omega) (by omega), num1 o (by omega) (by omega), num1 la (by omega) (by omega)]; rfl
  have o3 := litB w2 [UInt8.ofNat u.toNat, UInt8.ofNat n.toNat, UInt8.ofNat o.toNat, UInt8.ofNat la.toNat] 4 #[.int .u8 u, .int .u8 n, .int .u8 o, .int .u8 la] rfl (by
    have e : ∀ z : Int, 0 ≤ z → z ≤ 255 → cB (UInt8.ofNat z.toNat) = .int .u8 z := fun z h0 h1 => by
      unfold cB; congr 1; rw [UInt8.toNat_ofNat']; omega
    simp only [List.map_cons, List.map_nil]
    rw [e u (by omega) (by omega), e n (by omega) (by omega), e o (by omega) (by omega), e la (by omega) (by omega)]) (by unfold big; simp)
  have H0 := Lib.hid h0
  clear h0
  have hN := Num_any _ _ 4 [UInt8.ofNat u.toNat, UInt8.ofNat n.toNat, UInt8.ofNat o.toNat, UInt8.ofNat la.toNat] 2 hz _ o3.rdG (by simp) (by unfold I64; omega) (by unfold I64; omega)
  go_wp2_with fail
  refine hN.mono ?_
  clear hN o3
  rintro e w4 ⟨v4, rfl, o4, b4⟩
  have b4 := b3.thenB' b4
  clear b3
  have hB := hB.below b4
  have bb := bb.thenB' b4
  rw [← H0.out] at o4
  clear H0 c0 c1 c2 c3 c4 c5 c6 c7
  have e1 := numE_length 1 u
  have e2 := numE_length 1 n
  have e3 := numE_length 1 o
  have e4 := numE_length 1 la
  have e5 := numE_length 2 hz
  generalize hx4 : numE 1 u ++ numE 1 n ++ numE 1 o ++ numE 1 la ++ numE 2 hz = x4 at o4
  have l4 : x4.length ≤ 35 := by rw [← hx4]; simp only [List.length_append]; omega
  have X4 := Lib.hid hx4
  clear hx4 e1 e2 e3 e4 e5
  obtain ⟨A4, k4, rfl, hk4, hk4'⟩ := o4.form
  have c7 := hB.cell 7
  simp at c7
  have hN := Num_any _ A4 k4 x4 6 sq w4 o4.rdG (by omega) (by unfold I64; omega) (by unfold I64; omega)
  go_wp2_with fail
  refine hN.mono ?_
  clear hN
  rintro e w5 ⟨v5, rfl, o5, b5⟩
  have hB := hB.below b5
  have bb := bb.thenB' b5
  have e1 := numE_length 6 sq
  generalize hx5 : x4 ++ numE 6 sq = x5 at o5
  have l5 : x5.length ≤ 42 := by rw [← hx5, List.length_append]; omega
  have X5 := Lib.hid hx5
  clear hx5 e1 c7
  obtain ⟨A5, k5, rfl, hk5, hk5'⟩ := o5.form
  have c4 := hB.cell 4
  simp at c4
  have rm5 := rm.below bb
  go_wp2_with fail
  refine (Pack_any D MA mc m w5 rm5).mono ?_
  rintro e w6 ⟨A6, n6, rfl, hn6, r6, b6⟩
  have l6 := packO_bd m
  rw [hn6]
  have hBl := Blob_any _ _ A5 A6 k5 (packO m).length x5 (packO m) w6 (o5.below b6).rdG r6.rd (by omega) (Nat.le_refl _) (by omega)
  clear hn6
  generalize hpm : packO m = pm at *
  have PM := Lib.hid hpm
  clear hpm
  go_wp2_with fail
  refine hBl.mono ?_
  clear hBl
  rintro e w7 ⟨v7, rfl, o7, b7⟩
  have hB := (hB.below b6).below b7
  have bb := (bb.thenB' b6).thenB' b7
  have l7 : (blobE pm).length ≤ 137 := by have := blobP_len m; rw [PM.out] at this; exact this
  generalize hx7 : x5 ++ blobE pm = x7 at o7
  have l8 : x7.length ≤ 179 := by rw [← hx7, List.length_append]; omega
  have X7 := Lib.hid hx7
  clear hx7 l7 c4
  obtain ⟨A7, k7, rfl, hk7, hk7'⟩ := o7.form
  have c5 := hB.cell 5
  simp at c5
  have hN := Num_any _ A7 k7 x7 1 (L.length : Nat) w7 o7.rdG (by omega) (by unfold I64; omega) (by unfold I64; rw [pure_len] at p8; omega)
  go_wp2_with fail
  refine hN.mono ?_
  clear hN
  rintro e w8 ⟨v8, rfl, o8, b8⟩
  replace o8 := o8.low bb.size
  have hB := hB.below b8
  have bb := bb.thenB' b8
  have e1 := numE_length 1 (L.length : Nat)
  have hx8 : x7 ++ numE 1 (L.length : Nat) = headB ⟨u, n, o, hz, m, pureS L, la, sq⟩ := by
    rw [← X7.out, ← X5.out, ← X4.out, ← PM.out]
    unfold headB
    dsimp only
    rw [pure_len]
  rw [hx8] at o8
  have hhl := headB_len ⟨u, n, o, hz, m, pureS L, la, sq⟩
  have hE2 : packB ⟨u, n, o, hz, m, pureS L, la, sq⟩ = headB ⟨u, n, o, hz, m, pureS L, la, sq⟩ ++ (pureS L).flatMap snB := rfl
  have E2 := Lib.hid (E.out.trans hE2)
  clear E hE2 hx8 X7 X5 X4 PM c5 e1
  generalize headB ⟨u, n, o, hz, m, pureS L, la, sq⟩ = x8 at *
  have c5 := hB.cell 5
  simp at c5
  rw [pure_len] at p8
  have hL9 : Hid (L.length ≤ 4) := p8
  go_wp2_with fail
  have hsz8 := bb.size
  go_loopw [3, 46] (fun v i wr => ∃ k : Nat, k ≤ L.length ∧ i = .int .i64 (k : Int) ∧ OwnB wr w.heap.size v (x8 ++ ((pureS L).take k).flatMap snB) ∧ Below w8.heap.size w8 wr) (fun _ i _ => L.length - (intOf i).toNat)
  case atStart => exact ⟨0, Nat.zero_le _, rfl, by simpa using o8, Below.refl _ _⟩
  case round =>
    obtain ⟨k, hk, rfl, ow, bw⟩ := hrel
    obtain ⟨Aw, kw, rfl, hkw, hkw'⟩ := ow.form
    by_cases hlt : k < L.length
    · obtain ⟨ad, rfl, d0, d1, d2⟩ := (hS.below (bb.thenB' bw)).sn hlt
      obtain ⟨rk, lk, mk⟩ := hrs L[k] (List.getElem_mem hlt)
      have rk := rk.below (bb.thenB' bw)
      have hpk := p13 _ (List.getElem_mem (show k < (pureS L).length by rw [pure_len]; exact hlt))
      have hst := flatS_take (pureS L) k (by rw [pure_len]; exact hlt)
      rw [pure_get L k hlt] at hpk hst
      rw [show snB (L[k].id, L[k].size, L[k].m) = numE 1 L[k].id ++ numE 2 L[k].size ++ blobE (packO L[k].m) from rfl] at hst
      dsimp only at hpk
      generalize L[k].id = id at *
      generalize L[k].size = sz at *
      generalize L[k].A = Ax at *
      generalize L[k].m = x at *
      generalize L[k].c = cx at *
      have hll : (x8 ++ ((pureS L).take k).flatMap snB).length ≤ 1000 := by
        have := flatS_len ((pureS L).take k)
        have := List.length_take_le k (pureS L)
        have := hL9.out
        rw [List.length_append]
        omega
      generalize hacc : x8 ++ ((pureS L).take k).flatMap snB = acc at *
      have HT : Hid (x8 ++ ((pureS L).take (k + 1)).flatMap snB = acc ++ numE 1 id ++ numE 2 sz ++ blobE (packO x)) := by
        unfold Hid
        rw [hst, ← hacc]
        simp only [List.append_assoc]
      clear hst hacc
      have bn := below_new wr (.cells #[.int .i64 id, .int .i64 sz, .slice Ax x.length cx] 52)
      have hSn := Blk.new wr 52 #[.int .i64 id, .int .i64 sz, .slice Ax x.length cx]
      have hN := Num_any _ Aw kw acc 1 id _ (ow.below bn).rdG (by omega) (by unfold I64; omega) (by unfold I64; omega)
      go_wp2_with fail
      refine hN.mono ?_
      clear hN
      rintro e y1 ⟨v1, rfl, q1, z1⟩
      have hSn := hSn.below z1
      have bw := bw.thenB' (bn.thenB' z1)
      have zz := bn.thenB' z1
      have e1 := numE_length 1 id
      generalize hx1 : acc ++ numE 1 id = x1 at *
      have l1 : x1.length ≤ 1007 := by rw [← hx1, List.length_append]; omega
      clear hx1 e1
      obtain ⟨A1, k1, rfl, hk1, hk1'⟩ := q1.form
      have g1 := hSn.cell 1
      simp at g1
      have hN := Num_any _ A1 k1 x1 2 sz y1 q1.rdG (by omega) (by unfold I64; omega) (by unfold I64; omega)
      go_wp2_with fail
      refine hN.mono ?_
      clear hN
      rintro e y2 ⟨v2, rfl, q2, z2⟩
      have hSn := hSn.below z2
      have bw := bw.thenB' z2
      have zz := zz.thenB' z2
      have e1 := numE_length 2 sz
      generalize hx2 : x1 ++ numE 2 sz = x2 at *
      have l2 : x2.length ≤ 1014 := by rw [← hx2, List.length_append]; omega
      clear hx2 e1 g1
      obtain ⟨A2, k2, rfl, hk2, hk2'⟩ := q2.form
      have g2 := hSn.cell 2
      simp at g2
      have rk2 := rk.below zz
      go_wp2_with fail
      refine (Pack_any D Ax cx x y2 rk2).mono ?_
      rintro e y3 ⟨A3, n3, rfl, hn3, r3, z3⟩
      have l3 := packO_bd x
      rw [hn3]
      have hBl := Blob_any _ _ A2 A3 k2 (packO x).length x2 (packO x) y3 (q2.below z3).rdG r3.rd (by omega) (Nat.le_refl _) (by omega)
      clear hn3
      generalize packO x = pm at *
      go_wp2_with fail
      refine hBl.mono ?_
      clear hBl
      rintro e y4 ⟨v4', rfl, q4, z4⟩
      rw [← HT.out] at q4
      have hyl : w.heap.size ≤ y3.heap.size := (bb.thenB' (bw.thenB' z3)).size
      go_wp2_with fail
      go_roundw
      case rel => exact ⟨k + 1, by omega, by go_num, q4.low hyl, (bw.thenB' z3).thenB' z4⟩
      case measure => simp [intOf] <;> omega
    · obtain rfl : k = L.length := by omega
      have HF : Hid (x8 ++ ((pureS L).take L.length).flatMap snB = packP ⟨u, n, o, hz, m, pureS L, la, sq⟩) := by
        unfold Hid
        rw [List.take_of_length_le (by rw [pure_len]; exact Nat.le_refl _)]
        exact E2.out.symm
      generalize x8 ++ ((pureS L).take L.length).flatMap snB = fin at *
      go_wp2_with fail
      go_ret
      rw [← HF.out]
      exact ⟨_, rfl, ow, bb.thenB' bw⟩
end Go.Proofs.Ytpgfhbkggchliaa

/- A head's bytes: the document. -/
namespace Go.Proofs.Ytpgfhbkggchliaa
open Go.RowKit
set_option linter.unusedVariables false

theorem Blk.belowB {w w' : World} {g B : Nat} {t : TypeId} {cs : Array Value} (h : Blk w g t cs) (hb : Below B w w') (hg : g < B) : Blk w' g t cs := (hb.block g hg).trans h
theorem Below.of_ext {B base : Nat} {a b c : World} {v x : Value} {bs : List UInt8} (h : Below B a b) (k : Ext b c v x) (ho : OwnB b base v bs) (hB : B ≤ base) (ha : B ≤ a.heap.size) : Below B a c :=
  h.trans (k.below ho hB (Nat.le_trans ha h.size))
theorem app_len {a b : List UInt8} {n k : Nat} (ha : a.length ≤ n) (hb : b.length ≤ k) (h : n + k ≤ 100000) : a.length + b.length ≤ big := by unfold big; omega
theorem app_len' {a b : List UInt8} {n k : Nat} (ha : a.length ≤ n) (hb : b.length ≤ k) : (a ++ b).length ≤ n + k := by rw [List.length_append]; omega

theorem Blk.ext {a c : World} {v x : Value} {g : Nat} {t : TypeId} {cs : Array Value} (h : Blk a g t cs) (k : Ext a c v x) (hn : v.ownBlock ≠ some g) : Blk c g t cs := h.grown k.grown (fun e => hn e.symm)
theorem Ext.away {a c : World} {v x : Value} {g : Nat} (k : Ext a c v x) (hn : v.ownBlock ≠ some g) (hg : g < a.heap.size) : x.ownBlock ≠ some g := by
  rcases k.lies with h | h
  · rw [h]; exact hn
  · intro e
    have := h g e
    omega
theorem OwnB.away {w : World} {base : Nat} {v : Value} {bs : List UInt8} (h : OwnB w base v bs) {g : Nat} (hg : w.heap.size ≤ g) : v.ownBlock ≠ some g := by
  intro e
  have := (h.lt g e).2
  omega

set_option maxHeartbeats 8000000 in
set_option maxRecDepth 100000 in
theorem rPack_any6 (D : Nat → Prop) (h : HdV) (w : World) (hr : HdR w D h) :
    Calls Try.prog 24 #[hdV h] w fun e w' => ∃ v, e = .returned v ∧ OwnB w' w.heap.size v (packP h.p) ∧ Below w.heap.size w w' := by
  obtain ⟨rm, lm, mm, hS, hl, hm, hrs⟩ := id hr
  have b1 := below_new w (.cells (hdA h) 27)
  have hB := Blk.new w 27 (hdA h)
  have hck := rMay_any D h _ (hr.below b1)
  have hmp := may_p h
  cases hmay : mayH h
  focus
    have E : Hid (packP h.p = []) := by unfold Hid packP; rw [← hmp, hmay]; rfl
    rw [hmay] at hck
    clear hmay hmp hr
    obtain ⟨u, n, o, hz, MA, m, mc, A, L, sc, la, sq⟩ := h
    unfold hdV hdA at *
    dsimp only at *
    go_enter Try.func24, Try.ntmps24
    go_wp2_with first
      | (with_reducible show wpList _ _ _ _ _ _
         refine wpList_load_row rfl 27 (.tmp 1) rfl w.heap.size rfl 27 _ (0, 0) _ hB Try.underlying27 rfl infoH ?_)
    refine hck.mono ?_
    rintro e w2 ⟨rfl, b2⟩
    go_wp2_with fail
    go_ret
    rw [E.out]
    exact ⟨_, rfl, OwnB.nil, b1.thenB' b2⟩
  have hbd := mayP_bd (hmp ▸ hmay)
  have E : Hid (packP h.p = packB h.p) := by unfold Hid packP; rw [← hmp, hmay]; rfl
  rw [hmay] at hck
  clear hmay hmp hr
  obtain ⟨u, n, o, hz, MA, m, mc, A, L, sc, la, sq⟩ := h
  unfold hdV hdA at *
  dsimp only at *
  obtain ⟨⟨p1, p2, p3, p4, p5⟩, ⟨p6, p7, _⟩, p8, ⟨p9, p10⟩, ⟨p11, p12⟩, p13⟩ := hbd
  unfold HdV.p at *
  dsimp only at *
  rw [pure_len] at p8
  go_enter Try.func24, Try.ntmps24
  go_wp2_with first
    | (with_reducible show wpList _ _ _ _ _ _
       refine wpList_load_row rfl 27 (.tmp 1) rfl w.heap.size rfl 27 _ (0, 0) _ hB Try.underlying27 rfl infoH ?_)
  refine hck.mono ?_
  clear hck
  rintro e w2 ⟨rfl, b2⟩
  have hB := hB.below b2
  have bb := b1.thenB' b2
  clear b1 b2
  have rm := rm.below bb
  have hS := hS.below bb
  have hrs := fun s hs => (hrs s hs).below bb
  have hgl := hB.lt
  have bk : Below w2.heap.size w2 w2 := Below.refl _ _
  have o0 : OwnB w2 w2.heap.size (.slice none 0 0) [] := OwnB.nil
  have l0 : ([] : List UInt8).length ≤ 0 := Nat.le_refl _
  have k0 := hB.cell 0
  simp at k0

  go_wp2_with fail
  refine (rNumE_any 1 u _ (by unfold I64; omega)).mono ?_
  rintro e wa0 ⟨va0, rfl, oa0, ba0⟩

  have n0 := (numE_length 1 u)
  generalize hy0 : numE 1 u = y0 at oa0 n0
  obtain ⟨Aa0, ka0, rfl, _, _⟩ := oa0.form
  have bk := bk.trans (ba0.mono bk.size)
  have o0a := o0.below ba0
  have hhs0 := bk.size
  go_wp2_with first
    | (at_builtin
       refine wpList_appB rfl (.tmp 11) (.tmp 15) rfl w2.heap.size (.slice none 0 0) [] rfl o0a _ Aa0 _ ka0 y0 rfl rfl oa0.rdG (app_len l0 n0 (by omega)) hhs0 ?_
       intro v1 w3 o1 e1
       have bk := Below.of_ext bk e1 o0a (Nat.le_refl _) (Nat.le_refl _)
       have hBn := hB.belowB bk hgl
       have kn := hBn.cell 1
       simp at kn)
  have l1 := app_len' l0 n0
  generalize hx1 : [] ++ y0 = x1 at *
  have YX1 : Hid ([] ++ numE 1 u = x1) := by unfold Hid; rw [hy0]; exact hx1
  clear hx1 hy0 o0a oa0 e1

  refine (rNumE_any 1 n _ (by unfold I64; omega)).mono ?_
  rintro e wa1 ⟨va1, rfl, oa1, ba1⟩

  have n1 := (numE_length 1 n)
  generalize hy1 : numE 1 n = y1 at oa1 n1
  obtain ⟨Aa1, ka1, rfl, _, _⟩ := oa1.form
  have bk := bk.trans (ba1.mono bk.size)
  have o1a := o1.below ba1
  have hhs1 := bk.size
  go_wp2_with first
    | (at_builtin
       refine wpList_appB rfl (.tmp 17) (.tmp 21) rfl w2.heap.size v1 x1 rfl o1a _ Aa1 _ ka1 y1 rfl rfl oa1.rdG (app_len l1 n1 (by omega)) hhs1 ?_
       intro v2 w4 o2 e2
       have bk := Below.of_ext bk e2 o1a (Nat.le_refl _) (Nat.le_refl _)
       have hBn := hB.belowB bk hgl
       have kn := hBn.cell 2
       simp at kn)
  have l2 := app_len' l1 n1
  generalize hx2 : x1 ++ y1 = x2 at *
  have YX2 : Hid (x1 ++ numE 1 n = x2) := by unfold Hid; rw [hy1]; exact hx2
  clear hx2 hy1 o1a oa1 e2

  refine (rNumE_any 1 o _ (by unfold I64; omega)).mono ?_
  rintro e wa2 ⟨va2, rfl, oa2, ba2⟩

  have n2 := (numE_length 1 o)
  generalize hy2 : numE 1 o = y2 at oa2 n2
  obtain ⟨Aa2, ka2, rfl, _, _⟩ := oa2.form
  have bk := bk.trans (ba2.mono bk.size)
  have o2a := o2.below ba2
  have hhs2 := bk.size
  go_wp2_with first
    | (at_builtin
       refine wpList_appB rfl (.tmp 23) (.tmp 27) rfl w2.heap.size v2 x2 rfl o2a _ Aa2 _ ka2 y2 rfl rfl oa2.rdG (app_len l2 n2 (by omega)) hhs2 ?_
       intro v3 w5 o3 e3
       have bk := Below.of_ext bk e3 o2a (Nat.le_refl _) (Nat.le_refl _)
       have hBn := hB.belowB bk hgl
       have kn := hBn.cell 6
       simp at kn)
  have l3 := app_len' l2 n2
  generalize hx3 : x2 ++ y2 = x3 at *
  have YX3 : Hid (x2 ++ numE 1 o = x3) := by unfold Hid; rw [hy2]; exact hx3
  clear hx3 hy2 o2a oa2 e3

  refine (rNumE_any 1 la _ (by unfold I64; omega)).mono ?_
  rintro e wa3 ⟨va3, rfl, oa3, ba3⟩

  have n3 := (numE_length 1 la)
  generalize hy3 : numE 1 la = y3 at oa3 n3
  obtain ⟨Aa3, ka3, rfl, _, _⟩ := oa3.form
  have bk := bk.trans (ba3.mono bk.size)
  have o3a := o3.below ba3
  have hhs3 := bk.size
  go_wp2_with first
    | (at_builtin
       refine wpList_appB rfl (.tmp 29) (.tmp 32) rfl w2.heap.size v3 x3 rfl o3a _ Aa3 _ ka3 y3 rfl rfl oa3.rdG (app_len l3 n3 (by omega)) hhs3 ?_
       intro v4 w6 o4 e4
       have bk := Below.of_ext bk e4 o3a (Nat.le_refl _) (Nat.le_refl _)
       have hBn := hB.belowB bk hgl
       have kn := hBn.cell 3
       simp at kn)
  have l4 := app_len' l3 n3
  generalize hx4 : x3 ++ y3 = x4 at *
  have YX4 : Hid (x3 ++ numE 1 la = x4) := by unfold Hid; rw [hy3]; exact hx4
  clear hx4 hy3 o3a oa3 e4

  refine (rNumE_any 2 hz _ (by unfold I64; omega)).mono ?_
  rintro e wa4 ⟨va4, rfl, oa4, ba4⟩

  have n4 := (numE_length 2 hz)
  generalize hy4 : numE 2 hz = y4 at oa4 n4
  obtain ⟨Aa4, ka4, rfl, _, _⟩ := oa4.form
  have bk := bk.trans (ba4.mono bk.size)
  have o4a := o4.below ba4
  have hhs4 := bk.size
  go_wp2_with first
    | (at_builtin
       refine wpList_appB rfl (.tmp 34) (.tmp 37) rfl w2.heap.size v4 x4 rfl o4a _ Aa4 _ ka4 y4 rfl rfl oa4.rdG (app_len l4 n4 (by omega)) hhs4 ?_
       intro v5 w7 o5 e5
       have bk := Below.of_ext bk e5 o4a (Nat.le_refl _) (Nat.le_refl _)
       have hBn := hB.belowB bk hgl
       have kn := hBn.cell 7
       simp at kn)
  have l5 := app_len' l4 n4
  generalize hx5 : x4 ++ y4 = x5 at *
  have YX5 : Hid (x4 ++ numE 2 hz = x5) := by unfold Hid; rw [hy4]; exact hx5
  clear hx5 hy4 o4a oa4 e5

  refine (rNumE_any 6 sq _ (by unfold I64; omega)).mono ?_
  rintro e wa5 ⟨va5, rfl, oa5, ba5⟩

  have n5 := (numE_length 6 sq)
  generalize hy5 : numE 6 sq = y5 at oa5 n5
  obtain ⟨Aa5, ka5, rfl, _, _⟩ := oa5.form
  have bk := bk.trans (ba5.mono bk.size)
  have o5a := o5.below ba5
  have hhs5 := bk.size
  go_wp2_with first
    | (at_builtin
       refine wpList_appB rfl (.tmp 39) (.tmp 42) rfl w2.heap.size v5 x5 rfl o5a _ Aa5 _ ka5 y5 rfl rfl oa5.rdG (app_len l5 n5 (by omega)) hhs5 ?_
       intro v6 w8 o6 e6
       have bk := Below.of_ext bk e6 o5a (Nat.le_refl _) (Nat.le_refl _)
       have hBn := hB.belowB bk hgl
       have kn := hBn.cell 4
       simp at kn)
  have l6 := app_len' l5 n5
  generalize hx6 : x5 ++ y5 = x6 at *
  have YX6 : Hid (x5 ++ numE 6 sq = x6) := by unfold Hid; rw [hy5]; exact hx6
  clear hx6 hy5 o5a oa5 e6

  refine (rPack_any D MA mc m _ (rm.below bk) lm mm).mono ?_
  rintro e wp6 ⟨vp6, rfl, op6, bp6⟩
  obtain ⟨Ap6, kp6, rfl, hp6, hq6⟩ := op6.form
  have hBl := rBlobE_any _ Ap6 kp6 (packO m) wp6 op6.rdG hp6 (by unfold maxLen at hq6; omega)
  generalize hpm : packO m = pm at *
  have PM := Lib.hid hpm
  clear hpm
  go_wp2_with fail
  refine hBl.mono ?_
  clear hBl
  rintro e wa6 ⟨va6, rfl, oa6, ba6⟩
  have ba6 := bp6.thenB' ba6
  rw [← PM.out] at oa6

  have n6 := (blobP_len m)
  generalize hy6 : blobE (packO m) = y6 at oa6 n6
  obtain ⟨Aa6, ka6, rfl, _, _⟩ := oa6.form
  have bk := bk.trans (ba6.mono bk.size)
  have o6a := o6.below ba6
  have hhs6 := bk.size
  go_wp2_with first
    | (at_builtin
       refine wpList_appB rfl (.tmp 44) (.tmp 48) rfl w2.heap.size v6 x6 rfl o6a _ Aa6 _ ka6 y6 rfl rfl oa6.rdG (app_len l6 n6 (by omega)) hhs6 ?_
       intro v7 w9 o7 e7
       have bk := Below.of_ext bk e7 o6a (Nat.le_refl _) (Nat.le_refl _)
       have hBn := hB.belowB bk hgl
       have kn := hBn.cell 5
       simp at kn)
  have l7 := app_len' l6 n6
  generalize hx7 : x6 ++ y6 = x7 at *
  have YX7 : Hid (x6 ++ blobE (packO m) = x7) := by unfold Hid; rw [hy6]; exact hx7
  clear hx7 hy6 o6a oa6 e7

  refine (rNumE_any 1 (L.length : Nat) _ (by unfold I64; omega)).mono ?_
  rintro e wa7 ⟨va7, rfl, oa7, ba7⟩

  have n7 := (numE_length 1 (L.length : Nat))
  generalize hy7 : numE 1 (L.length : Nat) = y7 at oa7 n7
  obtain ⟨Aa7, ka7, rfl, _, _⟩ := oa7.form
  have bk := bk.trans (ba7.mono bk.size)
  have o7a := o7.below ba7
  have hhs7 := bk.size
  go_wp2_with first
    | (at_builtin
       refine wpList_appB rfl (.tmp 50) (.tmp 54) rfl w2.heap.size v7 x7 rfl o7a _ Aa7 _ ka7 y7 rfl rfl oa7.rdG (app_len l7 n7 (by omega)) hhs7 ?_
       intro v8 w10 o8 e8
       have bk := Below.of_ext bk e8 o7a (Nat.le_refl _) (Nat.le_refl _)
       have hBn := hB.belowB bk hgl
       have kn := hBn.cell 5
       simp at kn)
  have l8 := app_len' l7 n7
  generalize hx8 : x7 ++ y7 = x8 at *
  have YX8 : Hid (x7 ++ numE 1 (L.length : Nat) = x8) := by unfold Hid; rw [hy7]; exact hx8
  clear hx8 hy7 o7a oa7 e8

  have hx8 : x8 = headB ⟨u, n, o, hz, m, pureS L, la, sq⟩ := by
    rw [← YX8.out, ← YX7.out, ← YX6.out, ← YX5.out, ← YX4.out, ← YX3.out, ← YX2.out, ← YX1.out]
    unfold headB
    dsimp only
    rw [pure_len]
    rfl
  have hE2 : packB ⟨u, n, o, hz, m, pureS L, la, sq⟩ = x8 ++ (pureS L).flatMap snB := by rw [hx8]; rfl
  have E2 := Lib.hid (E.out.trans hE2)
  clear E hE2 hx8 YX8 YX7 YX6 YX5 YX4 YX3 YX2 YX1 PM k0 kn
  clear hBn n0 n1 n2 n3 n4 n5 n6 n7 l0 l1 l2 l3 l4 l5 l6 l7 o0 o1 o2 o3 o4 o5 o6 o7
  have hL9 : Hid (L.length ≤ 4) := p8
  have hLm : Hid (L.length ≤ 9223372036854775807) := by unfold Hid; omega
  have hbk := bk.size
  go_loopw [4, 5] (fun v i wr => ∃ k : Nat, k ≤ L.length ∧ i = .int .i64 (k : Int) ∧ OwnB wr w2.heap.size v (x8 ++ ((pureS L).take k).flatMap snB) ∧ Below w2.heap.size w2 wr) (fun _ i _ => L.length - (intOf i).toNat)
  case atStart => exact ⟨0, Nat.zero_le _, rfl, by simpa using o8, bk⟩
  case round =>
    clear bk hbk o8
    obtain ⟨k, hk, rfl, ow, bk⟩ := hrel
    have hbk := bk.size
    have hBn := hB.belowB bk hgl
    have k5 := hBn.cell 5
    simp at k5
    by_cases hlt : k < L.length
    · obtain ⟨ad, rfl, d0, d1, d2⟩ := (hS.below bk).sn hlt
      obtain ⟨rk, lk, mk⟩ := hrs L[k] (List.getElem_mem hlt)
      have hpk := p13 _ (List.getElem_mem (show k < (pureS L).length by rw [pure_len]; exact hlt))
      have hst := flatS_take (pureS L) k (by rw [pure_len]; exact hlt)
      rw [pure_get L k hlt] at hpk hst
      rw [show snB (L[k].id, L[k].size, L[k].m) = numE 1 L[k].id ++ numE 2 L[k].size ++ blobE (packO L[k].m) from rfl] at hst
      dsimp only at hpk
      generalize L[k].id = id at *
      generalize L[k].size = sz at *
      generalize L[k].A = Ax at *
      generalize L[k].m = x at *
      generalize L[k].c = cx at *
      have l8 : (x8 ++ ((pureS L).take k).flatMap snB).length ≤ 1000 := by
        have := flatS_len ((pureS L).take k)
        have := List.length_take_le k (pureS L)
        have := hL9.out
        rw [List.length_append]
        omega
      generalize hacc : x8 ++ ((pureS L).take k).flatMap snB = acc at *
      have HT : Hid (x8 ++ ((pureS L).take (k + 1)).flatMap snB = acc ++ numE 1 id ++ numE 2 sz ++ blobE (packO x)) := by
        unfold Hid
        rw [hst, ← hacc]
        simp only [List.append_assoc]
      clear hst hacc
      have bn := below_new wr (.cells #[.int .i64 id, .int .i64 sz, .slice Ax x.length cx] 52)
      have hSn := Blk.new wr 52 #[.int .i64 id, .int .i64 sz, .slice Ax x.length cx]
      have aw := ow.away (Nat.le_refl _)
      have o0 := ow.below bn
      have bk := bk.trans (bn.mono bk.size)
      have hgw : w.heap.size < wr.heap.size := Nat.lt_of_lt_of_le hgl hbk
      go_wp2_with fail
      refine (rNumE_any 1 id _ (by unfold I64; omega)).mono ?_
      rintro e wa0 ⟨va0, rfl, oa0, ba0⟩

      have n0 := (numE_length 1 id)
      generalize hy0 : numE 1 id = y0 at oa0 n0
      obtain ⟨Aa0, ka0, rfl, _, _⟩ := oa0.form
      have bk := bk.trans (ba0.mono bk.size)
      have o0a := o0.below ba0
      have hhs0 := bk.size
      have hSn := hSn.below ba0
      have hsl0 := hSn.lt
      go_wp2_with first
        | (at_builtin
           refine wpList_appB rfl (.tmp 68) (.tmp 71) rfl w2.heap.size u4 acc rfl o0a _ Aa0 _ ka0 y0 rfl rfl oa0.rdG (app_len l8 n0 (by omega)) hhs0 ?_
           intro v1 z3 o1 e1
           have bk := Below.of_ext bk e1 o0a (Nat.le_refl _) (Nat.le_refl _)
           have hSn := hSn.ext e1 aw
           have aw := e1.away aw hsl0
           have kn := hSn.cell 1
           simp at kn)
      have l1 := app_len' l8 n0
      generalize hx1 : acc ++ y0 = x1 at *
      have YX1 : Hid (acc ++ numE 1 id = x1) := by unfold Hid; rw [hy0]; exact hx1
      clear hx1 hy0 o0a oa0 e1

      refine (rNumE_any 2 sz _ (by unfold I64; omega)).mono ?_
      rintro e wa1 ⟨va1, rfl, oa1, ba1⟩

      have n1 := (numE_length 2 sz)
      generalize hy1 : numE 2 sz = y1 at oa1 n1
      obtain ⟨Aa1, ka1, rfl, _, _⟩ := oa1.form
      have bk := bk.trans (ba1.mono bk.size)
      have o1a := o1.below ba1
      have hhs1 := bk.size
      have hSn := hSn.below ba1
      have hsl1 := hSn.lt
      go_wp2_with first
        | (at_builtin
           refine wpList_appB rfl (.tmp 73) (.tmp 76) rfl w2.heap.size v1 x1 rfl o1a _ Aa1 _ ka1 y1 rfl rfl oa1.rdG (app_len l1 n1 (by omega)) hhs1 ?_
           intro v2 z4 o2 e2
           have bk := Below.of_ext bk e2 o1a (Nat.le_refl _) (Nat.le_refl _)
           have hSn := hSn.ext e2 aw
           have aw := e2.away aw hsl1
           have kn := hSn.cell 2
           simp at kn)
      have l2 := app_len' l1 n1
      generalize hx2 : x1 ++ y1 = x2 at *
      have YX2 : Hid (x1 ++ numE 2 sz = x2) := by unfold Hid; rw [hy1]; exact hx2
      clear hx2 hy1 o1a oa1 e2

      refine (rPack_any D Ax cx x _ (rk.below bk) lk mk).mono ?_
      rintro e wp2 ⟨vp2, rfl, op2, bp2⟩
      obtain ⟨Ap2, kp2, rfl, hp2, hq2⟩ := op2.form
      have hBl := rBlobE_any _ Ap2 kp2 (packO x) wp2 op2.rdG hp2 (by unfold maxLen at hq2; omega)
      generalize hpm : packO x = pm at *
      have PM := Lib.hid hpm
      clear hpm
      go_wp2_with fail
      refine hBl.mono ?_
      clear hBl
      rintro e wa2 ⟨va2, rfl, oa2, ba2⟩
      have ba2 := bp2.thenB' ba2
      rw [← PM.out] at oa2

      have n2 := (blobP_len x)
      generalize hy2 : blobE (packO x) = y2 at oa2 n2
      obtain ⟨Aa2, ka2, rfl, _, _⟩ := oa2.form
      have bk := bk.trans (ba2.mono bk.size)
      have o2a := o2.below ba2
      have hhs2 := bk.size
      have hSn := hSn.below ba2
      have hsl2 := hSn.lt
      go_wp2_with first
        | (at_builtin
           refine wpList_appB rfl (.tmp 78) (.tmp 82) rfl w2.heap.size v2 x2 rfl o2a _ Aa2 _ ka2 y2 rfl rfl oa2.rdG (app_len l2 n2 (by omega)) hhs2 ?_
           intro v3 z5 o3 e3
           have bk := Below.of_ext bk e3 o2a (Nat.le_refl _) (Nat.le_refl _)
           have hSn := hSn.ext e3 aw
           have aw := e3.away aw hsl2)
      have l3 := app_len' l2 n2
      generalize hx3 : x2 ++ y2 = x3 at *
      have YX3 : Hid (x2 ++ blobE (packO x) = x3) := by unfold Hid; rw [hy2]; exact hx3
      clear hx3 hy2 o2a oa2 e3

      go_roundw
      case rel =>
        refine ⟨k + 1, by omega, by have := hLm.out; go_num, ?_, bk⟩
        rw [HT.out, YX1.out, YX2.out, ← PM.out, YX3.out]
        exact o3
      case measure => simp [intOf] <;> omega
    · obtain rfl : k = L.length := by omega
      have HF : Hid (x8 ++ ((pureS L).take L.length).flatMap snB = packP ⟨u, n, o, hz, m, pureS L, la, sq⟩) := by
        unfold Hid
        rw [List.take_of_length_le (by rw [pure_len]; exact Nat.le_refl _)]
        exact E2.out.symm
      generalize x8 ++ ((pureS L).take L.length).flatMap snB = fin at *
      go_wp2_with fail
      go_ret
      rw [← HF.out]
      exact ⟨_, rfl, ow.low bb.size, bb.thenB' bk⟩
end Go.Proofs.Ytpgfhbkggchliaa

/- Rows of snapshots of the call's own: append; what is read of them stays. -/
namespace Go.Proofs.Ytpgfhbkggchliaa
open Go.RowKit
set_option linter.unusedVariables false

theorem infoSn : (Try.prog.info? 52).map (fun i => (i.zero, i.size, i.bytes)) = some (some (.agg #[.int .i64 0, .int .i64 0, .slice none 0 0]), 3, 40) := by kernel_rfl
def snF (L : List SnV) : List Value := L.flatMap snC
theorem snF_len (L : List SnV) : (snF L).length = L.length * 3 := by
  unfold snF
  induction L with
  | nil => rfl
  | cons s L ih => rw [List.flatMap_cons, List.length_append, ih, List.length_cons]; simp [snC]; omega
theorem snF_one (L : List SnV) : ∀ v ∈ snF L, v.oneCell' = true := by
  intro v hv
  obtain ⟨s, _, hs⟩ := List.mem_flatMap.1 hv
  simp only [snC, List.mem_cons, List.not_mem_nil, or_false] at hs
  rcases hs with rfl | rfl | rfl <;> rfl
theorem snF_at : ∀ (L : List SnV) (i : Nat) (s : SnV), L[i]? = some s → ∀ (j : Nat) (v : Value), (snC s)[j]? = some v → (snF L)[i * 3 + j]? = some v
  | [], i, s, h, j, v, hv => by simp at h
  | x :: L, 0, s, h, j, v, hv => by
    obtain rfl : x = s := by simpa using h
    have hj : j < (snC x).length := (List.getElem?_eq_some_iff.1 hv).1
    unfold snF
    rw [List.flatMap_cons, Nat.zero_mul, Nat.zero_add, List.getElem?_append_left hj]
    exact hv
  | x :: L, i + 1, s, h, j, v, hv => by
    have h' : L[i]? = some s := by simpa using h
    unfold snF
    rw [List.flatMap_cons, List.getElem?_append_right (by simp [snC]; omega), show (i + 1) * 3 + j - (snC x).length = i * 3 + j by simp [snC]; omega]
    exact snF_at L i s h' j v hv
/-- A row of snapshots, of the call's own. -/
def OwnSn (w : World) (base : Nat) (v : Value) (L : List SnV) : Prop := w.ownsRow base 52 3 v L.length (snF L)
section
variable {w w' : World} {base : Nat} {v : Value} {L : List SnV}
theorem OwnSn.nil : OwnSn w base (.slice none 0 0) [] := World.ownsRow_nil _ _ _ _
theorem OwnSn.form (h : OwnSn w base v L) : ∃ A c, v = .slice A L.length c ∧ L.length ≤ c ∧ c ≤ maxLen := own_form h
theorem OwnSn.below (h : OwnSn w base v L) (hb : Below w.heap.size w w') : OwnSn w' base v L := own_below h hb
theorem OwnSn.low {base' : Nat} (h : OwnSn w base v L) (hb : base' ≤ base) : OwnSn w base' v L := own_base h hb
theorem OwnSn.mod {X : Nat → Prop} (h : OwnSn w base v L) (hb : Mod X w w') (hx : ∀ k, v.ownBlock = some k → ¬ X k) : OwnSn w' base v L := by
  refine ⟨h.1, ?_⟩
  rcases h.2 with h0 | ⟨g, cap, cur, rfl, hg, hh, r⟩
  · exact .inl h0
  · exact .inr ⟨g, cap, cur, rfl, hg, by rw [hb.block g (Array.getElem?_eq_some_iff.1 hh).1 (hx g rfl)]; exact hh, r⟩
theorem OwnSn.rd {A : Option Addr} {n c : Nat} (h : OwnSn w base (.slice A n c) L) : RdL w (fun b => (Value.slice A n c).ownBlock = some b) 3 snC A L := by
  intro hn
  rcases h.2 with ⟨_, h0⟩ | ⟨g, cap, cur, hv, hg, hh, hnc, hcm, hcs, htake⟩
  · omega
  · injection hv with hA _ _
    subst hA
    refine ⟨_, rfl, rfl, fun i s hs j u hu => ?_⟩
    have h1 := snF_at L i s hs j u hu
    have hlt := (List.getElem?_eq_some_iff.1 h1).1
    rw [snF_len] at hlt
    rw [← htake, List.getElem?_take, if_pos (by omega)] at h1
    rw [add_head, (show Blk w g _ cur from hh).cell]
    rw [← h1]; simp
end
theorem rd_newSn (w : World) (s : SnV) : Rd (w.alloc (.cells (snC s).toArray 52)) (· = w.heap.size) 3 (some ⟨w.heap.size, 0, none⟩) 1 (snC s) := by
  refine ⟨rfl, fun _ => ⟨_, rfl, rfl, fun j u hu => ?_⟩⟩
  rw [add_head, (Blk.new w 52 (snC s).toArray).cell]
  simpa using hu
section
variable {w : World} {ops : Array Oper} {rest : List Oper} {o : Oper} {a : Act} {Q : Exit → Act → World → Prop}
theorem wpList_appSn (hgd : o.guard = none) (s x : Operand) (ho : o.op = .call { callee := .builtin .append, args := #[s, x], argTypes := #[25, 25] })
    (base : Nat) (v : Value) (L news : List SnV) (hs : a.eval s = v) (hown : OwnSn w base v L)
    (D : Nat → Prop) (A : Option Addr) (n c : Nat) (hx : a.eval x = .slice A n c) (hn : n = news.length) (hr : Rd w D 3 A n (snF news))
    (hlen : L.length + news.length ≤ 1000000) (hbase : base ≤ w.heap.size)
    (h : ∀ v' w', OwnSn w' base v' (L ++ news) → Ext w w' v v' → wpList Try.prog ops Q rest (a.put o.dst v') w') :
    wpList Try.prog ops Q (o :: rest) a w := by
  subst hn
  refine wpList_plain hgd fun _ hK => wp_app s x _ ho base 52 _ 3 40 Try.underlying25 infoSn rfl (by decide) v _ _ hs hown D A _ c _ hx hr (snF_one news) ?_ ?_ hbase fun v' w' h2 h3 h4 => hK _ _ (h v' w' ?_ ⟨h3, h4.imp id fun e k hk => by rw [e] at hk; injection hk with hk; omega⟩)
  · unfold maxLen; omega
  · omega
  · unfold OwnSn snF
    rw [List.length_append, List.flatMap_append]
    exact h2
end
theorem snF_single (s : SnV) : snF [s] = snC s := by unfold snF; simp

/-! ### maps beside a row that grows -/
theorem RdI.ext {a c : World} {v x : Value} {D : Nat → Prop} {A : Option Addr} {m : List Int} (h : RdI a D A m) (k : Ext a c v x) (hD : ∀ b, D b → v.ownBlock ≠ some b) : RdI c (fun b => D b ∧ x.ownBlock ≠ some b) A m := by
  have h1 : RdI a (fun b => D b ∧ b < a.heap.size) A m := Rd.imp h (fun b hb hd => ⟨hd, hb⟩) (by decide)
  have h2 : RdI c (fun b => D b ∧ b < a.heap.size) A m := Rd.keep h1 fun b hlt hd => k.grown.block b hlt (fun e => hD b hd.1 e.symm)
  refine Rd.imp h2 (fun b _ hd => ⟨hd.1, fun e => ?_⟩) (by decide)
  rcases k.lies with l | l
  · exact hD b hd.1 (l ▸ e)
  · have := l b e
    omega
theorem SnR.imp {w : World} {D D' : Nat → Prop} {s : SnV} (h : SnR w D s) (hd : ∀ b, b < w.heap.size → D b → D' b) : SnR w D' s := ⟨Rd.imp h.1 hd (by decide), h.2⟩
theorem SnR.mod {w w' : World} {D X : Nat → Prop} {s : SnV} (h : SnR w D s) (hb : Mod X w w') (hd : ∀ b, D b → ¬ X b) : SnR w' D s := ⟨Rd.mod h.1 hb hd, h.2⟩
theorem SnR.ext {a c : World} {v x : Value} {D : Nat → Prop} {s : SnV} (h : SnR a D s) (k : Ext a c v x) (hD : ∀ b, D b → v.ownBlock ≠ some b) : SnR c (fun b => D b ∧ x.ownBlock ≠ some b) s := ⟨RdI.ext h.1 k hD, h.2⟩

/-! ### a store into a block known whole: the world behind it is any that holds the block so -/
theorem mod_setRow {w : World} {g : Nat} (cs : Array Value) : Mod (· = g) w (w.setRow g cs) :=
  ⟨rfl, rfl, rfl, by rw [setRow_size]; exact Nat.le_refl _, fun k _ hk => setRow_other w g k cs hk⟩
theorem one_size {ty : TypeId} (hi : (Try.prog.info? ty).map (·.size) = some 1) (w : World) (g i : Nat) (T : TypeId) (cs : Array Value) (u : Value) (h1 : u.oneCell' = true) (hB : Blk w g T cs) (hlt : i < cs.size) :
    (storeVar ty ⟨g, i, none⟩ u).run Try.prog w = .ok () (w.setCell ⟨g, i, none⟩ u) := by
  have hc : u.cells = #[u] := by cases u <;> first | rfl | cases h1
  cases hq : Try.prog.info? ty with
  | none => simp [hq] at hi
  | some j =>
    have hs : j.size = 1 := by simpa [hq] using hi
    have h2 : w.cell? ⟨g, i, none⟩ = some cs[i] := by rw [hB.cell]; exact Array.getElem?_eq_getElem hlt
    have hr := run_store Try.prog w ⟨g, i, none⟩ u .plain h1
    rw [h2] at hr
    simp only [hB.frozen i] at hr
    simp [storeVar, sizeOf, typeInfo, hq, hc, hs, storeCells, Addr.add]
    exact hr
theorem wpList_fldB {ops : Array Oper} {rest : List Oper} {o : Oper} {a : Act} {w : World} {Q : Exit → Act → World → Prop} (hgd : o.guard = none) (ty : TypeId) (x y : Operand) (ho : o.op = .store ty x y)
    (g i : Nat) (T : TypeId) (cs : Array Value) (u : Value) (hx : a.eval x = .pointer (some ⟨g, i, none⟩)) (hy : a.eval y = u) (h1 : u.oneCell' = true) (hi : (Try.prog.info? ty).map (·.size) = some 1)
    (hB : Blk w g T cs) (n : Nat) (hn : cs.size = n) (hlt : i < n)
    (h : ∀ w', Blk w' g T (cs.setIfInBounds i u) → Mod (· = g) w w' → wpList Try.prog ops Q rest (a.put o.dst undef) w') : wpList Try.prog ops Q (o :: rest) a w := by
  subst hy hn
  refine wpList_plain hgd fun _ hK => ?_
  unfold Oper.wp execOp
  simp only [ho, hx, Instr.storeAt, Instr.sureAddr, Sem.run_bind, Sem.run_pure, Result.andThen_ok, one_size hi w g i T cs _ h1 hB hlt]
  exact hK _ _ (h _ (hB.set_ i _) ((Mod.refl _ _).setG i _))
theorem wpList_rowB {ops : Array Oper} {rest : List Oper} {o : Oper} {a : Act} {w : World} {Q : Exit → Act → World → Prop} (hgd : o.guard = none) (ty : TypeId) (x y : Operand) (ho : o.op = .store ty x y)
    (g : Nat) (T : TypeId) (old cells : Array Value) (hx : a.eval x = .pointer (some ⟨g, 0, none⟩)) (hy : a.eval y = .agg cells)
    (hB : Blk w g T old) (hi : (Try.prog.info? ty).map (·.size) = some cells.size) (hold : old.size = cells.size) (h1 : cells.all (·.oneCell') = true)
    (h : ∀ w', Blk w' g T cells → Mod (· = g) w w' → wpList Try.prog ops Q rest (a.put o.dst undef) w') : wpList Try.prog ops Q (o :: rest) a w :=
  wpList_store_row hgd ty x y ho g cells hx hy T old hB hi hold h1 (h _ (setRow_heap _ _ _ _ _ _ hB) (mod_setRow cells))
end Go.Proofs.Ytpgfhbkggchliaa
