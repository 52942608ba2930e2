/- Parts of the proof, joined: PuS. -/
import Derived.Test.YthkeoimjjgmppaaDoorQt
import Derived.StillTailTactics
/- PastSpoilt: the walk. -/
namespace Go.Proofs.YthkeoimjjgmppaaDoor
open Go.RowKit
set_option linter.unusedVariables false
set_option maxRecDepth 100000

theorem and_maskP (c : Int) (m : Nat) (hm : m < 9223372036854775808) : ∃ j : Nat, bits .and .i64 c (m : Int) = (j : Int) ∧ j ≤ m := by
  have e : (BitVec.ofInt 64 (m : Int)).toNat = m := by rw [BitVec.ofInt_natCast, BitVec.toNat_ofNat]; exact Nat.mod_eq_of_lt (by omega)
  refine ⟨(BitVec.ofInt 64 c &&& BitVec.ofInt 64 (m : Int)).toNat, ?_, ?_⟩
  · show IntKind.i64.wrap (((BitVec.ofInt 64 c &&& BitVec.ofInt 64 (m : Int)).toNat : Nat) : Int) = _
    have h : (BitVec.ofInt 64 c &&& BitVec.ofInt 64 (m : Int)).toNat ≤ m := by
      rw [BitVec.toNat_and, e]
      exact Nat.and_le_right
    rw [IntKind.wrap_i64]
    omega
  · rw [BitVec.toNat_and, e]
    exact Nat.and_le_right
theorem wrap8P (n : Nat) (h : n < 256) : IntKind.u8.wrap (n : Int) = (n : Int) := by
  simp [IntKind.wrap, IntKind.bits, IntKind.signed]
  omega
theorem xor8P (x m : UInt8) : bits .xor .u8 (x.toNat : Int) (m.toNat : Int) = ((x ^^^ m).toNat : Int) := by
  have e : ∀ x : UInt8, BitVec.ofInt 8 (x.toNat : Int) = x.toBitVec := fun x => by
    rw [BitVec.ofInt_natCast]
    apply BitVec.eq_of_toNat_eq
    rw [BitVec.toNat_ofNat]
    exact Nat.mod_eq_of_lt x.toNat_lt
  show IntKind.u8.wrap (((BitVec.ofInt 8 (x.toNat : Int) ^^^ BitVec.ofInt 8 (m.toNat : Int)).toNat : Nat) : Int) = _
  rw [e, e, wrap8P _ (BitVec.isLt _)]
  rfl
theorem set_other {d : List UInt8} {q : Nat} (hq : q < d.length) {y : UInt8} (h : y ≠ d[q]) : d.set q y ≠ d := fun e => by
  have h1 : (d.set q y)[q]? = d[q]? := by rw [e]
  rw [List.getElem?_set_self hq, List.getElem?_eq_getElem hq] at h1
  exact h (Option.some.inj h1)
theorem xor1_ne (x : UInt8) : x ^^^ 1 ≠ x := fun e => by
  have h := congrArg (fun y => x ^^^ y) e
  simp only [UInt8.xor_self, ← UInt8.xor_assoc, UInt8.zero_xor] at h
  exact absurd h (by decide)
theorem Hon.reg {w : World} {base g : Nat} {vc vr : Value} {L : List CmV} {R : List RcV} (h : Hon w base g vc vr L R) {g' : Nat} (hg : w.heap.size ≤ g') : Hon w base g' vc vr L R :=
  ⟨h.oc, h.ow, h.apt, fun s hs => RdC.imp (h.al s hs) fun b hb h => ⟨by omega, h.2⟩, fun s hs => (h.ar s hs).imp fun b hb h => ⟨by omega, h.2⟩⟩
theorem readD_len (p : PI) (off n snap : Int) : (readD p off n snap).length ≤ 512 := by
  have := asD_len (p := p) snap
  unfold readD
  split
  · unfold cutO
    simp only [List.length_take, List.length_drop]
    omega
  · exact Nat.zero_le _
theorem recK_rd (m : PI) (k : Nat) (x : PL) : (recK k m x).rd.length ≤ 512 := by
  unfold recK
  split
  · exact readD_len _ _ _ _
  · exact Nat.zero_le _
theorem infoSb1 : (Tryd.prog.info? 23).map (·.size) = some 1 := by kernel_rfl
theorem set_bd {rs : List PR} {k : Nat} {r : PR} (h : ∀ r ∈ rs, RBd r) (hr : RBd r) : ∀ r' ∈ rs.set k r, RBd r' := fun r' hr' => by
  rcases List.mem_or_eq_of_mem_set hr' with h1 | h1
  · exact h r' h1
  · rw [h1]; exact hr
theorem er_ne {α : Type} (R : List α) (k q : Nat) (hq : q < R.length) (h : q ≠ k) : (R.take (q + 1)).eraseIdx k = (R.take q).eraseIdx k ++ [R[q]] := by
  have hl : (R.take q).length = q := by rw [List.length_take]; omega
  rw [List.take_succ_eq_append_getElem hq]
  by_cases hk : k < q
  · rw [List.eraseIdx_append_of_lt_length (by omega)]
  · rw [List.eraseIdx_of_length_le (by rw [List.length_append, hl, List.length_singleton]; omega), List.eraseIdx_of_length_le (by omega)]
theorem er_eq {α : Type} (R : List α) (k : Nat) (hq : k < R.length) : (R.take (k + 1)).eraseIdx k = (R.take k).eraseIdx k := by
  have hl : (R.take k).length = k := by rw [List.length_take]; omega
  have e1 : (R.take k).eraseIdx k = R.take k := List.eraseIdx_of_length_le (by omega)
  rw [e1, List.take_succ_eq_append_getElem hq, List.eraseIdx_append_of_length_le (by omega), hl, Nat.sub_self]
  simp
theorem map_erase {α β : Type} (f : α → β) : ∀ (l : List α) (k : Nat), (l.eraseIdx k).map f = (l.map f).eraseIdx k
  | [], k => rfl
  | x :: l, 0 => rfl
  | x :: l, k + 1 => by
    rw [List.eraseIdx_cons_succ, List.map_cons, map_erase f l k]
    rfl
theorem prs_erase (R : List RcV) (k : Nat) : prs (R.eraseIdx k) = (prs R).eraseIdx k := map_erase RcV.p R k
theorem wrap_ne (n : Int) : wrap64 (n + 1) ≠ n := by unfold wrap64; omega
set_option maxHeartbeats 16000000 in
theorem spoilt_walk (W : World) (ht : TabE W) (a0 : Int) (i0 : I64 a0) (A : Option Addr) (X : List CaV) (c : Nat) (hX : CasR W (Old W) A c X) (iX : ∀ s ∈ X, CaI s.x) (at_ : Int) (i2 : I64 at_) :
    Calls Tryd.prog 8 #[.int .i64 a0, .slice A X.length c, .int .i64 at_] W fun e w' => e = .returned (.bool true) ∧ Below W.heap.size W w' := by
  have haw := awake23 W ht
  have hc := hX.cap
  have hm := hX.max
  go_enter Tryd.func8, Tryd.ntmps8
  go_wp2_with fail
  refine haw.mono ?_
  clear haw
  rintro e w1 ⟨rfl, bb⟩
  by_cases hn0 : X.length = 0
  focus
    have h0 : ((X.length : Int) == 0) = true := by simp [hn0]
    go_wp2_with fail
    go_ret
    exact ⟨rfl, bb⟩
  have h0 : ((X.length : Int) == 0) = false := by simp only [beq_eq_false_iff_ne, ne_eq]; omega
  by_cases hn : X.length ≤ 15
  rotate_left
  focus
    have hg : (15 : Int) < (X.length : Int) := by omega
    go_wp2_with fail
    go_ret
    exact ⟨rfl, bb⟩
  have hg : ¬ (15 : Int) < (X.length : Int) := by omega
  go_wp2_with fail
  clear hg h0
  go_loopw [8] (fun sk wr => ∃ k : Nat, sk = .int .i64 (k : Int) ∧ k ≤ X.length ∧ Hid (∀ s ∈ X.take k, s.x.data.length ≤ 200) ∧ Below W.heap.size W wr) (fun sk _ => X.length - (intOf sk).toNat)
  case atStart => exact ⟨0, rfl, Nat.zero_le _, Lib.hid (fun s hs => absurd hs (by simp)), bb⟩
  case round =>
    clear bb
    obtain ⟨k, rfl, hk, HB, bb⟩ := hrel
    by_cases hlt : k < X.length
    · obtain ⟨ad, hA, _, _, _, _, _, c5⟩ := (hX.below bb).at2 hlt
      subst hA
      have HS := Lib.hid (fun h => take_step hlt HB.out h)
      generalize X[k] = s at *
      by_cases hs : s.x.data.length ≤ 200
      · have hs' : ¬ (200 : Int) < (s.x.data.length : Int) := by omega
        have H2 := Lib.hid (HS.out hs)
        clear HB HS
        go_wp2_with fail
        go_roundw
        case rel => exact ⟨k + 1, by go_num, hlt, H2, bb⟩
        case measure => simp only [intOf]; omega
      · have hs' : (200 : Int) < (s.x.data.length : Int) := by omega
        clear HB HS
        go_wp2_with fail
        go_ret
        exact ⟨rfl, bb⟩
    · obtain rfl : k = X.length := by omega
      have HX := Lib.hid (all_LBd HB.out iX)
      clear HB
      have hon := honest_any a0 A c X wr ((hX.below bb).imp fun b hb h => by have : b < W.heap.size := h; have := bb.size; show b < wr.heap.size; omega) hn
      go_wp2_with fail
      refine hon.mono ?_
      clear hon
      rintro e w3 ⟨g, vc, vr, L, R, rfl, hH, eL, eR, b3⟩
      have HEL := Lib.hid eL
      have HER := Lib.hid eR
      have hwb := bb.size
      have hw3 := b3.size
      have bb := bb.thenB' b3
      clear b3 eL eR
      obtain ⟨A1, c1, A2, c2, rfl, rfl, hL, hR⟩ := hH.form
      have HLR : Hid (R.length = X.length) := Lib.hid (by rw [← prs_len, HER.out, rsK_len _ (map_le X)])
      have hlR : R.length ≤ 15 := by rw [HLR.out]; exact hn
      have hlR0 : 0 < R.length := by rw [HLR.out]; omega
      obtain ⟨j, hj, hj2⟩ := and_maskP at_ 1023 (by omega)
      have hj : bits .and .i64 at_ 1023 = (j : Int) := hj
      obtain ⟨k, hkk⟩ : ∃ k, k = j % R.length := ⟨_, rfl⟩
      have hkn : k < R.length := by rw [hkk]; exact Nat.mod_lt _ hlR0
      have hk1 : (j : Int).tmod (R.length : Int) = (k : Int) := by rw [hkk]; rfl
      have hk2 : (j : Int) % (R.length : Int) = (k : Int) := by rw [hkk]; rfl
      have hr0 : (R.length : Int) ≠ 0 := by omega
      have hr0b : ((R.length : Int) == 0) = false := by simp only [beq_eq_false_iff_ne, ne_eq]; omega
      have hkI : (k : Int) < (R.length : Int) := by omega
      clear hkk
      obtain ⟨s, hsR⟩ : ∃ s, R[k]? = some s := ⟨R[k], List.getElem?_eq_getElem hkn⟩
      obtain ⟨xm, hxm⟩ := some_at (map_le X) (k := k) (by rw [← HLR.out]; exact hkn)
      have HSP : Hid (s.p = recK k (stK (newP a0) (X.map CaV.x) k) xm) := Lib.hid (by
        have h1 := prs_at hsR
        rw [HER.out, rsK_get _ (map_le X) k xm (by rw [← HLR.out]; exact hkn) hxm] at h1
        exact (Option.some.inj h1).symm)
      have HXM := Lib.hid hxm
      have HKX : Hid (k < X.length) := Lib.hid (by rw [← HLR.out]; exact hkn)
      obtain ⟨ad2, hA2, -⟩ := hR.at_ hkn
      subst hA2
      have hse : R[k] = s := by rw [List.getElem?_eq_getElem hkn] at hsR; exact Option.some.inj hsR
      obtain ⟨c0, c1', c2', c3', c4', c5', c6', c7', c8', c9', c10', c11', c12', c13'⟩ := hR.at2 hkn
      rw [hse] at c0 c1' c2' c3' c4' c5' c6' c7' c8' c9' c10' c11' c12' c13'
      have HSR := Lib.hid hsR
      clear hse hsR hxm
      have HEK : Hid (s.E = (recK k (stK (newP a0) (X.map CaV.x) k) xm).E) := Lib.hid (congrArg PR.E HSP.out)
      have HKK : Hid (s.call.kind = xm.kind) := Lib.hid ((congrArg (fun r => r.call.kind) HSP.out).trans (recK_kind _ _ _))
      have HNK : Hid (s.N = (recK k (stK (newP a0) (X.map CaV.x) k) xm).N) := Lib.hid (congrArg PR.N HSP.out)
      have HRK : Hid (s.rd = (recK k (stK (newP a0) (X.map CaV.x) k) xm).rd) := Lib.hid (congrArg PR.rd HSP.out)
      have HXK : Hid (s.rx = (recK k (stK (newP a0) (X.map CaV.x) k) xm).rx) := Lib.hid (congrArg PR.rx HSP.out)
      have HSB : Hid (RBd s.p) := Lib.hid (by
        have h1 := prs_at HSR.out
        exact rsK_bd (map_le X) HX.out _ (by rw [← HER.out]; exact List.mem_of_getElem? h1))
      go_upto_region 14 with fail
      have bn := below_new w3 (.cells #[.int .i64 s.cl, .int .i64 s.call.image, .int .i64 s.call.kind, .int .i64 s.call.off, .int .i64 s.call.len, .int .i64 s.call.snap, .slice s.A s.call.data.length s.c, .int .i64 s.fr, .int .i64 s.tt, .bool s.done, .int .i64 s.E, .slice s.rA s.rd.length s.rc, .int .i64 s.N, .int .i64 s.rx] 44)
      have hX4 := Blk.new w3 44 #[.int .i64 s.cl, .int .i64 s.call.image, .int .i64 s.call.kind, .int .i64 s.call.off, .int .i64 s.call.len, .int .i64 s.call.snap, .slice s.A s.call.data.length s.c, .int .i64 s.fr, .int .i64 s.tt, .bool s.done, .int .i64 s.E, .slice s.rA s.rd.length s.rc, .int .i64 s.N, .int .i64 s.rx]
      have hH4 := (hH.reg (Nat.le_refl _)).below bn
      have bb4 := bb.thenB' bn
      have hw4 := Nat.le_trans hw3 bn.size
      have hl4 := hX4.lt
      generalize hw4e : w3.alloc (.cells #[.int .i64 s.cl, .int .i64 s.call.image, .int .i64 s.call.kind, .int .i64 s.call.off, .int .i64 s.call.len, .int .i64 s.call.snap, .slice s.A s.call.data.length s.c, .int .i64 s.fr, .int .i64 s.tt, .bool s.done, .int .i64 s.E, .slice s.rA s.rd.length s.rc, .int .i64 s.N, .int .i64 s.rx] 44) = w4 at *
      clear hw4e bn c0 c1' c2' c3' c4' c5' c6' c7' c8' c9' c10' c11' c12' c13' hH hL hR bb
      generalize w3.heap.size = gx at *
      have l2 : w4.cell? ⟨gx, 2, none⟩ = some (.int .i64 s.call.kind) := (hX4.cell 2).trans rfl
      have l10 : w4.cell? ⟨gx, 10, none⟩ = some (.int .i64 s.E) := (hX4.cell 10).trans rfl
      have l11 : w4.cell? ⟨gx, 11, none⟩ = some (.slice s.rA s.rd.length s.rc) := (hX4.cell 11).trans rfl
      have hvr4 : ∀ b, (Value.slice (some ad2) R.length c2).ownBlock = some b → b < w4.heap.size := fun b hb => (OwnC.lt hH4.ow b hb).2
      have hvc4 : ∀ b, (Value.slice A1 L.length c1).ownBlock = some b → b < w4.heap.size := fun b hb => (OwnC.lt hH4.oc b hb).2
      have hs4 := hH4.ar s (List.mem_of_getElem? HSR.out)
      have hrm : s.rd.length ≤ 512 := by rw [HRK.out]; exact recK_rd _ _ _
      by_cases hE0 : s.E = 0
      rotate_left
      focus
        have heb : (s.E != 0) = true := by simp [hE0]
        clear hE0
        go_wp2_with fail
        go_ret
        exact ⟨rfl, bb4⟩
      have heb : (s.E != 0) = false := by simp [hE0]
      have HE0 := Lib.hid hE0
      clear hE0
      by_cases hk0 : s.call.kind = 0
      · have hkb : (s.call.kind == 0) = true := by simp [hk0]
        have HK0 : Hid (xm.kind = 0) := Lib.hid (by rw [← HKK.out]; exact hk0)
        clear hk0
        by_cases hl0 : s.rd.length = 0
        focus
          have hlb : ((s.rd.length : Int) == 0) = true := by simp [hl0]
          clear hl0
          go_wp2_with fail
          go_ret
          exact ⟨rfl, bb4⟩
        have hlb : ((s.rd.length : Int) == 0) = false := by simp only [beq_eq_false_iff_ne, ne_eq]; omega
        go_upto_region 21 with first
          | (with_reducible show wpList _ _ _ _ _ _
             refine wpList_appB rfl (.tmp 70) (.tmp 73) rfl w4.heap.size (.slice none 0 0) [] rfl OwnB.nil _ s.rA s.rd.length s.rc s.rd rfl rfl hs4.2.1 (by unfold big; rw [List.length_nil]; omega) (Nat.le_refl _) ?_
             intro vb w5 ob xb)
        have b5 : Below w4.heap.size w4 w5 := xb.below (OwnB.nil (base := w4.heap.size)) (Nat.le_refl _) (Nat.le_refl _)
        have ob : OwnB w5 w4.heap.size vb s.rd := ob
        obtain ⟨Ab, nb, cb, rfl, HNB, _, hcb⟩ := OwnB.form' ob
        have hH5 := hH4.below b5
        have bb5 := bb4.thenB' b5
        have hw5 := Nat.le_trans hw4 b5.size
        obtain ⟨q, hqq⟩ : ∃ q, q = j % nb := ⟨_, rfl⟩
        have hnb0 : 0 < nb := by rw [HNB.out]; omega
        have hqn : q < nb := by rw [hqq]; exact Nat.mod_lt _ hnb0
        have hq1 : (j : Int).tmod (nb : Int) = (q : Int) := by rw [hqq]; rfl
        have hq2 : (j : Int) % (nb : Int) = (q : Int) := by rw [hqq]; rfl
        have hn0' : (nb : Int) ≠ 0 := by omega
        have hn0b' : ((nb : Int) == 0) = false := by simp only [beq_eq_false_iff_ne, ne_eq]; omega
        have hqI : (q : Int) < (nb : Int) := by omega
        have hqd : q < s.rd.length := by rw [← HNB.out]; exact hqn
        clear hqq l2 l10 l11 hX4 hs4 xb
        go_wp2_with fail
        refine r_start (R := RT) (by rfl) (n := 17) (L := #[false, false, false, false, false, false, false, false, false, false, false, false, false, false, false, false, false]) rfl rfl ?_
        have bd : Below w5.heap.size w5 w5.drew := (Below.refl _ _).drew
        have ob6 := OwnB.below ob bd
        have hH6 := hH5.below bd
        have bb6 := bb5.thenB' bd
        have hw6 := Nat.le_trans hw5 bd.size
        have n6 := b5.thenB bd b5.size
        generalize w5.drew = w6 at *
        clear bd hH5 bb5 ob
        obtain ⟨gb, hgA, hgb1, hgb2, hcell, hfr, hst⟩ := (RowB.of_own ob6).store hqd
        subst hgA
        have e8 : bits .xor .u8 (s.rd[q].toNat : Int) 1 = ((s.rd[q] ^^^ 1).toNat : Int) := xor8P _ 1
        have HNE : Hid (s.rd.set q (s.rd[q] ^^^ 1) ≠ s.rd) := Lib.hid (set_other hqd (xor1_ne _))
        have hst := hst (s.rd[q] ^^^ 1)
        have HL2 : Hid ((s.rd.set q (s.rd[q] ^^^ 1)).length = s.rd.length) := Lib.hid (List.length_set ..)
        have hwq : IntKind.i64.wrap (q : Int) = (q : Int) := by rw [IntKind.wrap_i64]; omega
        have hnbN : ¬ nb = 0 := by omega
        generalize s.rd.set q (s.rd[q] ^^^ 1) = d2 at *
        generalize s.rd[q] ^^^ 1 = y at *
        generalize s.rd[q] = z at *
        have m7 : Mod (· = gb) w6 (w6.setCell ⟨gb, q, none⟩ (.int .u8 (y.toNat : Int))) := (Mod.refl (· = gb) w6).setG q _
        refine r_flt RT_refl 0 75 #[true, false, false, false, false, false, false, false, false, false, false, false, false, false, false, false, false] (by simp only [List.getElem?_toArray, List.getElem?_cons_zero]; rfl) (by rfl) (by kernel_rfl) (by kernel_rfl) (by kernel_rfl) (fun _ _ _ _ h => h) rfl (by rfl) ?_
        apply Exists.intro
        apply And.intro
        · intro W hW
          first | (go_simp; with_reducible rfl) | go_simp
        (try simp only [Act.put, List.setIfInBounds_toArray]); (try simp only [List.set_cons_succ]); (try simp only [List.set_cons_zero])
        refine r_flt RT_refl 1 76 #[true, true, false, false, false, false, false, false, false, false, false, false, false, false, false, false, false] (by simp only [List.getElem?_toArray, List.getElem?_cons_succ, List.getElem?_cons_zero]; rfl) (by rfl) (by kernel_rfl) (by kernel_rfl) (by kernel_rfl) (fun _ _ _ _ h => h) rfl (by rfl) ?_
        apply Exists.intro
        apply And.intro
        · intro W hW
          first | (go_simp; with_reducible rfl) | go_simp
        (try simp only [Act.put, List.setIfInBounds_toArray]); (try simp only [List.set_cons_succ]); (try simp only [List.set_cons_zero])
        refine r_flt RT_refl 2 77 #[true, true, true, false, false, false, false, false, false, false, false, false, false, false, false, false, false] (by simp only [List.getElem?_toArray, List.getElem?_cons_succ, List.getElem?_cons_zero]; rfl) (by rfl) (by kernel_rfl) (by kernel_rfl) (by kernel_rfl) (fun _ _ _ _ h => h) rfl (by rfl) ?_
        apply Exists.intro
        apply And.intro
        · intro W hW
          first | (go_simp; with_reducible rfl) | go_simp
        (try simp only [Act.put, List.setIfInBounds_toArray]); (try simp only [List.set_cons_succ]); (try simp only [List.set_cons_zero])
        refine r_flt RT_refl 3 78 #[true, true, true, true, false, false, false, false, false, false, false, false, false, false, false, false, false] (by simp only [List.getElem?_toArray, List.getElem?_cons_succ, List.getElem?_cons_zero]; rfl) (by rfl) (by kernel_rfl) (by kernel_rfl) (by kernel_rfl) (fun _ _ _ _ h => h) rfl (by rfl) ?_
        apply Exists.intro
        apply And.intro
        · intro W hW
          first | (go_simp; with_reducible rfl) | go_simp
        (try simp only [Act.put, List.setIfInBounds_toArray]); (try simp only [List.set_cons_succ]); (try simp only [List.set_cons_zero])
        refine r_flt RT_refl 4 79 #[true, true, true, true, true, false, false, false, false, false, false, false, false, false, false, false, false] (by simp only [List.getElem?_toArray, List.getElem?_cons_succ, List.getElem?_cons_zero]; rfl) (by rfl) (by kernel_rfl) (by kernel_rfl) (by kernel_rfl) (fun _ _ _ _ h => h) rfl (by rfl) ?_
        apply Exists.intro
        apply And.intro
        · intro W hW
          first | (go_simp; with_reducible rfl) | go_simp
        (try simp only [Act.put, List.setIfInBounds_toArray]); (try simp only [List.set_cons_succ]); (try simp only [List.set_cons_zero])
        refine r_flt RT_refl 5 80 #[true, true, true, true, true, true, false, false, false, false, false, false, false, false, false, false, false] (by simp only [List.getElem?_toArray, List.getElem?_cons_succ, List.getElem?_cons_zero]; rfl) (by rfl) (by kernel_rfl) (by kernel_rfl) (by kernel_rfl) (fun _ _ _ _ h => h) rfl (by rfl) ?_
        apply Exists.intro
        apply And.intro
        · intro W hW
          first | (go_simp; with_reducible rfl) | go_simp
        (try simp only [Act.put, List.setIfInBounds_toArray]); (try simp only [List.set_cons_succ]); (try simp only [List.set_cons_zero])
        refine r_flt RT_refl 6 81 #[true, true, true, true, true, true, true, false, false, false, false, false, false, false, false, false, false] (by simp only [List.getElem?_toArray, List.getElem?_cons_succ, List.getElem?_cons_zero]; rfl) (by rfl) (by kernel_rfl) (by kernel_rfl) (by kernel_rfl) (fun _ _ _ _ h => h) rfl (by rfl) ?_
        apply Exists.intro
        apply And.intro
        · intro W hW
          first | (go_simp; with_reducible rfl) | go_simp
        (try simp only [Act.put, List.setIfInBounds_toArray]); (try simp only [List.set_cons_succ]); (try simp only [List.set_cons_zero])
        refine r_flt RT_refl 7 82 #[true, true, true, true, true, true, true, true, false, false, false, false, false, false, false, false, false] (by simp only [List.getElem?_toArray, List.getElem?_cons_succ, List.getElem?_cons_zero]; rfl) (by rfl) (by kernel_rfl) (by kernel_rfl) (by kernel_rfl) (fun _ _ _ _ h => h) rfl (by rfl) ?_
        apply Exists.intro
        apply And.intro
        · intro W hW
          first | (go_simp; with_reducible rfl) | go_simp
        (try simp only [Act.put, List.setIfInBounds_toArray]); (try simp only [List.set_cons_succ]); (try simp only [List.set_cons_zero])
        refine r_flt RT_refl 8 83 #[true, true, true, true, true, true, true, true, true, false, false, false, false, false, false, false, false] (by simp only [List.getElem?_toArray, List.getElem?_cons_succ, List.getElem?_cons_zero]; rfl) (by rfl) (by kernel_rfl) (by kernel_rfl) (by kernel_rfl) (fun _ _ _ _ h => h) rfl (by rfl) ?_
        apply Exists.intro
        apply And.intro
        · intro W hW
          first | (go_simp; with_reducible rfl) | go_simp
        (try simp only [Act.put, List.setIfInBounds_toArray]); (try simp only [List.set_cons_succ]); (try simp only [List.set_cons_zero])
        refine r_flt RT_refl 9 84 #[true, true, true, true, true, true, true, true, true, true, false, false, false, false, false, false, false] (by simp only [List.getElem?_toArray, List.getElem?_cons_succ, List.getElem?_cons_zero]; rfl) (by rfl) (by kernel_rfl) (by kernel_rfl) (by kernel_rfl) (fun _ _ _ _ h => h) rfl (by rfl) ?_
        apply Exists.intro
        apply And.intro
        · intro W hW
          first | (go_simp; with_reducible rfl) | go_simp
        (try simp only [Act.put, List.setIfInBounds_toArray]); (try simp only [List.set_cons_succ]); (try simp only [List.set_cons_zero])
        refine r_flt RT_refl 10 85 #[true, true, true, true, true, true, true, true, true, true, true, false, false, false, false, false, false] (by simp only [List.getElem?_toArray, List.getElem?_cons_succ, List.getElem?_cons_zero]; rfl) (by rfl) (by kernel_rfl) (by kernel_rfl) (by kernel_rfl) (fun _ _ _ _ h => h) rfl (by rfl) ?_
        apply Exists.intro
        apply And.intro
        · intro W hW
          first | (go_simp; with_reducible rfl) | go_simp
        (try simp only [Act.put, List.setIfInBounds_toArray]); (try simp only [List.set_cons_succ]); (try simp only [List.set_cons_zero])
        refine r_flt RT_refl 11 86 #[true, true, true, true, true, true, true, true, true, true, true, true, false, false, false, false, false] (by simp only [List.getElem?_toArray, List.getElem?_cons_succ, List.getElem?_cons_zero]; rfl) (by rfl) (by kernel_rfl) (by kernel_rfl) (by kernel_rfl) (fun _ _ _ _ h => h) rfl (by rfl) ?_
        apply Exists.intro
        apply And.intro
        · intro W hW
          first | (go_simp; with_reducible rfl) | go_simp
        (try simp only [Act.put, List.setIfInBounds_toArray]); (try simp only [List.set_cons_succ]); (try simp only [List.set_cons_zero])
        refine r_flt RT_refl 12 87 #[true, true, true, true, true, true, true, true, true, true, true, true, true, false, false, false, false] (by simp only [List.getElem?_toArray, List.getElem?_cons_succ, List.getElem?_cons_zero]; rfl) (by rfl) (by kernel_rfl) (by kernel_rfl) (by kernel_rfl) (fun _ _ _ _ h => h) rfl (by rfl) ?_
        apply Exists.intro
        apply And.intro
        · intro W hW
          first | (go_simp; with_reducible rfl) | go_simp
        (try simp only [Act.put, List.setIfInBounds_toArray]); (try simp only [List.set_cons_succ]); (try simp only [List.set_cons_zero])
        refine r_one RT_trans 13 (by kernel_rfl) ?_
        refine alt_val 88 #[true, true, true, true, true, true, true, true, true, true, true, true, true, true, false, false, false] (by simp only [List.getElem?_toArray, List.getElem?_cons_succ, List.getElem?_cons_zero]; rfl) (by rfl) rfl (by rfl) (by go_simp; first | exact ⟨rfl, rfl⟩ | rfl) ?_ ?_
        · exact trivial
        (try simp only [Act.put, List.setIfInBounds_toArray]); (try simp only [List.set_cons_succ]); (try simp only [List.set_cons_zero])
        refine r_flt RT_refl 14 89 #[true, true, true, true, true, true, true, true, true, true, true, true, true, true, true, false, false] (by simp only [List.getElem?_toArray, List.getElem?_cons_succ, List.getElem?_cons_zero]; rfl) (by rfl) (by kernel_rfl) (by kernel_rfl) (by kernel_rfl) (fun _ _ _ _ h => h) rfl (by rfl) ?_
        apply Exists.intro
        apply And.intro
        · intro W hW
          first | (go_simp; with_reducible rfl) | go_simp
        (try simp only [Act.put, List.setIfInBounds_toArray]); (try simp only [List.set_cons_succ]); (try simp only [List.set_cons_zero])
        refine r_flt RT_refl 15 90 #[true, true, true, true, true, true, true, true, true, true, true, true, true, true, true, true, false] (by simp only [List.getElem?_toArray, List.getElem?_cons_succ, List.getElem?_cons_zero]; rfl) (by rfl) (by kernel_rfl) (by kernel_rfl) (by kernel_rfl) (fun _ _ _ _ h => h) rfl (by rfl) ?_
        apply Exists.intro
        apply And.intro
        · intro W hW
          first | (go_simp; with_reducible rfl) | go_simp
        (try simp only [Act.put, List.setIfInBounds_toArray]); (try simp only [List.set_cons_succ]); (try simp only [List.set_cons_zero])
        refine r_one RT_trans 16 (by kernel_rfl) ?_
        refine alt_none #[true, true, true, true, true, true, true, true, true, true, true, true, true, true, true, true, true] (by simp only [List.getElem?_toArray, List.getElem?_cons_succ, List.getElem?_cons_zero]; rfl) (by rfl) rfl (by rfl) (by go_simp; first | exact ⟨rfl, rfl⟩ | rfl) ?_ ?_
        · exact trivial
        (try simp only [Act.put, List.setIfInBounds_toArray]); (try simp only [List.set_cons_succ]); (try simp only [List.set_cons_zero])
        refine r_done (by kernel_rfl) ?_
        generalize w6.setCell ⟨gb, q, none⟩ (.int .u8 (y.toNat : Int)) = w7 at *
        clear e8 hq1 hq2 hcell hfr hwq
        have n7 := n6.thenM m7 n6.size (fun b hb e => by omega)
        have hH7 := hH4.below n7
        have bb7 := bb4.thenB' n7
        have hD2 : d2.length = nb := by rw [HL2.out, HNB.out]
        have HCS : Hid (rcC (⟨s.cl, s.call, s.A, s.c, s.fr, s.tt, s.done, s.E, (some ⟨gb, 0, none⟩), d2, cb, s.N, s.rx⟩ : RcV) = (rcC s).take 11 ++ [.slice (some ⟨gb, 0, none⟩) nb cb] ++ (rcC s).drop (11 + 1)) := Lib.hid (by unfold rcC; rw [hD2]; rfl)
        have hcb' : cb ≤ 9223372036854775807 := by unfold maxLen at hcb; omega
        have hncb : d2.length ≤ cb := by rw [hD2]; omega
        have hs7 : RcR w7 (Off3 gx (.slice A1 L.length c1) (.slice (some ad2) R.length c2)) (⟨s.cl, s.call, s.A, s.c, s.fr, s.tt, s.done, s.E, (some ⟨gb, 0, none⟩), d2, cb, s.N, s.rx⟩ : RcV) := ⟨(hH7.ar s (List.mem_of_getElem? HSR.out)).1, Rd.imp hst.rd (fun b _ hb => ⟨by omega, fun e => by have := hvc4 b e; omega, fun e => by have := hvr4 b e; omega⟩) (by decide), hncb, hcb'⟩
        clear hD2 hncb hn0' hn0b' hqI n6 hH6 bb6 ob6 m7
        go_wp2_with first
          | (with_reducible show wpList _ _ _ _ _ _
             refine wpList_updC1 rfl 23 (.tmp 96) _ rfl infoSb1 rcC_len hH7.ow HSR.out 11 (.slice (some ⟨gb, 0, none⟩) nb cb) (⟨s.cl, s.call, s.A, s.c, s.fr, s.tt, s.done, s.E, (some ⟨gb, 0, none⟩), d2, cb, s.N, s.rx⟩ : RcV) (by decide) HCS.out ad2 rfl rfl rfl rfl ?_
             intro w8 o8 m8
             have hH8 := hH7.setR o8 m8 hs7
             have bb8 := bb7.thenM m8 bb7.size (fun b hb e => by have := (OwnC.lt hH7.ow b e).1; omega))
        refine (layout_any _).mono ?_
        rintro e w9 ⟨rfl, b9⟩
        have HN8 : Hid (R.length = (R.set k (⟨s.cl, s.call, s.A, s.c, s.fr, s.tt, s.done, s.E, (some ⟨gb, 0, none⟩), d2, cb, s.N, s.rx⟩ : RcV)).length) := Lib.hid (by rw [List.length_set])
        have hr := right_of2 (size := a0) ((own_cms hH8.oc rfl hH8.al).below b9) ((own_rcs hH8.ow HN8.out hH8.ar).below b9) rfl HN8.out (ht.below (bb8.thenB' b9)) HEL.out (show prs (R.set k (⟨s.cl, s.call, s.A, s.c, s.fr, s.tt, s.done, s.E, (some ⟨gb, 0, none⟩), d2, cb, s.N, s.rx⟩ : RcV)) = (rsK (newP a0) (X.map CaV.x) X.length).set k { recK k (stK (newP a0) (X.map CaV.x) k) xm with N := s.N, rd := d2 } by rw [prs_set, HER.out]; exact congrArg (fun r => (rsK (newP a0) (X.map CaV.x) X.length).set k r) (show (⟨s.cl, s.call, s.A, s.c, s.fr, s.tt, s.done, s.E, (some ⟨gb, 0, none⟩), d2, cb, s.N, s.rx⟩ : RcV).p = _ by rw [← HSP.out]; rfl)) false (right_turned (map_le X) (by omega) HKX.out HXM.out (by rw [← HEK.out]; exact HE0.out) s.N d2 (.inl ⟨HK0.out, by rw [← HRK.out]; exact HNE.out⟩)) (set_bd (rsK_bd (map_le X) HX.out) (by have h := HSB.out; rw [HSP.out] at h; exact h)) (csK_bd (map_le X) HX.out) (by rw [List.length_set, rsK_len _ (map_le X)]; omega)
        go_wp2_with fail
        refine hr.mono ?_
        clear hr
        rintro e w10 ⟨rfl, b10⟩
        go_wp2_with fail
        go_ret
        exact ⟨rfl, (bb8.thenB' b9).thenB' b10⟩
      · have hkb : (s.call.kind == 0) = false := by simp [hk0]
        have HK0 : Hid (xm.kind ≠ 0) := Lib.hid (by rw [← HKK.out]; exact hk0)
        clear hk0 l11 hs4
        generalize wr.heap.size = base at *
        have HHE : Hid ((recK k (stK (newP a0) (X.map CaV.x) k) xm).E = 0) := Lib.hid (by rw [← HEK.out]; exact HE0.out)
        go_wp2_with fail
        go_loopw [14, 15] (fun s14 s15 wl => ∃ (q : Nat) (vl : Value) (Ll : List CmV), vl = s14 ∧ s15 = .int .i64 (q : Int) ∧ q ≤ L.length ∧ OwnCm wl w4.heap.size vl Ll ∧ Hid (∀ e ∈ Ll, e ∈ L ∧ e.ix ≠ s.rx) ∧ Ll.length ≤ q ∧ Below w4.heap.size w4 wl) (fun _ s15 _ => L.length - (intOf s15).toNat)
        case atStart => exact ⟨0, _, [], rfl, rfl, Nat.zero_le _, OwnC.nil, Lib.hid (fun e he => absurd he (by simp)), Nat.le_refl _, Below.refl _ _⟩
        case round =>
          obtain ⟨q, vl, Ll, rfl, rfl, hq, oL, HML, hLl, bq⟩ := hrel
          have hlL : L.length ≤ 15 := by rw [← pcs_len, HEL.out]; have := csK_len (m := newP a0) (xs := X.map CaV.x) X.length; omega
          by_cases hql : q < L.length
          · obtain ⟨ad1, hA1, -⟩ := (own_cms hH4.oc rfl hH4.al).at_ hql
            subst hA1
            obtain ⟨e, he⟩ : ∃ e, L[q] = e := ⟨_, rfl⟩
            have hem : e ∈ L := by rw [← he]; exact List.getElem_mem hql
            have HD0 : ∀ V, Below w4.heap.size w4 V → _ := fun V hV => ((own_cms hH4.oc rfl hH4.al).below hV).at2 hql
            have HD := Lib.hid HD0
            clear HD0
            have HEQ := Lib.hid he
            have hqI : (q : Int) < (L.length : Int) := by omega
            clear he l2 l10
            go_wp2_with fail
            refine r_start (R := RB) (by rfl) (n := 9) (L := #[false, false, false, false, false, false, false, false, false]) rfl rfl ?_
            have bd : Below wr.heap.size wr wr.drew := (Below.refl _ _).drew
            have oL := OwnC.below oL bd
            have bw := bq.thenB bd bq.size
            clear bd
            generalize wr.drew = wd at *
            have HDW := Lib.hid fun (V : World) (hV : Below wd.heap.size wd V) => HD.out V (bw.thenB hV bw.size)
            have HXW := Lib.hid fun (V : World) (hV : Below wd.heap.size wd V) => hX4.below (bw.thenB hV bw.size)
            refine r_flt RB_refl 0 109 #[true, false, false, false, false, false, false, false, false] (by simp only [List.getElem?_toArray, List.getElem?_cons_zero]; rfl) (by rfl) (by kernel_rfl) (by kernel_rfl) (by kernel_rfl) (fun _ _ _ _ h => h) rfl (by rfl) ?_
            apply Exists.intro
            apply And.intro
            · intro W hW
              first | (go_simp; with_reducible rfl) | go_simp
            (try simp only [Act.put, List.setIfInBounds_toArray]); (try simp only [List.set_cons_succ]); (try simp only [List.set_cons_zero])
            refine r_flt RB_refl 1 110 #[true, true, false, false, false, false, false, false, false] (by simp only [List.getElem?_toArray, List.getElem?_cons_succ, List.getElem?_cons_zero]; rfl) (by rfl) (by kernel_rfl) (by kernel_rfl) (by kernel_rfl) (fun _ _ _ _ h => h) rfl (by rfl) ?_
            apply Exists.intro
            apply And.intro
            · intro W hW
              first | (go_simp; with_reducible rfl) | go_simp
            (try simp only [Act.put, List.setIfInBounds_toArray]); (try simp only [List.set_cons_succ]); (try simp only [List.set_cons_zero])
            refine r_flt RB_refl 2 111 #[true, true, true, false, false, false, false, false, false] (by simp only [List.getElem?_toArray, List.getElem?_cons_succ, List.getElem?_cons_zero]; rfl) (by rfl) (by kernel_rfl) (by kernel_rfl) (by kernel_rfl) (fun _ _ _ _ h => h) rfl (by rfl) ?_
            apply Exists.intro
            apply And.intro
            · intro W hW
              first | (go_simp; with_reducible rfl) | go_simp
            (try simp only [Act.put, List.setIfInBounds_toArray]); (try simp only [List.set_cons_succ]); (try simp only [List.set_cons_zero])
            refine r_flt RB_refl 3 112 #[true, true, true, true, false, false, false, false, false] (by simp only [List.getElem?_toArray, List.getElem?_cons_succ, List.getElem?_cons_zero]; rfl) (by rfl) (by kernel_rfl) (by kernel_rfl) (by kernel_rfl) (fun _ _ _ _ h => h) rfl (by rfl) ?_
            apply Exists.intro
            apply And.intro
            · intro W hW
              first | (go_simp; with_reducible rfl) | go_simp
            (try simp only [Act.put, List.setIfInBounds_toArray]); (try simp only [List.set_cons_succ]); (try simp only [List.set_cons_zero])
            refine r_flt RB_refl 4 113 #[true, true, true, true, true, false, false, false, false] (by simp only [List.getElem?_toArray, List.getElem?_cons_succ, List.getElem?_cons_zero]; rfl) (by rfl) (by kernel_rfl) (by kernel_rfl) (by kernel_rfl) (fun _ _ _ _ h => h) rfl (by rfl) ?_
            apply Exists.intro
            apply And.intro
            · intro W hW
              obtain ⟨d0, -, -, -, -, -, -, -, -⟩ := HDW.out W hW
              rw [HEQ.out] at d0
              go_simp; rfl
            (try simp only [Act.put, List.setIfInBounds_toArray]); (try simp only [List.set_cons_succ]); (try simp only [List.set_cons_zero])
            refine r_flt RB_refl 5 114 #[true, true, true, true, true, true, false, false, false] (by simp only [List.getElem?_toArray, List.getElem?_cons_succ, List.getElem?_cons_zero]; rfl) (by rfl) (by kernel_rfl) (by kernel_rfl) (by kernel_rfl) (fun _ _ _ _ h => h) rfl (by rfl) ?_
            apply Exists.intro
            apply And.intro
            · intro W hW
              first | (go_simp; with_reducible rfl) | go_simp
            (try simp only [Act.put, List.setIfInBounds_toArray]); (try simp only [List.set_cons_succ]); (try simp only [List.set_cons_zero])
            refine r_flt RB_refl 6 115 #[true, true, true, true, true, true, true, false, false] (by simp only [List.getElem?_toArray, List.getElem?_cons_succ, List.getElem?_cons_zero]; rfl) (by rfl) (by kernel_rfl) (by kernel_rfl) (by kernel_rfl) (fun _ _ _ _ h => h) rfl (by rfl) ?_
            apply Exists.intro
            apply And.intro
            · intro W hW
              first | (go_simp; with_reducible rfl) | go_simp
            (try simp only [Act.put, List.setIfInBounds_toArray]); (try simp only [List.set_cons_succ]); (try simp only [List.set_cons_zero])
            refine r_flt RB_refl 7 116 #[true, true, true, true, true, true, true, true, false] (by simp only [List.getElem?_toArray, List.getElem?_cons_succ, List.getElem?_cons_zero]; rfl) (by rfl) (by kernel_rfl) (by kernel_rfl) (by kernel_rfl) (fun _ _ _ _ h => h) rfl (by rfl) ?_
            apply Exists.intro
            apply And.intro
            · intro W hW
              have k13 := (HXW.out W hW).cell 13
              simp at k13
              go_simp; rfl
            (try simp only [Act.put, List.setIfInBounds_toArray]); (try simp only [List.set_cons_succ]); (try simp only [List.set_cons_zero])
            refine r_flt RB_refl 8 117 #[true, true, true, true, true, true, true, true, true] (by simp only [List.getElem?_toArray, List.getElem?_cons_succ, List.getElem?_cons_zero]; rfl) (by rfl) (by kernel_rfl) (by kernel_rfl) (by kernel_rfl) (fun _ _ _ _ h => h) rfl (by rfl) ?_
            apply Exists.intro
            apply And.intro
            · intro W hW
              first | (go_simp; with_reducible rfl) | go_simp
            (try simp only [Act.put, List.setIfInBounds_toArray]); (try simp only [List.set_cons_succ]); (try simp only [List.set_cons_zero])
            refine r_done (by kernel_rfl) ?_
            by_cases hx : e.ix = s.rx
            · have hnb : (e.ix != s.rx) = false := by simp [hx]
              clear hx
              go_wp2_with fail
              go_roundw
              case rel => exact ⟨q + 1, vl, Ll, rfl, by go_num, by omega, oL, HML, by omega, bw⟩
              case measure => simp only [intOf]; omega
            · have hnb : (e.ix != s.rx) = true := by simp [hx]
              have HM2 : Hid (∀ e' ∈ Ll ++ [e], e' ∈ L ∧ e'.ix ≠ s.rx) := Lib.hid (fun e' he' => by
                rcases List.mem_append.1 he' with h | h
                · exact HML.out e' h
                · obtain rfl := List.mem_singleton.1 h; exact ⟨hem, hx⟩)
              clear hx
              obtain ⟨d0, d1, d2, d3, d4, d5, d6, d7, d8⟩ := HD.out wd bw
              rw [HEQ.out] at d0 d1 d2 d3 d4 d5 d6 d7 d8
              have hbs := bw.size
              go_wp2_with first
                | (with_reducible show wpList _ _ _ _ _ _
                   refine wpList_app1 rfl (.tmp 118) (.tmp 123) 27 rfl cmC_len cmC_one (by decide) _ 88 Tryd.underlying27 infoCm9 rfl (by decide) _ w4.heap.size vl Ll e rfl rfl rfl oL (by omega) hbs ?_
                   intro vl' w' ap)
              go_roundw
              case rel => exact ⟨q + 1, vl', Ll ++ [e], rfl, by go_num, by omega, ap.own, HM2, by rw [List.length_append, List.length_singleton]; omega, bw.thenM ap.mod bw.size fun b hb e => by have := (OwnC.lt oL b e).1; omega⟩
              case measure => simp only [intOf]; omega
          · obtain rfl : q = L.length := by omega
            obtain ⟨Al, nl, cl, rfl, HNl, _, _⟩ := OwnC.form' oL
            have bbq := bb4.thenB' bq
            have hHq := hH4.below bq
            have hlm := own_cms (D := fun _ => True) oL HNl.out fun e he => RdC.imp (hHq.al e (HML.out e he).1) fun _ _ _ => trivial
            go_wp2_with fail
            refine (layout_any _).mono ?_
            rintro e w5 ⟨rfl, b5⟩
            have hHr := hHq.below b5
            have HPC : Hid (∀ c ∈ pcs Ll, c ∈ csK (newP a0) (X.map CaV.x) X.length ∧ c.ix ≠ (recK k (stK (newP a0) (X.map CaV.x) k) xm).rx) := Lib.hid (fun c hc => by
              obtain ⟨e, he, rfl⟩ := List.mem_map.1 hc
              obtain ⟨h1, h2⟩ := HML.out e he
              exact ⟨by rw [← HEL.out]; exact List.mem_map.2 ⟨e, h1, rfl⟩, by rw [← HXK.out]; exact h2⟩)
            have hr := right_of2 (size := a0) (hlm.below b5) (own_rcs hHr.ow rfl hHr.ar) HNl.out rfl (ht.below (bbq.thenB' b5)) rfl HER.out false (right_less (map_le X) HKX.out HXM.out HK0.out HHE.out HPC.out) (rsK_bd (map_le X) HX.out) (fun c hc => csK_bd (map_le X) HX.out c (HPC.out c hc).1) (by rw [rsK_len _ (map_le X)]; omega)
            go_wp2_with fail
            refine hr.mono ?_
            clear hr hlm oL HML HPC hLl
            rintro e w6 ⟨rfl, b6⟩
            have bq6 := (bq.thenB b5 bq.size).thenB b6 (Nat.le_trans bq.size b5.size)
            clear bq bbq hHq hHr b5 b6
            go_wp2_with fail
            go_loopw [16, 17] (fun s16 s17 wl => ∃ (q : Nat) (vf : Value) (Lf : List RcV), vf = s16 ∧ s17 = .int .i64 (q : Int) ∧ q ≤ R.length ∧ OwnRc wl w4.heap.size vf Lf ∧ Hid (Lf = (R.take q).eraseIdx k) ∧ Below w4.heap.size w4 wl) (fun _ s17 _ => R.length - (intOf s17).toNat)
            case atStart => exact ⟨0, _, [], rfl, rfl, Nat.zero_le _, OwnC.nil, Lib.hid (by simp), bq6⟩
            case round =>
              clear bq6
              obtain ⟨q, vf, Lf, rfl, rfl, hq, oR, HLf, bq⟩ := hrel
              have hLf : Lf.length ≤ 15 := by rw [HLf.out]; have := List.length_eraseIdx_le (R.take q) k; have := List.length_take_le q R; omega
              by_cases hql : q < R.length
              · have hqI : (q : Int) < (R.length : Int) := by omega
                by_cases hqk : q = k
                · have hnb : ((q : Int) != (k : Int)) = false := by simp [hqk]
                  have HL2 : Hid (Lf = (R.take (q + 1)).eraseIdx k) := Lib.hid (by rw [HLf.out, hqk, er_eq R k hkn])
                  clear hqk HLf
                  go_wp2_with fail
                  go_roundw
                  case rel => exact ⟨q + 1, vf, Lf, rfl, by go_num, by omega, oR, HL2, bq⟩
                  case measure => simp only [intOf]; omega
                · have hnb : ((q : Int) != (k : Int)) = true := by simp; omega
                  obtain ⟨d0, d1, d2, d3, d4, d5, d6, d7, d8, d9, d10, d11, d12, d13⟩ := ((own_rcs hH4.ow rfl hH4.ar).below bq).at2 hql
                  have HL2 : Hid (Lf ++ [R[q]] = (R.take (q + 1)).eraseIdx k) := Lib.hid (by rw [HLf.out, er_ne R k q hql hqk])
                  generalize R[q] = e at *
                  have hbs := bq.size
                  clear hqk HLf
                  go_wp2_with first
                    | (with_reducible show wpList _ _ _ _ _ _
                       refine wpList_app1 rfl (.tmp 139) (.tmp 144) 28 rfl rcC_len rcC_one (by decide) _ 144 Tryd.underlying28 infoRc14 rfl (by decide) _ w4.heap.size vf Lf e rfl rfl rfl oR (by omega) hbs ?_
                       intro vf' w' ap)
                  go_roundw
                  case rel => exact ⟨q + 1, vf', _, rfl, by go_num, by omega, ap.own, HL2, bq.thenM ap.mod bq.size fun b hb e => by have := (OwnC.lt oR b e).1; omega⟩
                  case measure => simp only [intOf]; omega
              · obtain rfl : q = R.length := by omega
                have HLe : Hid (Lf = R.eraseIdx k) := Lib.hid (by rw [HLf.out, List.take_length])
                obtain ⟨Af, nf, cf, rfl, HNf, _, _⟩ := OwnC.form' oR
                have bbq := bb4.thenB' bq
                have hHq := hH4.below bq
                have hfm := own_rcs (D := fun _ => True) oR HNf.out fun e he => (hHq.ar e (List.mem_of_mem_eraseIdx (by rw [← HLe.out]; exact he))).imp fun _ _ _ => trivial
                go_wp2_with fail
                refine (layout_any _).mono ?_
                rintro e w7 ⟨rfl, b7⟩
                have hHr := hHq.below b7
                have HPF : Hid (prs Lf = (rsK (newP a0) (X.map CaV.x) X.length).eraseIdx k) := Lib.hid (by rw [HLe.out, prs_erase, HER.out])
                have hr := right_of2 (size := a0) (own_cms hHr.oc rfl hHr.al) (hfm.below b7) rfl HNf.out (ht.below (bbq.thenB' b7)) HEL.out HPF.out false (right_fewer (map_le X) HKX.out HXM.out HK0.out HHE.out) (fun r hr => rsK_bd (map_le X) HX.out r (List.mem_of_mem_eraseIdx hr)) (csK_bd (map_le X) HX.out) (by have := List.length_eraseIdx_le (rsK (newP a0) (X.map CaV.x) X.length) k; rw [rsK_len _ (map_le X)] at this; omega)
                go_wp2_with fail
                refine hr.mono ?_
                clear hr hfm oR HLe HPF hLf HLf
                rintro e w8 ⟨rfl, b8⟩
                have b48 := (bq.thenB b7 bq.size).thenB b8 (Nat.le_trans bq.size b7.size)
                have hH8 := hH4.below b48
                have bb8 := bb4.thenB' b48
                have l12 : w8.cell? ⟨gx, 12, none⟩ = some (.int .i64 s.N) := ((hX4.below b48).cell 12).trans rfl
                have hs8 := hH8.ar s (List.mem_of_getElem? HSR.out)
                clear bq bbq hHq hHr b7 b8
                go_upto_region 41 with first
                  | (with_reducible show wpList _ _ _ _ _ _
                     refine wpList_updC1 rfl 3 (.tmp 159) (.tmp 156) rfl infoN1 rcC_len hH8.ow HSR.out 12 (.int .i64 (wrap64 (s.N + 1))) (⟨s.cl, s.call, s.A, s.c, s.fr, s.tt, s.done, s.E, s.rA, s.rd, s.rc, wrap64 (s.N + 1), s.rx⟩ : RcV) (by decide) rfl ad2 rfl rfl rfl rfl ?_
                     intro w9 o9 m9
                     have hH9 := hH8.setR o9 m9 (show RcR w8 (Off3 gx (.slice A1 L.length c1) (.slice (some ad2) R.length c2)) (⟨s.cl, s.call, s.A, s.c, s.fr, s.tt, s.done, s.E, s.rA, s.rd, s.rc, wrap64 (s.N + 1), s.rx⟩ : RcV) from hs8)
                     have bb9 := bb8.thenM m9 bb8.size (fun b hb e => by have := (OwnC.lt hH8.ow b e).1; omega))
                have HN9 : Hid (R.length = (R.set k (⟨s.cl, s.call, s.A, s.c, s.fr, s.tt, s.done, s.E, s.rA, s.rd, s.rc, wrap64 (s.N + 1), s.rx⟩ : RcV)).length) := Lib.hid (by rw [List.length_set])
                go_wp2_with fail
                refine (layout_any _).mono ?_
                rintro e wA ⟨rfl, bA⟩
                have hr := right_of2 (size := a0) ((own_cms hH9.oc rfl hH9.al).below bA) ((own_rcs hH9.ow HN9.out hH9.ar).below bA) rfl HN9.out (ht.below (bb9.thenB' bA)) HEL.out (show prs (R.set k (⟨s.cl, s.call, s.A, s.c, s.fr, s.tt, s.done, s.E, s.rA, s.rd, s.rc, wrap64 (s.N + 1), s.rx⟩ : RcV)) = (rsK (newP a0) (X.map CaV.x) X.length).set k { recK k (stK (newP a0) (X.map CaV.x) k) xm with N := wrap64 (s.N + 1), rd := s.rd } by rw [prs_set, HER.out]; exact congrArg (fun r => (rsK (newP a0) (X.map CaV.x) X.length).set k r) (show (⟨s.cl, s.call, s.A, s.c, s.fr, s.tt, s.done, s.E, s.rA, s.rd, s.rc, wrap64 (s.N + 1), s.rx⟩ : RcV).p = _ by rw [← HSP.out]; rfl)) false (right_turned (map_le X) (by omega) HKX.out HXM.out HHE.out (wrap64 (s.N + 1)) s.rd (.inr ⟨HK0.out, by rw [← HNK.out]; exact wrap_ne _⟩)) (set_bd (rsK_bd (map_le X) HX.out) (by have h := HSB.out; rw [HSP.out] at h; exact h)) (csK_bd (map_le X) HX.out) (by rw [List.length_set, rsK_len _ (map_le X)]; omega)
                go_wp2_with fail
                refine hr.mono ?_
                clear hr
                rintro e wB ⟨rfl, bB⟩
                go_wp2_with fail
                go_ret
                exact ⟨rfl, (bb9.thenB' bA).thenB' bB⟩
end Go.Proofs.YthkeoimjjgmppaaDoor
