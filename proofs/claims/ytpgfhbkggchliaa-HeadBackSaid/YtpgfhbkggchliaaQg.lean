/- Parts of the proof, joined: ObjU. -/
import Derived.Test.YtpgfhbkggchliaaQf
/- The document's Unpack. -/
namespace Go.Proofs.Ytpgfhbkggchliaa
open Go.RowKit
set_option linter.unusedVariables false

def bitP (b : List UInt8) (j : Nat) : List Int := (List.range j).map (bitO b)
theorem bitP_succ (b : List UInt8) (j : Nat) : bitP b (j + 1) = bitP b j ++ [bitO b j] := by
  unfold bitP; rw [List.range_succ, List.map_append]; rfl
theorem bitP_len (b : List UInt8) (j : Nat) : (bitP b j).length = j := by simp [bitP]
theorem OwnB.form' {w : World} {base : Nat} {v : Value} {bs : List UInt8} (h : OwnB w base v bs) : ∃ A n c, v = .slice A n c ∧ Hid (n = bs.length) ∧ n ≤ c ∧ c ≤ maxLen := by
  obtain ⟨A, c, rfl, h1, h2⟩ := h.form
  exact ⟨A, _, c, rfl, Lib.hid rfl, h1, h2⟩
theorem str_beq (a b : List UInt8) : (str a == str b) = decide (a = b) := by
  have h : (str a == str b) = (a.toArray == b.toArray) := by
    show ByteArray.instBEq.beq (str a) (str b) = _
    rfl
  rw [h]
  by_cases e : a = b
  · subst e; simp
  · simp [e]

set_option maxHeartbeats 2000000 in
set_option maxRecDepth 100000 in
theorem rUnpack_any (D : Nat → Prop) (A : Option Addr) (c : Nat) (b : List UInt8) (w : World) (h : RdB w D A b) (hc : b.length ≤ c) (hm : c ≤ 9223372036854775807) (hl6 : b.length ≤ 1000000) :
    Calls Try.prog 76 #[.slice A b.length c] w fun e w' => ∃ v, e = .returned (.tuple #[v, .bool (unpO b).isSome]) ∧ OwnI w' w.heap.size v ((unpO b).getD []) ∧ Below w.heap.size w w' := by
  by_cases h2 : b.length < 2
  · have e : Hid (unpO b = none) := by unfold Hid unpO; rw [if_neg (by omega)]
    go_enter Try.func76, Try.ntmps76
    go_wp2_with fail
    go_ret2
    exact ⟨_, by rw [e.out] <;> rfl, by rw [e.out]; exact OwnI.nil, Below.refl _ _⟩
  · obtain ⟨ad, hA, _, p0⟩ := h.at_ (k := 0) (by omega)
    obtain ⟨ad', e0, _, p1⟩ := h.at_ (k := 1) (by omega)
    have HA := Lib.hid hA
    rw [hA] at e0
    injection e0 with e0
    subst e0
    rw [hA]
    rw [hA] at h
    clear hA
    have hn : Hid (lenO b = b[0].toNat * 256 + b[1].toNat) := by
      unfold Hid lenO
      rw [List.getD_eq_getElem?_getD, List.getElem?_eq_getElem (by omega : 0 < b.length), List.getD_eq_getElem?_getD, List.getElem?_eq_getElem (by omega : 1 < b.length)]; rfl
    have x1 := b[0].toNat_lt
    have y1 := b[1].toNat_lt
    generalize b[0].toNat = x at *
    generalize b[1].toNat = y at *
    obtain ⟨n, hnn⟩ : ∃ n, n = x * 256 + y := ⟨_, rfl⟩
    have hni : 256 * (x : Int) + (y : Int) = (n : Int) := by omega
    have hN : Hid (lenO b = n) := by unfold Hid; rw [hn.out, hnn]
    have hn6 : n ≤ 65535 := by omega
    have hwx : IntKind.i64.wrap (x : Int) = (x : Int) := by rw [IntKind.wrap_i64]; omega
    have hwy : IntKind.i64.wrap (y : Int) = (y : Int) := by rw [IntKind.wrap_i64]; omega
    have hwx2 : IntKind.i64.wrap (256 * (x : Int)) = 256 * (x : Int) := by rw [IntKind.wrap_i64]; omega
    have hwn : IntKind.i64.wrap (n : Int) = (n : Int) := by rw [IntKind.wrap_i64]; omega
    have hl0 : 0 < b.length := by omega
    have hl1 : 1 < b.length := by omega
    have hl0i : (0 : Int) < (b.length : Int) := by omega
    have hl1i : (1 : Int) < (b.length : Int) := by omega
    have p0' : w.cell? ad = some (.int .u8 (x : Int)) := p0
    have p1' : w.cell? ⟨ad.block, ad.off + 1, none⟩ = some (.int .u8 (y : Int)) := p1
    have hb2 : 2 ≤ b.length := by omega
    clear hnn hn x1 y1
    go_enter Try.func76, Try.ntmps76
    go_wp2_with fail
    go_quiet (fail)
    have b1 := below_drewN (Below.refl w.heap.size w) nq
    have h := h.below b1
    generalize w.drewN nq = w1 at *
    clear p0 p1 p0' p1'
    go_wp2_with fail
    have hsz := b1.size
    go_loopw [5, 6, 7, 8] (fun v i c7 c8 wr => ∃ j : Nat, j ≤ n ∧ j ≤ 4 * (b.length - 2) ∧ i = .int .i64 (j : Int) ∧ OwnI wr w1.heap.size v (bitP b j) ∧ Below w1.heap.size w1 wr) (fun _ i _ _ _ => n - (intOf i).toNat)
    case atStart => exact ⟨0, Nat.zero_le _, Nat.zero_le _, rfl, OwnI.nil, Below.refl _ _⟩
    case round =>
      obtain ⟨j, hj, hj4, rfl, hown, bb⟩ := hrel
      obtain ⟨q, hq⟩ : ∃ q, q = j / 4 := ⟨_, rfl⟩
      obtain ⟨r, hr⟩ : ∃ r, r = j % 4 := ⟨_, rfl⟩
      have hqi : (j : Int).tdiv 4 = (q : Int) := by rw [hq]; rfl
      have hqi2 : (j : Int) / 4 = (q : Int) := by rw [hq]; rfl
      have hri : (j : Int).tmod 4 = (r : Int) := by rw [hr]; rfl
      have hri2 : (j : Int) % 4 = (r : Int) := by rw [hr]; rfl
      have hr4 : r < 4 := by omega
      have hjl : j < 4 * (b.length - 2) ↔ 2 + q < b.length := by omega
      by_cases hlt : j < n
      · by_cases hlb : 2 + q < b.length
        · obtain ⟨ad', e0, _, hcell⟩ := (h.below (w' := wr) (Below.mono bb (Nat.le_refl _))).at_ hlb
          injection e0 with e0
          subst e0
          have HB : Hid (bitO b j = ((b[2 + q].toNat / 4 ^ r % 4 : Nat) : Int)) := by
            unfold Hid bitO
            rw [← hq, ← hr, List.getD_eq_getElem?_getD, List.getElem?_eq_getElem hlb]; rfl
          have hx := b[2 + q].toNat_lt
          generalize b[2 + q].toNat = z at *
          have hj1 : j + 1 ≤ 4 * (b.length - 2) := by have := hjl.2 hlb; omega
          have HS := Lib.hid (bitP_succ b j)
          have HL := Lib.hid (bitP_len b j)
          generalize bitP b j = xs at *
          have hwz : IntKind.i64.wrap (z : Int) = (z : Int) := by rw [IntKind.wrap_i64]; omega
          clear hjl hq hr
          go_wp2_with fail
          go_loopw [7, 8] (fun c7 k wr2 => ∃ t z' : Nat, Hid (z' = z / 4 ^ t) ∧ z' < 256 ∧ t ≤ r ∧ c7 = .int .i64 (z' : Int) ∧ k = .int .i64 (t : Int) ∧ wr = wr2) (fun _ k _ => r - (intOf k).toNat)
          case atStart => exact ⟨0, z, by unfold Hid; rw [Nat.pow_zero, Nat.div_one], hx, Nat.zero_le _, rfl, rfl, rfl⟩
          case round =>
            obtain ⟨t, z', HZ, hz', htr, rfl, rfl, rfl⟩ := hrel
            have hz4 : (z' : Int).tdiv 4 = ((z' / 4 : Nat) : Int) := rfl
            have hz42 : (z' : Int) / 4 = ((z' / 4 : Nat) : Int) := rfl
            have HZ4 : Hid (z' / 4 = z / 4 ^ (t + 1)) := by unfold Hid; rw [HZ.out, Nat.div_div_eq_div_mul, Nat.pow_succ]
            have hz4' : z' / 4 < 256 := by omega
            generalize z' / 4 = z4 at *
            by_cases ht : t < r
            · go_wp2_with fail
              go_roundw
              case rel => exact ⟨t + 1, z4, HZ4, hz4', by omega, rfl, by go_num, trivial⟩
              case measure => simp [intOf] <;> omega
            · obtain rfl : t = r := by omega
              have hm4 : (z' : Int).tmod 4 = ((z' % 4 : Nat) : Int) := rfl
              have hm42 : (z' : Int) % 4 = ((z' % 4 : Nat) : Int) := rfl
              have HM : Hid (bitO b j = ((z' % 4 : Nat) : Int)) := by unfold Hid; rw [HB.out, ← HZ.out]
              generalize z' % 4 = zm at *
              go_wp2_with (at_builtin; refine wpList_appI rfl (.tmp 50) (.tmp 53) rfl w1.heap.size _ xs rfl (OwnI.below hown (below_new _ _)) _ (some ⟨wr.heap.size, 0, none⟩) 1 1 [(zm : Int)] rfl rfl (rd_newI wr _) (by have := HL.out; unfold big; simp only [List.length_cons, List.length_nil]; omega) (Nat.le_trans bb.size (below_new wr _).size) ?_; intro v' w' h1 h2)
              have b2 := (bb.thenB' (below_new wr _)).trans (h2.below (OwnI.below hown (below_new wr _)) (Nat.le_refl _) (Nat.le_trans bb.size (below_new wr _).size))
              go_roundw
              case rel => exact ⟨j + 1, by omega, hj1, by go_num, by rw [HS.out, HM.out]; exact h1, b2⟩
              case measure => simp [intOf] <;> omega
        · have HJ : Hid (bitP b j = refU b) := by unfold Hid bitP refU; rw [hN.out, show min n (4 * (b.length - 2)) = j by omega]
          clear hjl hq hr
          obtain ⟨A2, c2, hv, hlc, hc2⟩ := hown.form
          subst hv
          have hlj : ∀ y, y = (bitP b j).length → y ≤ 65535 := fun y h => by rw [h, bitP_len]; omega
          have hy := HJ.out
          rw [hy] at hown hlc hlj ⊢
          clear hy HJ
          have HR := Lib.hid (unp_ref b hb2)
          have HL : Hid ((refU b).length ≤ 9223372036854775807) := by
            unfold Hid
            have := hlj _ rfl
            omega
          have hc2 : c2 ≤ 9223372036854775807 := hc2
          clear hlj
          generalize refU b = ys at *
          cases hmay : mayO ys
          · have e : Hid (unpO b = none) := by unfold Hid; rw [HR.out, hmay, if_neg (by simp)]
            have HM0 := hmay
            go_wp2_with fail
            refine r_start (R := RB) (by rfl) (n := 11) (L := #[false, false, false, false, false, false, false, false, false, false, false]) rfl rfl ?_
            have bd : Below wr.heap.size wr wr.drew := (Below.refl _ _).drew
            have h := (h.below (w' := wr) (Below.mono bb (Nat.le_refl _))).below bd
            have hown := OwnI.below hown bd
            have bb := bb.thenB' bd
            generalize wr.drew = wd1 at *
            clear bd
            have ro := hown.rd
            refine r_flt RB_refl 0 55 #[true, false, false, false, false, false, false, false, false, false, false] (by simp only [List.getElem?_toArray, List.getElem?_cons_zero]; rfl) (by rfl) (by kernel_rfl) (by kernel_rfl) (by kernel_rfl) (fun _ _ _ _ h => h) rfl (by rfl) ?_
            apply Exists.intro
            apply And.intro
            · intro W hW
              first | (go_simp; with_reducible rfl) | go_simp
            (try simp only [Act.put, List.setIfInBounds_toArray]); (try simp only [List.set_cons_succ]); (try simp only [List.set_cons_zero])
            refine r_one RB_trans 1 (by kernel_rfl) ?_
            refine alt_call 56 #[true, true, false, false, false, false, false, false, false, false, false] (by simp only [List.getElem?_toArray, List.getElem?_cons_succ, List.getElem?_cons_zero]; rfl) (by rfl) rfl (by rfl) (by go_simp; first | exact ⟨rfl, rfl⟩ | rfl) ?_
            have hM := may_ref _ A2 c2 ys _ ro HL.out
            rw [hmay] at hM
            with_reducible refine hM.mono ?_
            rintro e' w3 ⟨rfl, rfl⟩
            refine ⟨_, rfl, RB_refl _, ?_⟩
            (try simp only [Act.put, List.setIfInBounds_toArray]); (try simp only [List.set_cons_succ]); (try simp only [List.set_cons_zero])
            refine r_flt RB_refl 2 57 #[true, true, true, false, false, false, false, false, false, false, false] (by simp only [List.getElem?_toArray, List.getElem?_cons_succ, List.getElem?_cons_zero]; rfl) (by rfl) (by kernel_rfl) (by kernel_rfl) (by kernel_rfl) (fun _ _ _ _ h => h) rfl (by rfl) ?_
            apply Exists.intro
            apply And.intro
            · intro W hW
              first | (go_simp; with_reducible rfl) | go_simp
            (try simp only [Act.put, List.setIfInBounds_toArray]); (try simp only [List.set_cons_succ]); (try simp only [List.set_cons_zero])
            refine r_flt RB_refl 3 58 #[true, true, true, true, false, false, false, false, false, false, false] (by simp only [List.getElem?_toArray, List.getElem?_cons_succ, List.getElem?_cons_zero]; rfl) (by rfl) (by kernel_rfl) (by kernel_rfl) (by kernel_rfl) (fun _ _ _ _ h => h) rfl (by rfl) ?_
            apply Exists.intro
            apply And.intro
            · intro W hW
              first | (go_simp; with_reducible rfl) | go_simp
            (try simp only [Act.put, List.setIfInBounds_toArray]); (try simp only [List.set_cons_succ]); (try simp only [List.set_cons_zero])
            refine r_skip RB_refl 4 59 #[true, true, true, true, true, false, false, false, false, false, false] (by simp only [List.getElem?_toArray, List.getElem?_cons_succ, List.getElem?_cons_zero]; rfl) (by rfl) (by kernel_rfl) (by kernel_rfl) (by kernel_rfl) (fun _ _ _ _ h => h) rfl (by rfl) ?_
            (try simp only [Act.put, List.setIfInBounds_toArray]); (try simp only [List.set_cons_succ]); (try simp only [List.set_cons_zero])
            refine r_skip RB_refl 5 60 #[true, true, true, true, true, true, false, false, false, false, false] (by simp only [List.getElem?_toArray, List.getElem?_cons_succ, List.getElem?_cons_zero]; rfl) (by rfl) (by kernel_rfl) (by kernel_rfl) (by kernel_rfl) (fun _ _ _ _ h => h) rfl (by rfl) ?_
            (try simp only [Act.put, List.setIfInBounds_toArray]); (try simp only [List.set_cons_succ]); (try simp only [List.set_cons_zero])
            refine r_skip RB_refl 6 61 #[true, true, true, true, true, true, true, false, false, false, false] (by simp only [List.getElem?_toArray, List.getElem?_cons_succ, List.getElem?_cons_zero]; rfl) (by rfl) (by kernel_rfl) (by kernel_rfl) (by kernel_rfl) (fun _ _ _ _ h => h) rfl (by rfl) ?_
            (try simp only [Act.put, List.setIfInBounds_toArray]); (try simp only [List.set_cons_succ]); (try simp only [List.set_cons_zero])
            refine r_skip RB_refl 7 62 #[true, true, true, true, true, true, true, true, false, false, false] (by simp only [List.getElem?_toArray, List.getElem?_cons_succ, List.getElem?_cons_zero]; rfl) (by rfl) (by kernel_rfl) (by kernel_rfl) (by kernel_rfl) (fun _ _ _ _ h => h) rfl (by rfl) ?_
            (try simp only [Act.put, List.setIfInBounds_toArray]); (try simp only [List.set_cons_succ]); (try simp only [List.set_cons_zero])
            refine r_skip RB_refl 8 63 #[true, true, true, true, true, true, true, true, true, false, false] (by simp only [List.getElem?_toArray, List.getElem?_cons_succ, List.getElem?_cons_zero]; rfl) (by rfl) (by kernel_rfl) (by kernel_rfl) (by kernel_rfl) (fun _ _ _ _ h => h) rfl (by rfl) ?_
            (try simp only [Act.put, List.setIfInBounds_toArray]); (try simp only [List.set_cons_succ]); (try simp only [List.set_cons_zero])
            refine r_skip RB_refl 9 64 #[true, true, true, true, true, true, true, true, true, true, false] (by simp only [List.getElem?_toArray, List.getElem?_cons_succ, List.getElem?_cons_zero]; rfl) (by rfl) (by kernel_rfl) (by kernel_rfl) (by kernel_rfl) (fun _ _ _ _ h => h) rfl (by rfl) ?_
            (try simp only [Act.put, List.setIfInBounds_toArray]); (try simp only [List.set_cons_succ]); (try simp only [List.set_cons_zero])
            refine r_flt RB_refl 10 65 #[true, true, true, true, true, true, true, true, true, true, true] (by simp only [List.getElem?_toArray, List.getElem?_cons_succ, List.getElem?_cons_zero]; rfl) (by rfl) (by kernel_rfl) (by kernel_rfl) (by kernel_rfl) (fun _ _ _ _ h => h) rfl (by rfl) ?_
            apply Exists.intro
            apply And.intro
            · intro W hW
              first | (go_simp; with_reducible rfl) | go_simp
            (try simp only [Act.put, List.setIfInBounds_toArray]); (try simp only [List.set_cons_succ]); (try simp only [List.set_cons_zero])
            refine r_done (by kernel_rfl) ?_
            go_wp2_with fail
            go_ret2
            exact ⟨_, by rw [e.out] <;> rfl, by rw [e.out]; exact OwnI.nil, b1.thenB' bb⟩
          · by_cases hpk : packO ys = b
            case pos =>
              have e : Hid (unpO b = some ys) := by unfold Hid; rw [HR.out, hmay, if_pos ⟨rfl, hpk⟩]
              have hne : Hid ((str (packO ys) != str b) = false) := by unfold Hid bne; rw [str_beq, hpk]; simp
              have hne2 : Hid ((packO ys == b) = true) := by unfold Hid; rw [hpk]; simp
              have HM := Lib.hid hmay
              clear hmay hpk
              go_wp2_with fail
              refine r_start (R := RB) (by rfl) (n := 11) (L := #[false, false, false, false, false, false, false, false, false, false, false]) rfl rfl ?_
              have bd : Below wr.heap.size wr wr.drew := (Below.refl _ _).drew
              have h := (h.below (w' := wr) (Below.mono bb (Nat.le_refl _))).below bd
              have hown := OwnI.below hown bd
              have bb := bb.thenB' bd
              generalize wr.drew = wd1 at *
              clear bd
              have ro := hown.rd
              refine r_flt RB_refl 0 55 #[true, false, false, false, false, false, false, false, false, false, false] (by simp only [List.getElem?_toArray, List.getElem?_cons_zero]; rfl) (by rfl) (by kernel_rfl) (by kernel_rfl) (by kernel_rfl) (fun _ _ _ _ h => h) rfl (by rfl) ?_
              apply Exists.intro
              apply And.intro
              · intro W hW
                first | (go_simp; with_reducible rfl) | go_simp
              (try simp only [Act.put, List.setIfInBounds_toArray]); (try simp only [List.set_cons_succ]); (try simp only [List.set_cons_zero])
              refine r_one RB_trans 1 (by kernel_rfl) ?_
              refine alt_call 56 #[true, true, false, false, false, false, false, false, false, false, false] (by simp only [List.getElem?_toArray, List.getElem?_cons_succ, List.getElem?_cons_zero]; rfl) (by rfl) rfl (by rfl) (by go_simp; first | exact ⟨rfl, rfl⟩ | rfl) ?_
              have hM := may_ref _ A2 c2 ys _ ro HL.out
              rw [HM.out] at hM
              with_reducible refine hM.mono ?_
              rintro e' w3 ⟨rfl, rfl⟩
              refine ⟨_, rfl, RB_refl _, ?_⟩
              (try simp only [Act.put, List.setIfInBounds_toArray]); (try simp only [List.set_cons_succ]); (try simp only [List.set_cons_zero])
              refine r_flt RB_refl 2 57 #[true, true, true, false, false, false, false, false, false, false, false] (by simp only [List.getElem?_toArray, List.getElem?_cons_succ, List.getElem?_cons_zero]; rfl) (by rfl) (by kernel_rfl) (by kernel_rfl) (by kernel_rfl) (fun _ _ _ _ h => h) rfl (by rfl) ?_
              apply Exists.intro
              apply And.intro
              · intro W hW
                first | (go_simp; with_reducible rfl) | go_simp
              (try simp only [Act.put, List.setIfInBounds_toArray]); (try simp only [List.set_cons_succ]); (try simp only [List.set_cons_zero])
              refine r_flt RB_refl 3 58 #[true, true, true, true, false, false, false, false, false, false, false] (by simp only [List.getElem?_toArray, List.getElem?_cons_succ, List.getElem?_cons_zero]; rfl) (by rfl) (by kernel_rfl) (by kernel_rfl) (by kernel_rfl) (fun _ _ _ _ h => h) rfl (by rfl) ?_
              apply Exists.intro
              apply And.intro
              · intro W hW
                first | (go_simp; with_reducible rfl) | go_simp
              (try simp only [Act.put, List.setIfInBounds_toArray]); (try simp only [List.set_cons_succ]); (try simp only [List.set_cons_zero])
              refine r_flt RB_refl 4 59 #[true, true, true, true, true, false, false, false, false, false, false] (by simp only [List.getElem?_toArray, List.getElem?_cons_succ, List.getElem?_cons_zero]; rfl) (by rfl) (by kernel_rfl) (by kernel_rfl) (by kernel_rfl) (fun _ _ _ _ h => h) rfl (by rfl) ?_
              apply Exists.intro
              apply And.intro
              · intro W hW
                first | (go_simp; with_reducible rfl) | go_simp
              (try simp only [Act.put, List.setIfInBounds_toArray]); (try simp only [List.set_cons_succ]); (try simp only [List.set_cons_zero])
              refine r_flt RB_refl 7 62 #[true, true, true, true, true, false, false, true, false, false, false] (by simp only [List.getElem?_toArray, List.getElem?_cons_succ, List.getElem?_cons_zero]; rfl) (by rfl) (by kernel_rfl) (by kernel_rfl) (by kernel_rfl) (fun _ _ _ _ h => h) rfl (by rfl) ?_
              apply Exists.intro
              apply And.intro
              · intro W hW
                first | (go_simp; with_reducible rfl) | go_simp
              (try simp only [Act.put, List.setIfInBounds_toArray]); (try simp only [List.set_cons_succ]); (try simp only [List.set_cons_zero])
              refine r_flt RB_refl 8 63 #[true, true, true, true, true, false, false, true, true, false, false] (by simp only [List.getElem?_toArray, List.getElem?_cons_succ, List.getElem?_cons_zero]; rfl) (by rfl) (by kernel_rfl) (by kernel_rfl) (by kernel_rfl) (fun _ _ _ _ h => h) rfl (by rfl) ?_
              apply Exists.intro
              apply And.intro
              · intro W hW
                have s := str_rd (c := c) (h.below hW) rfl
                go_simp; rfl
              (try simp only [Act.put, List.setIfInBounds_toArray]); (try simp only [List.set_cons_succ]); (try simp only [List.set_cons_zero])
              refine r_one RB_trans 5 (by kernel_rfl) ?_
              refine alt_call 60 #[true, true, true, true, true, true, false, true, true, false, false] (by simp only [List.getElem?_toArray, List.getElem?_cons_succ, List.getElem?_cons_zero]; rfl) (by rfl) rfl (by rfl) (by go_simp; first | exact ⟨rfl, rfl⟩ | rfl) ?_
              with_reducible refine (rPack_any _ A2 c2 ys _ ro hlc hc2).mono ?_
              rintro e' w3 ⟨v3, rfl, o3, b3⟩
              obtain ⟨A3, n3, c3, rfl, e3, _, _⟩ := o3.form'
              refine ⟨_, rfl, b3, ?_⟩
              have h := h.below b3
              have hown := OwnI.below hown b3
              have bb := bb.thenB' b3
              (try simp only [Act.put, List.setIfInBounds_toArray]); (try simp only [List.set_cons_succ]); (try simp only [List.set_cons_zero])
              refine r_flt RB_refl 6 61 #[true, true, true, true, true, true, true, true, true, false, false] (by simp only [List.getElem?_toArray, List.getElem?_cons_succ, List.getElem?_cons_zero]; rfl) (by rfl) (by kernel_rfl) (by kernel_rfl) (by kernel_rfl) (fun _ _ _ _ h => h) rfl (by rfl) ?_
              apply Exists.intro
              apply And.intro
              · intro W hW
                have s := str_inB o3 e3.out hW
                go_simp; rfl
              (try simp only [Act.put, List.setIfInBounds_toArray]); (try simp only [List.set_cons_succ]); (try simp only [List.set_cons_zero])
              refine r_flt RB_refl 9 64 #[true, true, true, true, true, true, true, true, true, true, false] (by simp only [List.getElem?_toArray, List.getElem?_cons_succ, List.getElem?_cons_zero]; rfl) (by rfl) (by kernel_rfl) (by kernel_rfl) (by kernel_rfl) (fun _ _ _ _ h => h) rfl (by rfl) ?_
              apply Exists.intro
              apply And.intro
              · intro W hW
                have s := hne.out
                have s2 := hne2.out
                go_simp; rfl
              (try simp only [Act.put, List.setIfInBounds_toArray]); (try simp only [List.set_cons_succ]); (try simp only [List.set_cons_zero])
              refine r_flt RB_refl 10 65 #[true, true, true, true, true, true, true, true, true, true, true] (by simp only [List.getElem?_toArray, List.getElem?_cons_succ, List.getElem?_cons_zero]; rfl) (by rfl) (by kernel_rfl) (by kernel_rfl) (by kernel_rfl) (fun _ _ _ _ h => h) rfl (by rfl) ?_
              apply Exists.intro
              apply And.intro
              · intro W hW
                first | (go_simp; with_reducible rfl) | go_simp
              (try simp only [Act.put, List.setIfInBounds_toArray]); (try simp only [List.set_cons_succ]); (try simp only [List.set_cons_zero])
              refine r_done (by kernel_rfl) ?_
              go_wp2_with fail
              go_ret2
              exact ⟨_, by rw [e.out] <;> rfl, by rw [e.out]; exact hown.low hsz, b1.thenB' bb⟩
            case neg =>
              have e : Hid (unpO b = none) := by unfold Hid; rw [HR.out, hmay, if_neg (fun h => hpk h.2)]
              have hne : Hid ((str (packO ys) != str b) = true) := by unfold Hid bne; rw [str_beq]; simp [hpk]
              have hne2 : Hid ((packO ys == b) = false) := by unfold Hid; simp [hpk]
              have HM := Lib.hid hmay
              clear hmay hpk
              go_wp2_with fail
              refine r_start (R := RB) (by rfl) (n := 11) (L := #[false, false, false, false, false, false, false, false, false, false, false]) rfl rfl ?_
              have bd : Below wr.heap.size wr wr.drew := (Below.refl _ _).drew
              have h := (h.below (w' := wr) (Below.mono bb (Nat.le_refl _))).below bd
              have hown := OwnI.below hown bd
              have bb := bb.thenB' bd
              generalize wr.drew = wd1 at *
              clear bd
              have ro := hown.rd
              refine r_flt RB_refl 0 55 #[true, false, false, false, false, false, false, false, false, false, false] (by simp only [List.getElem?_toArray, List.getElem?_cons_zero]; rfl) (by rfl) (by kernel_rfl) (by kernel_rfl) (by kernel_rfl) (fun _ _ _ _ h => h) rfl (by rfl) ?_
              apply Exists.intro
              apply And.intro
              · intro W hW
                first | (go_simp; with_reducible rfl) | go_simp
              (try simp only [Act.put, List.setIfInBounds_toArray]); (try simp only [List.set_cons_succ]); (try simp only [List.set_cons_zero])
              refine r_one RB_trans 1 (by kernel_rfl) ?_
              refine alt_call 56 #[true, true, false, false, false, false, false, false, false, false, false] (by simp only [List.getElem?_toArray, List.getElem?_cons_succ, List.getElem?_cons_zero]; rfl) (by rfl) rfl (by rfl) (by go_simp; first | exact ⟨rfl, rfl⟩ | rfl) ?_
              have hM := may_ref _ A2 c2 ys _ ro HL.out
              rw [HM.out] at hM
              with_reducible refine hM.mono ?_
              rintro e' w3 ⟨rfl, rfl⟩
              refine ⟨_, rfl, RB_refl _, ?_⟩
              (try simp only [Act.put, List.setIfInBounds_toArray]); (try simp only [List.set_cons_succ]); (try simp only [List.set_cons_zero])
              refine r_flt RB_refl 2 57 #[true, true, true, false, false, false, false, false, false, false, false] (by simp only [List.getElem?_toArray, List.getElem?_cons_succ, List.getElem?_cons_zero]; rfl) (by rfl) (by kernel_rfl) (by kernel_rfl) (by kernel_rfl) (fun _ _ _ _ h => h) rfl (by rfl) ?_
              apply Exists.intro
              apply And.intro
              · intro W hW
                first | (go_simp; with_reducible rfl) | go_simp
              (try simp only [Act.put, List.setIfInBounds_toArray]); (try simp only [List.set_cons_succ]); (try simp only [List.set_cons_zero])
              refine r_flt RB_refl 3 58 #[true, true, true, true, false, false, false, false, false, false, false] (by simp only [List.getElem?_toArray, List.getElem?_cons_succ, List.getElem?_cons_zero]; rfl) (by rfl) (by kernel_rfl) (by kernel_rfl) (by kernel_rfl) (fun _ _ _ _ h => h) rfl (by rfl) ?_
              apply Exists.intro
              apply And.intro
              · intro W hW
                first | (go_simp; with_reducible rfl) | go_simp
              (try simp only [Act.put, List.setIfInBounds_toArray]); (try simp only [List.set_cons_succ]); (try simp only [List.set_cons_zero])
              refine r_flt RB_refl 4 59 #[true, true, true, true, true, false, false, false, false, false, false] (by simp only [List.getElem?_toArray, List.getElem?_cons_succ, List.getElem?_cons_zero]; rfl) (by rfl) (by kernel_rfl) (by kernel_rfl) (by kernel_rfl) (fun _ _ _ _ h => h) rfl (by rfl) ?_
              apply Exists.intro
              apply And.intro
              · intro W hW
                first | (go_simp; with_reducible rfl) | go_simp
              (try simp only [Act.put, List.setIfInBounds_toArray]); (try simp only [List.set_cons_succ]); (try simp only [List.set_cons_zero])
              refine r_flt RB_refl 7 62 #[true, true, true, true, true, false, false, true, false, false, false] (by simp only [List.getElem?_toArray, List.getElem?_cons_succ, List.getElem?_cons_zero]; rfl) (by rfl) (by kernel_rfl) (by kernel_rfl) (by kernel_rfl) (fun _ _ _ _ h => h) rfl (by rfl) ?_
              apply Exists.intro
              apply And.intro
              · intro W hW
                first | (go_simp; with_reducible rfl) | go_simp
              (try simp only [Act.put, List.setIfInBounds_toArray]); (try simp only [List.set_cons_succ]); (try simp only [List.set_cons_zero])
              refine r_flt RB_refl 8 63 #[true, true, true, true, true, false, false, true, true, false, false] (by simp only [List.getElem?_toArray, List.getElem?_cons_succ, List.getElem?_cons_zero]; rfl) (by rfl) (by kernel_rfl) (by kernel_rfl) (by kernel_rfl) (fun _ _ _ _ h => h) rfl (by rfl) ?_
              apply Exists.intro
              apply And.intro
              · intro W hW
                have s := str_rd (c := c) (h.below hW) rfl
                go_simp; rfl
              (try simp only [Act.put, List.setIfInBounds_toArray]); (try simp only [List.set_cons_succ]); (try simp only [List.set_cons_zero])
              refine r_one RB_trans 5 (by kernel_rfl) ?_
              refine alt_call 60 #[true, true, true, true, true, true, false, true, true, false, false] (by simp only [List.getElem?_toArray, List.getElem?_cons_succ, List.getElem?_cons_zero]; rfl) (by rfl) rfl (by rfl) (by go_simp; first | exact ⟨rfl, rfl⟩ | rfl) ?_
              with_reducible refine (rPack_any _ A2 c2 ys _ ro hlc hc2).mono ?_
              rintro e' w3 ⟨v3, rfl, o3, b3⟩
              obtain ⟨A3, n3, c3, rfl, e3, _, _⟩ := o3.form'
              refine ⟨_, rfl, b3, ?_⟩
              have h := h.below b3
              have hown := OwnI.below hown b3
              have bb := bb.thenB' b3
              (try simp only [Act.put, List.setIfInBounds_toArray]); (try simp only [List.set_cons_succ]); (try simp only [List.set_cons_zero])
              refine r_flt RB_refl 6 61 #[true, true, true, true, true, true, true, true, true, false, false] (by simp only [List.getElem?_toArray, List.getElem?_cons_succ, List.getElem?_cons_zero]; rfl) (by rfl) (by kernel_rfl) (by kernel_rfl) (by kernel_rfl) (fun _ _ _ _ h => h) rfl (by rfl) ?_
              apply Exists.intro
              apply And.intro
              · intro W hW
                have s := str_inB o3 e3.out hW
                go_simp; rfl
              (try simp only [Act.put, List.setIfInBounds_toArray]); (try simp only [List.set_cons_succ]); (try simp only [List.set_cons_zero])
              refine r_flt RB_refl 9 64 #[true, true, true, true, true, true, true, true, true, true, false] (by simp only [List.getElem?_toArray, List.getElem?_cons_succ, List.getElem?_cons_zero]; rfl) (by rfl) (by kernel_rfl) (by kernel_rfl) (by kernel_rfl) (fun _ _ _ _ h => h) rfl (by rfl) ?_
              apply Exists.intro
              apply And.intro
              · intro W hW
                have s := hne.out
                have s2 := hne2.out
                go_simp; rfl
              (try simp only [Act.put, List.setIfInBounds_toArray]); (try simp only [List.set_cons_succ]); (try simp only [List.set_cons_zero])
              refine r_flt RB_refl 10 65 #[true, true, true, true, true, true, true, true, true, true, true] (by simp only [List.getElem?_toArray, List.getElem?_cons_succ, List.getElem?_cons_zero]; rfl) (by rfl) (by kernel_rfl) (by kernel_rfl) (by kernel_rfl) (fun _ _ _ _ h => h) rfl (by rfl) ?_
              apply Exists.intro
              apply And.intro
              · intro W hW
                first | (go_simp; with_reducible rfl) | go_simp
              (try simp only [Act.put, List.setIfInBounds_toArray]); (try simp only [List.set_cons_succ]); (try simp only [List.set_cons_zero])
              refine r_done (by kernel_rfl) ?_
              go_wp2_with fail
              go_ret2
              exact ⟨_, by rw [e.out] <;> rfl, by rw [e.out]; exact OwnI.nil, b1.thenB' bb⟩
      · have HJ : Hid (bitP b j = refU b) := by unfold Hid bitP refU; rw [hN.out, show min n (4 * (b.length - 2)) = j by omega]
        clear hjl hq hr
        obtain ⟨A2, c2, hv, hlc, hc2⟩ := hown.form
        subst hv
        have hlj : ∀ y, y = (bitP b j).length → y ≤ 65535 := fun y h => by rw [h, bitP_len]; omega
        have hy := HJ.out
        rw [hy] at hown hlc hlj ⊢
        clear hy HJ
        have HR := Lib.hid (unp_ref b hb2)
        have HL : Hid ((refU b).length ≤ 9223372036854775807) := by
          unfold Hid
          have := hlj _ rfl
          omega
        have hc2 : c2 ≤ 9223372036854775807 := hc2
        clear hlj
        generalize refU b = ys at *
        cases hmay : mayO ys
        · have e : Hid (unpO b = none) := by unfold Hid; rw [HR.out, hmay, if_neg (by simp)]
          have HM0 := hmay
          go_wp2_with fail
          refine r_start (R := RB) (by rfl) (n := 11) (L := #[false, false, false, false, false, false, false, false, false, false, false]) rfl rfl ?_
          have bd : Below wr.heap.size wr wr.drew := (Below.refl _ _).drew
          have h := (h.below (w' := wr) (Below.mono bb (Nat.le_refl _))).below bd
          have hown := OwnI.below hown bd
          have bb := bb.thenB' bd
          generalize wr.drew = wd1 at *
          clear bd
          have ro := hown.rd
          refine r_flt RB_refl 0 55 #[true, false, false, false, false, false, false, false, false, false, false] (by simp only [List.getElem?_toArray, List.getElem?_cons_zero]; rfl) (by rfl) (by kernel_rfl) (by kernel_rfl) (by kernel_rfl) (fun _ _ _ _ h => h) rfl (by rfl) ?_
          apply Exists.intro
          apply And.intro
          · intro W hW
            first | (go_simp; with_reducible rfl) | go_simp
          (try simp only [Act.put, List.setIfInBounds_toArray]); (try simp only [List.set_cons_succ]); (try simp only [List.set_cons_zero])
          refine r_one RB_trans 1 (by kernel_rfl) ?_
          refine alt_call 56 #[true, true, false, false, false, false, false, false, false, false, false] (by simp only [List.getElem?_toArray, List.getElem?_cons_succ, List.getElem?_cons_zero]; rfl) (by rfl) rfl (by rfl) (by go_simp; first | exact ⟨rfl, rfl⟩ | rfl) ?_
          have hM := may_ref _ A2 c2 ys _ ro HL.out
          rw [hmay] at hM
          with_reducible refine hM.mono ?_
          rintro e' w3 ⟨rfl, rfl⟩
          refine ⟨_, rfl, RB_refl _, ?_⟩
          (try simp only [Act.put, List.setIfInBounds_toArray]); (try simp only [List.set_cons_succ]); (try simp only [List.set_cons_zero])
          refine r_flt RB_refl 2 57 #[true, true, true, false, false, false, false, false, false, false, false] (by simp only [List.getElem?_toArray, List.getElem?_cons_succ, List.getElem?_cons_zero]; rfl) (by rfl) (by kernel_rfl) (by kernel_rfl) (by kernel_rfl) (fun _ _ _ _ h => h) rfl (by rfl) ?_
          apply Exists.intro
          apply And.intro
          · intro W hW
            first | (go_simp; with_reducible rfl) | go_simp
          (try simp only [Act.put, List.setIfInBounds_toArray]); (try simp only [List.set_cons_succ]); (try simp only [List.set_cons_zero])
          refine r_flt RB_refl 3 58 #[true, true, true, true, false, false, false, false, false, false, false] (by simp only [List.getElem?_toArray, List.getElem?_cons_succ, List.getElem?_cons_zero]; rfl) (by rfl) (by kernel_rfl) (by kernel_rfl) (by kernel_rfl) (fun _ _ _ _ h => h) rfl (by rfl) ?_
          apply Exists.intro
          apply And.intro
          · intro W hW
            first | (go_simp; with_reducible rfl) | go_simp
          (try simp only [Act.put, List.setIfInBounds_toArray]); (try simp only [List.set_cons_succ]); (try simp only [List.set_cons_zero])
          refine r_skip RB_refl 4 59 #[true, true, true, true, true, false, false, false, false, false, false] (by simp only [List.getElem?_toArray, List.getElem?_cons_succ, List.getElem?_cons_zero]; rfl) (by rfl) (by kernel_rfl) (by kernel_rfl) (by kernel_rfl) (fun _ _ _ _ h => h) rfl (by rfl) ?_
          (try simp only [Act.put, List.setIfInBounds_toArray]); (try simp only [List.set_cons_succ]); (try simp only [List.set_cons_zero])
          refine r_skip RB_refl 5 60 #[true, true, true, true, true, true, false, false, false, false, false] (by simp only [List.getElem?_toArray, List.getElem?_cons_succ, List.getElem?_cons_zero]; rfl) (by rfl) (by kernel_rfl) (by kernel_rfl) (by kernel_rfl) (fun _ _ _ _ h => h) rfl (by rfl) ?_
          (try simp only [Act.put, List.setIfInBounds_toArray]); (try simp only [List.set_cons_succ]); (try simp only [List.set_cons_zero])
          refine r_skip RB_refl 6 61 #[true, true, true, true, true, true, true, false, false, false, false] (by simp only [List.getElem?_toArray, List.getElem?_cons_succ, List.getElem?_cons_zero]; rfl) (by rfl) (by kernel_rfl) (by kernel_rfl) (by kernel_rfl) (fun _ _ _ _ h => h) rfl (by rfl) ?_
          (try simp only [Act.put, List.setIfInBounds_toArray]); (try simp only [List.set_cons_succ]); (try simp only [List.set_cons_zero])
          refine r_skip RB_refl 7 62 #[true, true, true, true, true, true, true, true, false, false, false] (by simp only [List.getElem?_toArray, List.getElem?_cons_succ, List.getElem?_cons_zero]; rfl) (by rfl) (by kernel_rfl) (by kernel_rfl) (by kernel_rfl) (fun _ _ _ _ h => h) rfl (by rfl) ?_
          (try simp only [Act.put, List.setIfInBounds_toArray]); (try simp only [List.set_cons_succ]); (try simp only [List.set_cons_zero])
          refine r_skip RB_refl 8 63 #[true, true, true, true, true, true, true, true, true, false, false] (by simp only [List.getElem?_toArray, List.getElem?_cons_succ, List.getElem?_cons_zero]; rfl) (by rfl) (by kernel_rfl) (by kernel_rfl) (by kernel_rfl) (fun _ _ _ _ h => h) rfl (by rfl) ?_
          (try simp only [Act.put, List.setIfInBounds_toArray]); (try simp only [List.set_cons_succ]); (try simp only [List.set_cons_zero])
          refine r_skip RB_refl 9 64 #[true, true, true, true, true, true, true, true, true, true, false] (by simp only [List.getElem?_toArray, List.getElem?_cons_succ, List.getElem?_cons_zero]; rfl) (by rfl) (by kernel_rfl) (by kernel_rfl) (by kernel_rfl) (fun _ _ _ _ h => h) rfl (by rfl) ?_
          (try simp only [Act.put, List.setIfInBounds_toArray]); (try simp only [List.set_cons_succ]); (try simp only [List.set_cons_zero])
          refine r_flt RB_refl 10 65 #[true, true, true, true, true, true, true, true, true, true, true] (by simp only [List.getElem?_toArray, List.getElem?_cons_succ, List.getElem?_cons_zero]; rfl) (by rfl) (by kernel_rfl) (by kernel_rfl) (by kernel_rfl) (fun _ _ _ _ h => h) rfl (by rfl) ?_
          apply Exists.intro
          apply And.intro
          · intro W hW
            first | (go_simp; with_reducible rfl) | go_simp
          (try simp only [Act.put, List.setIfInBounds_toArray]); (try simp only [List.set_cons_succ]); (try simp only [List.set_cons_zero])
          refine r_done (by kernel_rfl) ?_
          go_wp2_with fail
          go_ret2
          exact ⟨_, by rw [e.out] <;> rfl, by rw [e.out]; exact OwnI.nil, b1.thenB' bb⟩
        · by_cases hpk : packO ys = b
          case pos =>
            have e : Hid (unpO b = some ys) := by unfold Hid; rw [HR.out, hmay, if_pos ⟨rfl, hpk⟩]
            have hne : Hid ((str (packO ys) != str b) = false) := by unfold Hid bne; rw [str_beq, hpk]; simp
            have hne2 : Hid ((packO ys == b) = true) := by unfold Hid; rw [hpk]; simp
            have HM := Lib.hid hmay
            clear hmay hpk
            go_wp2_with fail
            refine r_start (R := RB) (by rfl) (n := 11) (L := #[false, false, false, false, false, false, false, false, false, false, false]) rfl rfl ?_
            have bd : Below wr.heap.size wr wr.drew := (Below.refl _ _).drew
            have h := (h.below (w' := wr) (Below.mono bb (Nat.le_refl _))).below bd
            have hown := OwnI.below hown bd
            have bb := bb.thenB' bd
            generalize wr.drew = wd1 at *
            clear bd
            have ro := hown.rd
            refine r_flt RB_refl 0 55 #[true, false, false, false, false, false, false, false, false, false, false] (by simp only [List.getElem?_toArray, List.getElem?_cons_zero]; rfl) (by rfl) (by kernel_rfl) (by kernel_rfl) (by kernel_rfl) (fun _ _ _ _ h => h) rfl (by rfl) ?_
            apply Exists.intro
            apply And.intro
            · intro W hW
              first | (go_simp; with_reducible rfl) | go_simp
            (try simp only [Act.put, List.setIfInBounds_toArray]); (try simp only [List.set_cons_succ]); (try simp only [List.set_cons_zero])
            refine r_one RB_trans 1 (by kernel_rfl) ?_
            refine alt_call 56 #[true, true, false, false, false, false, false, false, false, false, false] (by simp only [List.getElem?_toArray, List.getElem?_cons_succ, List.getElem?_cons_zero]; rfl) (by rfl) rfl (by rfl) (by go_simp; first | exact ⟨rfl, rfl⟩ | rfl) ?_
            have hM := may_ref _ A2 c2 ys _ ro HL.out
            rw [HM.out] at hM
            with_reducible refine hM.mono ?_
            rintro e' w3 ⟨rfl, rfl⟩
            refine ⟨_, rfl, RB_refl _, ?_⟩
            (try simp only [Act.put, List.setIfInBounds_toArray]); (try simp only [List.set_cons_succ]); (try simp only [List.set_cons_zero])
            refine r_flt RB_refl 2 57 #[true, true, true, false, false, false, false, false, false, false, false] (by simp only [List.getElem?_toArray, List.getElem?_cons_succ, List.getElem?_cons_zero]; rfl) (by rfl) (by kernel_rfl) (by kernel_rfl) (by kernel_rfl) (fun _ _ _ _ h => h) rfl (by rfl) ?_
            apply Exists.intro
            apply And.intro
            · intro W hW
              first | (go_simp; with_reducible rfl) | go_simp
            (try simp only [Act.put, List.setIfInBounds_toArray]); (try simp only [List.set_cons_succ]); (try simp only [List.set_cons_zero])
            refine r_flt RB_refl 3 58 #[true, true, true, true, false, false, false, false, false, false, false] (by simp only [List.getElem?_toArray, List.getElem?_cons_succ, List.getElem?_cons_zero]; rfl) (by rfl) (by kernel_rfl) (by kernel_rfl) (by kernel_rfl) (fun _ _ _ _ h => h) rfl (by rfl) ?_
            apply Exists.intro
            apply And.intro
            · intro W hW
              first | (go_simp; with_reducible rfl) | go_simp
            (try simp only [Act.put, List.setIfInBounds_toArray]); (try simp only [List.set_cons_succ]); (try simp only [List.set_cons_zero])
            refine r_flt RB_refl 4 59 #[true, true, true, true, true, false, false, false, false, false, false] (by simp only [List.getElem?_toArray, List.getElem?_cons_succ, List.getElem?_cons_zero]; rfl) (by rfl) (by kernel_rfl) (by kernel_rfl) (by kernel_rfl) (fun _ _ _ _ h => h) rfl (by rfl) ?_
            apply Exists.intro
            apply And.intro
            · intro W hW
              first | (go_simp; with_reducible rfl) | go_simp
            (try simp only [Act.put, List.setIfInBounds_toArray]); (try simp only [List.set_cons_succ]); (try simp only [List.set_cons_zero])
            refine r_flt RB_refl 7 62 #[true, true, true, true, true, false, false, true, false, false, false] (by simp only [List.getElem?_toArray, List.getElem?_cons_succ, List.getElem?_cons_zero]; rfl) (by rfl) (by kernel_rfl) (by kernel_rfl) (by kernel_rfl) (fun _ _ _ _ h => h) rfl (by rfl) ?_
            apply Exists.intro
            apply And.intro
            · intro W hW
              first | (go_simp; with_reducible rfl) | go_simp
            (try simp only [Act.put, List.setIfInBounds_toArray]); (try simp only [List.set_cons_succ]); (try simp only [List.set_cons_zero])
            refine r_flt RB_refl 8 63 #[true, true, true, true, true, false, false, true, true, false, false] (by simp only [List.getElem?_toArray, List.getElem?_cons_succ, List.getElem?_cons_zero]; rfl) (by rfl) (by kernel_rfl) (by kernel_rfl) (by kernel_rfl) (fun _ _ _ _ h => h) rfl (by rfl) ?_
            apply Exists.intro
            apply And.intro
            · intro W hW
              have s := str_rd (c := c) (h.below hW) rfl
              go_simp; rfl
            (try simp only [Act.put, List.setIfInBounds_toArray]); (try simp only [List.set_cons_succ]); (try simp only [List.set_cons_zero])
            refine r_one RB_trans 5 (by kernel_rfl) ?_
            refine alt_call 60 #[true, true, true, true, true, true, false, true, true, false, false] (by simp only [List.getElem?_toArray, List.getElem?_cons_succ, List.getElem?_cons_zero]; rfl) (by rfl) rfl (by rfl) (by go_simp; first | exact ⟨rfl, rfl⟩ | rfl) ?_
            with_reducible refine (rPack_any _ A2 c2 ys _ ro hlc hc2).mono ?_
            rintro e' w3 ⟨v3, rfl, o3, b3⟩
            obtain ⟨A3, n3, c3, rfl, e3, _, _⟩ := o3.form'
            refine ⟨_, rfl, b3, ?_⟩
            have h := h.below b3
            have hown := OwnI.below hown b3
            have bb := bb.thenB' b3
            (try simp only [Act.put, List.setIfInBounds_toArray]); (try simp only [List.set_cons_succ]); (try simp only [List.set_cons_zero])
            refine r_flt RB_refl 6 61 #[true, true, true, true, true, true, true, true, true, false, false] (by simp only [List.getElem?_toArray, List.getElem?_cons_succ, List.getElem?_cons_zero]; rfl) (by rfl) (by kernel_rfl) (by kernel_rfl) (by kernel_rfl) (fun _ _ _ _ h => h) rfl (by rfl) ?_
            apply Exists.intro
            apply And.intro
            · intro W hW
              have s := str_inB o3 e3.out hW
              go_simp; rfl
            (try simp only [Act.put, List.setIfInBounds_toArray]); (try simp only [List.set_cons_succ]); (try simp only [List.set_cons_zero])
            refine r_flt RB_refl 9 64 #[true, true, true, true, true, true, true, true, true, true, false] (by simp only [List.getElem?_toArray, List.getElem?_cons_succ, List.getElem?_cons_zero]; rfl) (by rfl) (by kernel_rfl) (by kernel_rfl) (by kernel_rfl) (fun _ _ _ _ h => h) rfl (by rfl) ?_
            apply Exists.intro
            apply And.intro
            · intro W hW
              have s := hne.out
              have s2 := hne2.out
              go_simp; rfl
            (try simp only [Act.put, List.setIfInBounds_toArray]); (try simp only [List.set_cons_succ]); (try simp only [List.set_cons_zero])
            refine r_flt RB_refl 10 65 #[true, true, true, true, true, true, true, true, true, true, true] (by simp only [List.getElem?_toArray, List.getElem?_cons_succ, List.getElem?_cons_zero]; rfl) (by rfl) (by kernel_rfl) (by kernel_rfl) (by kernel_rfl) (fun _ _ _ _ h => h) rfl (by rfl) ?_
            apply Exists.intro
            apply And.intro
            · intro W hW
              first | (go_simp; with_reducible rfl) | go_simp
            (try simp only [Act.put, List.setIfInBounds_toArray]); (try simp only [List.set_cons_succ]); (try simp only [List.set_cons_zero])
            refine r_done (by kernel_rfl) ?_
            go_wp2_with fail
            go_ret2
            exact ⟨_, by rw [e.out] <;> rfl, by rw [e.out]; exact hown.low hsz, b1.thenB' bb⟩
          case neg =>
            have e : Hid (unpO b = none) := by unfold Hid; rw [HR.out, hmay, if_neg (fun h => hpk h.2)]
            have hne : Hid ((str (packO ys) != str b) = true) := by unfold Hid bne; rw [str_beq]; simp [hpk]
            have hne2 : Hid ((packO ys == b) = false) := by unfold Hid; simp [hpk]
            have HM := Lib.hid hmay
            clear hmay hpk
            go_wp2_with fail
            refine r_start (R := RB) (by rfl) (n := 11) (L := #[false, false, false, false, false, false, false, false, false, false, false]) rfl rfl ?_
            have bd : Below wr.heap.size wr wr.drew := (Below.refl _ _).drew
            have h := (h.below (w' := wr) (Below.mono bb (Nat.le_refl _))).below bd
            have hown := OwnI.below hown bd
            have bb := bb.thenB' bd
            generalize wr.drew = wd1 at *
            clear bd
            have ro := hown.rd
            refine r_flt RB_refl 0 55 #[true, false, false, false, false, false, false, false, false, false, false] (by simp only [List.getElem?_toArray, List.getElem?_cons_zero]; rfl) (by rfl) (by kernel_rfl) (by kernel_rfl) (by kernel_rfl) (fun _ _ _ _ h => h) rfl (by rfl) ?_
            apply Exists.intro
            apply And.intro
            · intro W hW
              first | (go_simp; with_reducible rfl) | go_simp
            (try simp only [Act.put, List.setIfInBounds_toArray]); (try simp only [List.set_cons_succ]); (try simp only [List.set_cons_zero])
            refine r_one RB_trans 1 (by kernel_rfl) ?_
            refine alt_call 56 #[true, true, false, false, false, false, false, false, false, false, false] (by simp only [List.getElem?_toArray, List.getElem?_cons_succ, List.getElem?_cons_zero]; rfl) (by rfl) rfl (by rfl) (by go_simp; first | exact ⟨rfl, rfl⟩ | rfl) ?_
            have hM := may_ref _ A2 c2 ys _ ro HL.out
            rw [HM.out] at hM
            with_reducible refine hM.mono ?_
            rintro e' w3 ⟨rfl, rfl⟩
            refine ⟨_, rfl, RB_refl _, ?_⟩
            (try simp only [Act.put, List.setIfInBounds_toArray]); (try simp only [List.set_cons_succ]); (try simp only [List.set_cons_zero])
            refine r_flt RB_refl 2 57 #[true, true, true, false, false, false, false, false, false, false, false] (by simp only [List.getElem?_toArray, List.getElem?_cons_succ, List.getElem?_cons_zero]; rfl) (by rfl) (by kernel_rfl) (by kernel_rfl) (by kernel_rfl) (fun _ _ _ _ h => h) rfl (by rfl) ?_
            apply Exists.intro
            apply And.intro
            · intro W hW
              first | (go_simp; with_reducible rfl) | go_simp
            (try simp only [Act.put, List.setIfInBounds_toArray]); (try simp only [List.set_cons_succ]); (try simp only [List.set_cons_zero])
            refine r_flt RB_refl 3 58 #[true, true, true, true, false, false, false, false, false, false, false] (by simp only [List.getElem?_toArray, List.getElem?_cons_succ, List.getElem?_cons_zero]; rfl) (by rfl) (by kernel_rfl) (by kernel_rfl) (by kernel_rfl) (fun _ _ _ _ h => h) rfl (by rfl) ?_
            apply Exists.intro
            apply And.intro
            · intro W hW
              first | (go_simp; with_reducible rfl) | go_simp
            (try simp only [Act.put, List.setIfInBounds_toArray]); (try simp only [List.set_cons_succ]); (try simp only [List.set_cons_zero])
            refine r_flt RB_refl 4 59 #[true, true, true, true, true, false, false, false, false, false, false] (by simp only [List.getElem?_toArray, List.getElem?_cons_succ, List.getElem?_cons_zero]; rfl) (by rfl) (by kernel_rfl) (by kernel_rfl) (by kernel_rfl) (fun _ _ _ _ h => h) rfl (by rfl) ?_
            apply Exists.intro
            apply And.intro
            · intro W hW
              first | (go_simp; with_reducible rfl) | go_simp
            (try simp only [Act.put, List.setIfInBounds_toArray]); (try simp only [List.set_cons_succ]); (try simp only [List.set_cons_zero])
            refine r_flt RB_refl 7 62 #[true, true, true, true, true, false, false, true, false, false, false] (by simp only [List.getElem?_toArray, List.getElem?_cons_succ, List.getElem?_cons_zero]; rfl) (by rfl) (by kernel_rfl) (by kernel_rfl) (by kernel_rfl) (fun _ _ _ _ h => h) rfl (by rfl) ?_
            apply Exists.intro
            apply And.intro
            · intro W hW
              first | (go_simp; with_reducible rfl) | go_simp
            (try simp only [Act.put, List.setIfInBounds_toArray]); (try simp only [List.set_cons_succ]); (try simp only [List.set_cons_zero])
            refine r_flt RB_refl 8 63 #[true, true, true, true, true, false, false, true, true, false, false] (by simp only [List.getElem?_toArray, List.getElem?_cons_succ, List.getElem?_cons_zero]; rfl) (by rfl) (by kernel_rfl) (by kernel_rfl) (by kernel_rfl) (fun _ _ _ _ h => h) rfl (by rfl) ?_
            apply Exists.intro
            apply And.intro
            · intro W hW
              have s := str_rd (c := c) (h.below hW) rfl
              go_simp; rfl
            (try simp only [Act.put, List.setIfInBounds_toArray]); (try simp only [List.set_cons_succ]); (try simp only [List.set_cons_zero])
            refine r_one RB_trans 5 (by kernel_rfl) ?_
            refine alt_call 60 #[true, true, true, true, true, true, false, true, true, false, false] (by simp only [List.getElem?_toArray, List.getElem?_cons_succ, List.getElem?_cons_zero]; rfl) (by rfl) rfl (by rfl) (by go_simp; first | exact ⟨rfl, rfl⟩ | rfl) ?_
            with_reducible refine (rPack_any _ A2 c2 ys _ ro hlc hc2).mono ?_
            rintro e' w3 ⟨v3, rfl, o3, b3⟩
            obtain ⟨A3, n3, c3, rfl, e3, _, _⟩ := o3.form'
            refine ⟨_, rfl, b3, ?_⟩
            have h := h.below b3
            have hown := OwnI.below hown b3
            have bb := bb.thenB' b3
            (try simp only [Act.put, List.setIfInBounds_toArray]); (try simp only [List.set_cons_succ]); (try simp only [List.set_cons_zero])
            refine r_flt RB_refl 6 61 #[true, true, true, true, true, true, true, true, true, false, false] (by simp only [List.getElem?_toArray, List.getElem?_cons_succ, List.getElem?_cons_zero]; rfl) (by rfl) (by kernel_rfl) (by kernel_rfl) (by kernel_rfl) (fun _ _ _ _ h => h) rfl (by rfl) ?_
            apply Exists.intro
            apply And.intro
            · intro W hW
              have s := str_inB o3 e3.out hW
              go_simp; rfl
            (try simp only [Act.put, List.setIfInBounds_toArray]); (try simp only [List.set_cons_succ]); (try simp only [List.set_cons_zero])
            refine r_flt RB_refl 9 64 #[true, true, true, true, true, true, true, true, true, true, false] (by simp only [List.getElem?_toArray, List.getElem?_cons_succ, List.getElem?_cons_zero]; rfl) (by rfl) (by kernel_rfl) (by kernel_rfl) (by kernel_rfl) (fun _ _ _ _ h => h) rfl (by rfl) ?_
            apply Exists.intro
            apply And.intro
            · intro W hW
              have s := hne.out
              have s2 := hne2.out
              go_simp; rfl
            (try simp only [Act.put, List.setIfInBounds_toArray]); (try simp only [List.set_cons_succ]); (try simp only [List.set_cons_zero])
            refine r_flt RB_refl 10 65 #[true, true, true, true, true, true, true, true, true, true, true] (by simp only [List.getElem?_toArray, List.getElem?_cons_succ, List.getElem?_cons_zero]; rfl) (by rfl) (by kernel_rfl) (by kernel_rfl) (by kernel_rfl) (fun _ _ _ _ h => h) rfl (by rfl) ?_
            apply Exists.intro
            apply And.intro
            · intro W hW
              first | (go_simp; with_reducible rfl) | go_simp
            (try simp only [Act.put, List.setIfInBounds_toArray]); (try simp only [List.set_cons_succ]); (try simp only [List.set_cons_zero])
            refine r_done (by kernel_rfl) ?_
            go_wp2_with fail
            go_ret2
            exact ⟨_, by rw [e.out] <;> rfl, by rw [e.out]; exact OwnI.nil, b1.thenB' bb⟩
end Go.Proofs.Ytpgfhbkggchliaa
