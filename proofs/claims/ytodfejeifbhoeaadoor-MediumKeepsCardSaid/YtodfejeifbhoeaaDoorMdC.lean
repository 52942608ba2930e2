/- The walk of MediumSpoilt. -/
import Derived.Test.YtodfejeifbhoeaaDoorMdB
namespace Go.Proofs.YtodfejeifbhoeaaDoor
open Go.RowKit
set_option linter.unusedVariables false

theorem turned_rest (k : Nat) (body rest : List UInt8) (i : Nat) (d : UInt8) (hk : k ≤ 255) (hb : body.length ≤ 8192) (hi : i < (frameO k body).length) (hd : d ≠ (frameO k body).getD i 0) :
    nextO ((frameO k body).set i d ++ rest) = .bad (if i = 0 then 11 else 20) := by
  have hF : frameO k body ++ rest = rawF (h4O k body.length) (tailO (h4O k body.length)) body (tailO body) rest := frame_raw k body rest
  rw [← gl _ rest _ hi] at hd
  rw [show (frameO k body).set i d ++ rest = (frameO k body ++ rest).set i d from (List.set_append_left _ _ hi).symm]
  have h4 := h4_eq k body.length (by omega)
  have hl := frameO_len k body
  have hh := h4O_len k body.length
  have hT := tailO_len (h4O k body.length)
  have hf := tailO_len body
  rw [hF] at hd
  rw [hF]
  rw [hl] at hi
  clear hF hl
  have b0 : (h4O k body.length).getD 0 0 = 90 := by rw [h4]; rfl
  have b2 : (h4O k body.length).getD 2 0 = UInt8.ofNat (body.length / 256 % 256) := by rw [h4]; rfl
  have b3 : (h4O k body.length).getD 3 0 = UInt8.ofNat (body.length % 256) := by rw [h4]; rfl
  have h2 := two_bytes body.length (by omega)
  have hTT : tailO (h4O k body.length) = tailO (h4O k body.length) := rfl
  generalize h4O k body.length = H at *
  by_cases c0 : i < 4
  · have hd1 : d ≠ H[i] := by
      intro e; apply hd; rw [e]
      simp only [rawF, List.append_assoc]
      rw [gl _ _ _ (by omega), gd _ _ (by omega)]
    have e1 : (rawF H (tailO H) body (tailO body) rest).set i d = rawF (H.set i d) (tailO H) body (tailO body) rest := by
      unfold rawF
      simp only [List.append_assoc]
      rw [List.set_append_left _ _ (by omega)]
    rw [e1]
    by_cases i0 : i = 0
    · subst i0
      rw [if_pos rfl]
      have hd9 : d ≠ 90 := by
        intro e; apply hd1; rw [e, ← b0, List.getD_eq_getElem?_getD, List.getElem?_eq_getElem (by omega : 0 < H.length)]; rfl
      have hlen := raw_len (h := H.set 0 d) (t := tailO H) (body := body) (foot := tailO body) (rest := rest) (by rw [List.length_set]; exact hh) hT hf
      unfold nextO
      rw [if_neg (by rw [hlen]; omega), if_pos]
      rw [raw_at (by rw [List.length_set]; exact hh) hT hf 0 (by omega), List.getD_eq_getElem?_getD, List.getElem?_set_self (by omega)]
      exact hd9
    · rw [if_neg i0, raw_next (by rw [List.length_set]; exact hh) hT hf _ _ _ (by rw [getD_set_ne _ _ _ _ i0]; exact b0) rfl rfl rfl, if_pos (tail_set H i d (by omega) hd1)]
  · rw [if_neg (by omega)]
    by_cases c1 : i < 8
    · have hit : i - 4 < (tailO H).length := by rw [hT]; omega
      have hd1 : d ≠ (tailO H)[i - 4] := by
        intro e; apply hd; rw [e]
        simp only [rawF, List.append_assoc]
        rw [gr _ _ _ (by omega), hh, gl _ _ _ (by omega), gd _ _ hit]
      have e1 : (rawF H (tailO H) body (tailO body) rest).set i d = rawF H ((tailO H).set (i - 4) d) body (tailO body) rest := by
        unfold rawF
        simp only [List.append_assoc]
        rw [List.set_append_right _ _ (by omega), List.set_append_left _ _ (by omega), hh]
      rw [e1, raw_next hh (by rw [List.length_set]; exact hT) hf _ _ _ b0 rfl b2 b3, if_pos]
      exact fun e => set_ne _ _ _ hit hd1 e.symm
    · by_cases c2 : i < 8 + body.length
      · have hib : i - 8 < body.length := by omega
        have hd1 : d ≠ body[i - 8] := by
          intro e; apply hd; rw [e]
          simp only [rawF, List.append_assoc]
          rw [gr _ _ _ (by omega), gr _ _ _ (by omega), hh, hT, gl _ _ _ (by omega), show i - 4 - 4 = i - 8 by omega, gd _ _ hib]
        have e1 : (rawF H (tailO H) body (tailO body) rest).set i d = rawF H (tailO H) (body.set (i - 8) d) (tailO body) rest := by
          unfold rawF
          simp only [List.append_assoc]
          rw [List.set_append_right _ _ (by omega), List.set_append_right _ _ (by omega), List.set_append_left _ _ (by omega), hh, hT, show i - 4 - 4 = i - 8 by omega]
        rw [e1, raw_next hh hT hf _ _ _ b0 rfl b2 b3, h2, if_neg (by simp), if_neg (by omega), if_neg (by rw [List.length_set]; simp), if_pos (by rw [List.length_set]), if_pos (tail_set body _ d hib hd1)]
      · have hib : i - (8 + body.length) < (tailO body).length := by rw [hf]; omega
        have hd1 : d ≠ (tailO body)[i - (8 + body.length)] := by
          intro e; apply hd; rw [e]
          simp only [rawF, List.append_assoc]
          rw [gr _ _ _ (by omega), gr _ _ _ (by omega), gr _ _ _ (by omega), hh, hT, gl _ _ _ (by omega), show i - 4 - 4 - body.length = i - (8 + body.length) by omega, gd _ _ hib]
        have e1 : (rawF H (tailO H) body (tailO body) rest).set i d = rawF H (tailO H) body ((tailO body).set (i - (8 + body.length)) d) rest := by
          unfold rawF
          simp only [List.append_assoc]
          rw [List.set_append_right _ _ (by omega), List.set_append_right _ _ (by omega), List.set_append_right _ _ (by omega), List.set_append_left _ _ (by omega), hh, hT, show i - 4 - 4 - body.length = i - (8 + body.length) by omega]
        rw [e1, raw_next hh hT (by rw [List.length_set]; exact hf) _ _ _ b0 rfl b2 b3, h2, if_neg (by simp), if_neg (by omega), if_neg (by simp), if_pos rfl, if_pos]
        exact fun e => set_ne _ _ _ hib hd1 e.symm
theorem turned_bad (k : Nat) (body rest : List UInt8) (i : Nat) (d : UInt8) (hk : k ≤ 255) (hb : body.length ≤ 8192) (hi : i < (frameO k body).length) (hd : d ≠ (frameO k body).getD i 0) : (nextO ((frameO k body).set i d ++ rest)).e ≠ 0 := by
  rw [turned_rest k body rest i d hk hb hi hd]
  show (if i = 0 then (11 : Int) else 20) ≠ 0
  split <;> decide
theorem cat_take (ks : Nat → Nat) (ls : List (List UInt8)) (t : Nat) : ∀ i, i ≤ t → catO ks (ls.take t) i = catO ks ls i
  | 0, _ => rfl
  | i + 1, h => by
    rw [catO, catO, cat_take ks ls t i (by omega), List.getD_eq_getElem?_getD, List.getElem?_take, if_pos (by omega), ← List.getD_eq_getElem?_getD]
theorem rem_take (ks : Nat → Nat) (ls : List (List UInt8)) (t : Nat) (ht : t ≤ ls.length) (X : List UInt8) : remO ks 0 (ls.take t) X = catO ks ls t ++ X := by
  have := cat_all ks (ls.take t) X
  rw [List.length_take, Nat.min_eq_left ht, cat_take ks ls t t (Nat.le_refl _)] at this
  exact this.symm
theorem cat_succ (ks : Nat → Nat) (ls : List (List UInt8)) (t : Nat) (ht : t < ls.length) : catO ks ls (t + 1) = catO ks ls t ++ frameO (ks t) ls[t] := by
  rw [catO, List.getD_eq_getElem?_getD, List.getElem?_eq_getElem ht]; rfl
theorem spoil_law (ks : Nat → Nat) (hk : ∀ i, ks i ≤ 255) (ls : List (List UInt8)) (hl : ∀ x ∈ ls, x.length ≤ 500) (t k : Nat) (ht : t < ls.length) (h1 : (catO ks ls t).length ≤ k) (h2 : k < (catO ks ls (t + 1)).length) (d : UInt8) (hd : d ≠ (remO ks 0 ls []).getD k 0) :
    ∃ behind, (nextO behind).e ≠ 0 ∧ (remO ks 0 ls []).set k d = remO ks 0 (ls.take t) behind := by
  have hc := cat_rem ks ls [] t (by omega)
  rw [rem_step ks ls [] t ht] at hc
  rw [cat_succ ks ls t ht, List.length_append] at h2
  rw [← hc] at hd ⊢
  rw [gr _ _ _ h1, gl _ _ _ (by omega)] at hd
  have hx := hl ls[t] (List.getElem_mem ht)
  refine ⟨(frameO (ks t) ls[t]).set (k - (catO ks ls t).length) d ++ remO ks (t + 1) (ls.drop (t + 1)) [], turned_bad _ _ _ _ _ (hk t) (by omega) (by omega) hd, ?_⟩
  rw [rem_take ks ls t (by omega), List.set_append_right _ _ h1, List.set_append_left _ _ (by omega)]
def km (i : Nat) : Nat := i % 256
theorem km_le (i : Nat) : km i ≤ 255 := by unfold km; omega
theorem km_eq (i : Nat) (h : i ≤ 255) : km i = i := by unfold km; omega

set_option maxHeartbeats 8000000 in
set_option maxRecDepth 100000 in
theorem spoilt_walk (w : World) (ht : Tab w) (A : Option Addr) (L : List BV) (c : Nat) (rl : RdL w (Old w) 1 rowCB A L) (l : L.length ≤ c) (mx : c ≤ 9223372036854775807) (nn : A = none → c = 0) (rs : ∀ s ∈ L, RdB w (Old w) s.A s.l ∧ s.l.length ≤ s.c ∧ s.c ≤ 9223372036854775807)
    (at_ : Int) (ia : I64 at_) (bt : UInt8) :
    Calls Tryd.prog 8 #[.slice A L.length c, .int .i64 at_, .int .u8 (bt.toNat : Int)] w fun e w' => e = .returned (.bool true) ∧ Below w.heap.size w w' := by
  have rs : ∀ s ∈ L, RdB w (Old w) s.A s.l := fun s hs => (rs s hs).1
  by_cases h0 : L.length = 0 ∨ 20 < L.length ∨ at_ < 0
  · have hcases : (((L.length : Int) == 0) = true) ∨ (((L.length : Int) == 0) = false ∧ 20 < L.length) ∨ (((L.length : Int) == 0) = false ∧ ¬ 20 < L.length ∧ at_ < 0) := by
      by_cases h1 : L.length = 0
      · left; simp [h1]
      · have hb : ((L.length : Int) == 0) = false := by simp; exact fun e => h1 (by simp [e])
        by_cases h2 : 20 < L.length
        · exact .inr (.inl ⟨hb, h2⟩)
        · exact .inr (.inr ⟨hb, h2, by omega⟩)
    clear h0
    rcases hcases with hb | ⟨hb, h2⟩ | ⟨hb, h2, h3⟩
    all_goals
      go_enter Tryd.func8, Tryd.ntmps8
      go_wp2_with fail
      refine (awake_any w ht).mono ?_
      rintro e w1 ⟨rfl, b1⟩
      go_wp2_with fail
      go_ret
      exact ⟨rfl, b1⟩
  · have hn0 : 0 < L.length := by omega
    have h20 : ¬ 20 < L.length := by omega
    have hat0 : ¬ at_ < 0 := by omega
    have hbz : ((L.length : Int) == 0) = false := by simp; exact fun e => h0 (.inl (by simp [e]))
    obtain ⟨at', rfl⟩ : ∃ n : Nat, at_ = (n : Int) := ⟨at_.toNat, by omega⟩
    have hat6 : at' ≤ 9223372036854775807 := by unfold I64 at ia; omega
    clear h0
    obtain ⟨ls, hls⟩ : ∃ ls, ls = L.map (·.l) := ⟨_, rfl⟩
    have HLL : Hid (ls.length = L.length) := by unfold Hid; rw [hls, List.length_map]
    have HG : Hid (∀ j, (hj : j < L.length) → ls.getD j [] = L[j].l) := fun j hj => by rw [hls, List.getD_eq_getElem?_getD, List.getElem?_map, List.getElem?_eq_getElem hj]; rfl
    have HG2 : Hid (∀ j, (hj : j < L.length) → ls[j]? = some L[j].l) := fun j hj => by rw [hls, List.getElem?_map, List.getElem?_eq_getElem hj]; rfl
    clear hls
    go_enter Tryd.func8, Tryd.ntmps8
    go_wp2_with fail
    refine (awake_any w ht).mono ?_
    rintro e w1 ⟨rfl, b1⟩
    go_wp2_with fail
    refine (New_any 100000 w1).mono ?_
    rintro e w2 ⟨rfl, m2, b2⟩
    obtain ⟨g, hg⟩ : ∃ g, g = w1.heap.size := ⟨_, rfl⟩
    rw [← hg] at m2
    rw [← hg]
    have m2 : Med w2 w.heap.size g (.slice none 0 0) (newS 100000) := Med.low m2 (by have := b1.size; omega)
    have bb := b1.thenB' b2
    clear hg b2
    go_wp2_with fail
    go_loopw [9] (fun i wr => ∃ (j : Nat) (s : MS) (v : Value), j ≤ L.length ∧ i = .int .i64 (j : Int) ∧ s.room = 100000 ∧ s.up = true ∧ s.cut = none ∧ Hid (s.b = catO km ls j) ∧ Hid (∀ t, t < j → (ls.getD t []).length ≤ 500) ∧ Med wr w.heap.size g v s ∧ Below w.heap.size w wr) (fun i _ => L.length - (intOf i).toNat)
    case atStart => exact ⟨0, newS 100000, _, Nat.zero_le _, rfl, by decide, rfl, rfl, Lib.hid rfl, Lib.hid fun t ht => by omega, m2, bb⟩
    case round =>
      clear m2 bb
      obtain ⟨j, s, v, hj, rfl, hroom, hup, hcut, HB, H5, hm, bb⟩ := hrel
      have hsl : s.b.length ≤ 512 * j := by rw [HB.out]; exact cat_bd km ls j H5.out
      by_cases hlt : j < L.length
      · obtain ⟨ad, rfl, hcell⟩ := (rl.belowB bb (fun _ h => h)).bv hlt
        have rj := Rd.belowB (rs L[j] (List.getElem_mem hlt)) bb (fun _ h => h)
        have hgj := HG.out j hlt
        have hkm := km_eq j (by omega)
        have hcat : Hid (catO km ls (j + 1) = catO km ls j ++ frameO j L[j].l) := by unfold Hid; rw [catO, hgj, hkm]
        have H5' : Hid (L[j].l.length ≤ 500 → ∀ t, t < j + 1 → (ls.getD t []).length ≤ 500) := fun h t ht => by
          rcases Nat.lt_or_ge t j with h1 | h1
          · exact H5.out t h1
          · obtain rfl : t = j := by omega
            rw [hgj]; exact h
        clear hgj hkm
        generalize L[j].l = x at *
        generalize L[j].A = Ax at *
        generalize L[j].c = cx at *
        by_cases h300 : 300 < x.length
        · go_wp2_with fail
          go_ret
          exact ⟨rfl, bb⟩
        · have a2 := (app_two s j x (by omega) (by omega) hup hcut).2 (by rw [hroom]; omega)
          have ha := Append_any w.heap.size g v s _ Ax cx (j : Int) x wr hm bb.size rj (by omega) (by omega) (ht.below bb)
          rw [a2] at ha
          obtain ⟨s2, hs2⟩ : ∃ s2 : MS, s2 = { s with b := s.b ++ frameO j x } := ⟨_, rfl⟩
          have HS : Hid (s2.room = 100000 ∧ s2.up = true ∧ s2.cut = none ∧ s2.b = catO km ls (j + 1)) := by unfold Hid; rw [hs2]; exact ⟨hroom, hup, hcut, by rw [hcat.out, ← HB.out]⟩
          have H5'' := Lib.hid (H5'.out (by omega))
          rw [← hs2] at ha
          clear a2 hroom hup hcut hs2
          go_wp2_with fail
          refine ha.mono ?_
          clear ha
          rintro e w3 ⟨v3, rfl, m3, x3, _⟩
          have bb := bb.trans (hm.bel x3 bb.size)
          go_wp2_with fail
          go_roundw
          case rel => exact ⟨j + 1, s2, v3, by omega, by go_num, HS.out.1, HS.out.2.1, HS.out.2.2.1, Lib.hid HS.out.2.2.2, H5'', m3, bb⟩
          case measure => simp [intOf] <;> omega
      · obtain rfl : j = L.length := by omega
        have HBR : Hid (s.b = remO km 0 ls []) := by
          unfold Hid
          have hc := cat_all km ls []
          rw [HLL.out, List.append_nil, ← HB.out] at hc
          exact hc
        have hle := cat_le km ls L.length
        rw [← HB.out] at hle
        have hN0 : 0 < s.b.length := by omega
        obtain ⟨N, hN⟩ : ∃ N, N = s.b.length := ⟨_, rfl⟩
        have hln := Len_any w.heap.size g v s wr hm
        rw [← hN] at hln
        obtain ⟨k, hk⟩ : ∃ k, k = at' % N := ⟨_, rfl⟩
        have hkN : k < N := by rw [hk]; exact Nat.mod_lt _ (by omega)
        have hk1 : (at' : Int).tmod (N : Int) = (k : Int) := by rw [hk]; rfl
        have hk2 : (at' : Int) % (N : Int) = (k : Int) := by rw [hk]; rfl
        have hNz : (N : Int) ≠ 0 := by omega
        have hNzb : ((N : Int) == 0) = false := by simp; omega
        have hsp := Spoil_any w.heap.size g v s at' bt wr hm hN0 (by omega) hat6
        rw [← hN, ← hk] at hsp
        have HN := Lib.hid hN
        have hN6 : N ≤ 10240 := by omega
        clear hk hN hroom hup hcut hle hN0
        go_wp2_with fail
        refine hln.mono ?_
        clear hln
        rintro e w3 ⟨rfl, rfl⟩
        go_wp2_with fail
        refine hsp.mono ?_
        clear hsp
        rintro e w3 ⟨mm, hmm, _, rfl, m3, x3⟩
        have bb := bb.trans (hm.bel x3 bb.size)
        go_wp2_with fail
        go_loopw [11, 12] (fun lf en wr2 => ∃ t E : Nat, t ≤ L.length ∧ lf = .int .i64 (t : Int) ∧ en = .int .i64 (E : Int) ∧ Hid (E = (catO km ls t).length) ∧ E ≤ k ∧ w3 = wr2) (fun lf _ _ => L.length - (intOf lf).toNat)
        case atStart => exact ⟨0, 0, Nat.zero_le _, rfl, rfl, Lib.hid rfl, Nat.zero_le _, rfl⟩
        case round =>
          obtain ⟨t, E, htl, rfl, rfl, HE, hEk, rfl⟩ := hrel
          have htL : t < L.length := by
            rcases Nat.lt_or_ge t L.length with h | h
            · exact h
            · obtain rfl : t = L.length := by omega
              have h1 := HE.out
              rw [← HB.out, ← HN.out] at h1
              omega
          obtain ⟨ad, rfl, hcell⟩ := (rl.belowB bb (fun _ h => h)).bv htL
          have hgj := HG.out t htL
          have hx5 := H5.out t htL
          have hcl : Hid ((catO km ls (t + 1)).length = E + (L[t].l.length + 12)) := by unfold Hid; rw [catO, List.length_append, frameO_len, hgj, HE.out]
          rw [hgj] at hx5
          clear hgj
          generalize L[t].l = x at *
          generalize L[t].A = Ax at *
          generalize L[t].c = cx at *
          by_cases hfit : E + x.length + 12 ≤ k
          · go_wp2_with fail
            go_roundw
            case rel => exact ⟨t + 1, E + (x.length + 12), by omega, by go_num, by go_num, Lib.hid hcl.out.symm, by omega, trivial⟩
            case measure => simp [intOf] <;> omega
          · have htl2 : t < ls.length := by rw [HLL.out]; exact htL
            have hlx : ∀ y ∈ ls, y.length ≤ 500 := fun y hy => by
              obtain ⟨q, hq, rfl⟩ := List.getElem_of_mem hy
              have := H5.out q (by rw [← HLL.out]; exact hq)
              rw [List.getD_eq_getElem?_getD, List.getElem?_eq_getElem hq] at this
              exact this
            have hsl2 := spoil_law km km_le ls hlx t k htl2 (by rw [← HE.out]; exact hEk) (by rw [hcl.out]; omega) (s.b.getD k 0 ^^^ mm) (by rw [← HBR.out]; exact xor8_ne _ _ hmm)
            obtain ⟨behind, hbad, hset⟩ := hsl2
            have hlt : ∀ y ∈ ls.take t, y.length ≤ 500 := fun y hy => hlx y (List.mem_of_mem_take hy)
            have hboot := boot_cat (s.spoil k mm) km (ls.take t) behind km_le hlt hbad (by show s.b.set k _ = _; rw [HBR.out] at hset ⊢; exact hset)
            have HBT := Lib.hid hboot
            have HR : Hid (recO (s.spoil k mm).boot.b = pairsO km 0 (ls.take t)) := by unfold Hid; rw [hboot]; exact rec_one km km_le _ _ nil_bad hlt
            have HBL : Hid ((s.spoil k mm).boot.b.length = E) := by unfold Hid; rw [hboot, rem_take km ls t (by omega), List.append_nil, HE.out]
            have hspl : (s.spoil k mm).b.length ≤ 1000000 := by show (s.b.set k _).length ≤ _; rw [List.length_set]; omega
            have HTL : Hid ((ls.take t).length = t) := by unfold Hid; rw [List.length_take]; omega
            clear hset hbad hboot hlt hlx htl2 hcl hmm
            go_wp2_with fail
            refine (Boot_any w.heap.size g v _ w3 m3 hspl (ht.below bb)).mono ?_
            rintro e w4 ⟨v4, rfl, m4, x4, _⟩
            have bb := bb.trans (m3.bel x4 bb.size)
            go_wp2_with fail
            refine (Records_any w.heap.size g v4 _ w4 m4 (by rw [HBL.out]; omega) (ht.below bb)).mono ?_
            rintro e w5 ⟨v5, v6, LB, rfl, o4, o5, hLB, hrows, b5⟩
            rw [HR.out] at o4 hLB
            have bb := bb.thenB' b5
            have m5 := m4.below b5
            have hpl : (pairsO km 0 (ls.take t)).length = t := by rw [pairs_len, HTL.out]
            have hll : LB.length = t := by have := congrArg List.length hLB; simpa [hpl] using this
            have HPL := Lib.hid hpl
            obtain ⟨A4, n4, c4, rfl, e4⟩ : ∃ A n c, v5 = .slice A n c ∧ Hid (n = t) := by
              obtain ⟨A, c, e, _, _⟩ := own_form o4
              exact ⟨A, _, c, e, Lib.hid (by rw [List.length_map, hpl])⟩
            obtain ⟨A5, n5, c5, rfl, e5⟩ := OwnS.form o5
            obtain rfl := e4.out
            obtain rfl : n5 = n4 := e5.out.trans hll
            have r4 := OwnI.rd' o4
            have HPG : Hid (∀ q, (hq : q < n5) → (hq2 : q < L.length) → (pairsO km 0 (ls.take n5))[q]? = some ((q : Int), L[q].l)) := fun q hq hq2 => by
              rw [pairs_get, List.getElem?_take, if_pos hq, HG2.out q hq2, Nat.zero_add, km_eq q (by omega)]; rfl
            have HV : Hid (∀ q, (h : q < ((pairsO km 0 (ls.take n5)).map (·.1)).length) → ((pairsO km 0 (ls.take n5)).map (·.1))[q] = (q : Int)) := fun q h => by
              have hl : q < n5 := by rw [List.length_map, HPL.out] at h; exact h
              have h1 := HPG.out q hl (by omega)
              have h2 : ((pairsO km 0 (ls.take n5)).map (·.1))[q]? = some (q : Int) := by rw [List.getElem?_map, h1]; rfl
              rw [List.getElem?_eq_getElem h] at h2
              injection h2
            have HW : Hid (∀ q, (h : q < LB.length) → (h2 : q < L.length) → LB[q].l = L[q].l) := fun q h h2 => by
              have h1 := HPG.out q (by omega) h2
              have h3 := congrArg (fun z => z[q]?) hLB
              simp only [List.getElem?_map, List.getElem?_eq_getElem h, h1, Option.map_some] at h3
              injection h3
            have HLL2 := Lib.hid hll
            have hln := Len_any w.heap.size g v4 _ w5 m5
            rw [HBL.out] at hln
            clear hll hLB hpl
            go_wp2_with fail
            refine hln.mono ?_
            clear hln
            rintro e w6 ⟨rfl, rfl⟩
            go_wp2_with fail
            go_loopw [15] (fun i wr => ∃ j : Nat, j ≤ n5 ∧ i = .int .i64 (j : Int) ∧ Below w5.heap.size w5 wr) (fun i _ => n5 - (intOf i).toNat)
            case atStart => exact ⟨0, Nat.zero_le _, rfl, Below.refl _ _⟩
            case round =>
              obtain ⟨j, hj, rfl, b5⟩ := hrel
              by_cases hlt : j < n5
              · have bw := bb.thenB' b5
                have hjL : j < L.length := by omega
                obtain ⟨ad', e0, hcell⟩ := (rl.belowB bw (fun _ h => h)).bv hjL
                injection e0 with e0
                subst e0
                have rj := Rd.belowB (rs L[j] (List.getElem_mem hjL)) bw (fun _ h => h)
                have hjl : j < ((pairsO km 0 (ls.take n5)).map (·.1)).length := by rw [List.length_map, HPL.out]; exact hlt
                obtain ⟨ad4, rfl, _, hk4⟩ := (RdI.below r4 b5).at_ hjl
                rw [HV.out j hjl] at hk4
                have hjb : j < LB.length := by rw [HLL2.out]; exact hlt
                have o5' : OwnS _ w4.heap.size (.slice A5 n5 c5) (LB.map cS) := own_below o5 b5
                obtain ⟨ad5, rfl, hk5⟩ := o5'.at_ hjb
                have hrow := Rd.below (hrows LB[j] (List.getElem_mem hjb)) b5
                unfold cS at hk5
                rw [HW.out j hjb hjL] at hk5 hrow
                generalize LB[j].A = Ay at *
                generalize LB[j].c = cy at *
                generalize L[j].l = x at *
                generalize L[j].A = Ax at *
                generalize L[j].c = cx at *
                have hjb2 : (j : Int) < (L.length : Int) := by omega
                have hjb3 : (j : Int) < (n5 : Int) := by omega
                clear hjl hjb
                go_wp2_with fail
                refine r_start (R := RB) (by rfl) (n := 19) (L := #[false, false, false, false, false, false, false, false, false, false, false, false, false, false, false, false, false, false, false]) rfl rfl ?_
                have bd : Below wr.heap.size wr wr.drew := (Below.refl _ _).drew
                have hcell := cell_below hcell bd
                have hk4 := cell_below hk4 bd
                have hk5 := cell_below hk5 bd
                have rj := Rd.below rj bd
                have hrow := Rd.below hrow bd
                have b5 := b5.thenB' bd
                generalize wr.drew = wd1 at *
                clear bd
                refine r_flt RB_refl 0 116 #[true, false, false, false, false, false, false, false, false, false, false, false, false, false, false, false, false, false, false] (by simp only [List.getElem?_toArray, List.getElem?_cons_zero]; rfl) (by rfl) (by kernel_rfl) (by kernel_rfl) (by kernel_rfl) (fun _ _ _ _ h => h) rfl (by rfl) ?_
                apply Exists.intro
                apply And.intro
                · intro W hW
                  first | (go_simp; with_reducible rfl) | go_simp
                (try simp only [Act.put, List.setIfInBounds_toArray]); (try simp only [List.set_cons_succ]); (try simp only [List.set_cons_zero])
                refine r_flt RB_refl 1 117 #[true, true, false, false, false, false, false, false, false, false, false, false, false, false, false, false, false, false, false] (by simp only [List.getElem?_toArray, List.getElem?_cons_succ, List.getElem?_cons_zero]; rfl) (by rfl) (by kernel_rfl) (by kernel_rfl) (by kernel_rfl) (fun _ _ _ _ h => h) rfl (by rfl) ?_
                apply Exists.intro
                apply And.intro
                · intro W hW
                  first | (go_simp; with_reducible rfl) | go_simp
                (try simp only [Act.put, List.setIfInBounds_toArray]); (try simp only [List.set_cons_succ]); (try simp only [List.set_cons_zero])
                refine r_flt RB_refl 2 118 #[true, true, true, false, false, false, false, false, false, false, false, false, false, false, false, false, false, false, false] (by simp only [List.getElem?_toArray, List.getElem?_cons_succ, List.getElem?_cons_zero]; rfl) (by rfl) (by kernel_rfl) (by kernel_rfl) (by kernel_rfl) (fun _ _ _ _ h => h) rfl (by rfl) ?_
                apply Exists.intro
                apply And.intro
                · intro W hW
                  go_simp; rfl
                (try simp only [Act.put, List.setIfInBounds_toArray]); (try simp only [List.set_cons_succ]); (try simp only [List.set_cons_zero])
                refine r_flt RB_refl 3 119 #[true, true, true, true, false, false, false, false, false, false, false, false, false, false, false, false, false, false, false] (by simp only [List.getElem?_toArray, List.getElem?_cons_succ, List.getElem?_cons_zero]; rfl) (by rfl) (by kernel_rfl) (by kernel_rfl) (by kernel_rfl) (fun _ _ _ _ h => h) rfl (by rfl) ?_
                apply Exists.intro
                apply And.intro
                · intro W hW
                  have q := cell_below hk4 hW
                  go_simp; rfl
                (try simp only [Act.put, List.setIfInBounds_toArray]); (try simp only [List.set_cons_succ]); (try simp only [List.set_cons_zero])
                refine r_flt RB_refl 4 120 #[true, true, true, true, true, false, false, false, false, false, false, false, false, false, false, false, false, false, false] (by simp only [List.getElem?_toArray, List.getElem?_cons_succ, List.getElem?_cons_zero]; rfl) (by rfl) (by kernel_rfl) (by kernel_rfl) (by kernel_rfl) (fun _ _ _ _ h => h) rfl (by rfl) ?_
                apply Exists.intro
                apply And.intro
                · intro W hW
                  first | (go_simp; with_reducible rfl) | go_simp
                (try simp only [Act.put, List.setIfInBounds_toArray]); (try simp only [List.set_cons_succ]); (try simp only [List.set_cons_zero])
                refine r_flt RB_refl 5 121 #[true, true, true, true, true, true, false, false, false, false, false, false, false, false, false, false, false, false, false] (by simp only [List.getElem?_toArray, List.getElem?_cons_succ, List.getElem?_cons_zero]; rfl) (by rfl) (by kernel_rfl) (by kernel_rfl) (by kernel_rfl) (fun _ _ _ _ h => h) rfl (by rfl) ?_
                apply Exists.intro
                apply And.intro
                · intro W hW
                  first | (go_simp; with_reducible rfl) | go_simp
                (try simp only [Act.put, List.setIfInBounds_toArray]); (try simp only [List.set_cons_succ]); (try simp only [List.set_cons_zero])
                refine r_flt RB_refl 6 122 #[true, true, true, true, true, true, true, false, false, false, false, false, false, false, false, false, false, false, false] (by simp only [List.getElem?_toArray, List.getElem?_cons_succ, List.getElem?_cons_zero]; rfl) (by rfl) (by kernel_rfl) (by kernel_rfl) (by kernel_rfl) (fun _ _ _ _ h => h) rfl (by rfl) ?_
                apply Exists.intro
                apply And.intro
                · intro W hW
                  first | (go_simp; with_reducible rfl) | go_simp
                (try simp only [Act.put, List.setIfInBounds_toArray]); (try simp only [List.set_cons_succ]); (try simp only [List.set_cons_zero])
                refine r_flt RB_refl 7 123 #[true, true, true, true, true, true, true, true, false, false, false, false, false, false, false, false, false, false, false] (by simp only [List.getElem?_toArray, List.getElem?_cons_succ, List.getElem?_cons_zero]; rfl) (by rfl) (by kernel_rfl) (by kernel_rfl) (by kernel_rfl) (fun _ _ _ _ h => h) rfl (by rfl) ?_
                apply Exists.intro
                apply And.intro
                · intro W hW
                  first | (go_simp; with_reducible rfl) | go_simp
                (try simp only [Act.put, List.setIfInBounds_toArray]); (try simp only [List.set_cons_succ]); (try simp only [List.set_cons_zero])
                refine r_flt RB_refl 8 124 #[true, true, true, true, true, true, true, true, true, false, false, false, false, false, false, false, false, false, false] (by simp only [List.getElem?_toArray, List.getElem?_cons_succ, List.getElem?_cons_zero]; rfl) (by rfl) (by kernel_rfl) (by kernel_rfl) (by kernel_rfl) (fun _ _ _ _ h => h) rfl (by rfl) ?_
                apply Exists.intro
                apply And.intro
                · intro W hW
                  first | (go_simp; with_reducible rfl) | go_simp
                (try simp only [Act.put, List.setIfInBounds_toArray]); (try simp only [List.set_cons_succ]); (try simp only [List.set_cons_zero])
                refine r_flt RB_refl 9 125 #[true, true, true, true, true, true, true, true, true, true, false, false, false, false, false, false, false, false, false] (by simp only [List.getElem?_toArray, List.getElem?_cons_succ, List.getElem?_cons_zero]; rfl) (by rfl) (by kernel_rfl) (by kernel_rfl) (by kernel_rfl) (fun _ _ _ _ h => h) rfl (by rfl) ?_
                apply Exists.intro
                apply And.intro
                · intro W hW
                  go_simp; rfl
                (try simp only [Act.put, List.setIfInBounds_toArray]); (try simp only [List.set_cons_succ]); (try simp only [List.set_cons_zero])
                refine r_flt RB_refl 10 126 #[true, true, true, true, true, true, true, true, true, true, true, false, false, false, false, false, false, false, false] (by simp only [List.getElem?_toArray, List.getElem?_cons_succ, List.getElem?_cons_zero]; rfl) (by rfl) (by kernel_rfl) (by kernel_rfl) (by kernel_rfl) (fun _ _ _ _ h => h) rfl (by rfl) ?_
                apply Exists.intro
                apply And.intro
                · intro W hW
                  have q := cell_below hk5 hW
                  go_simp; rfl
                (try simp only [Act.put, List.setIfInBounds_toArray]); (try simp only [List.set_cons_succ]); (try simp only [List.set_cons_zero])
                refine r_flt RB_refl 11 127 #[true, true, true, true, true, true, true, true, true, true, true, true, false, false, false, false, false, false, false] (by simp only [List.getElem?_toArray, List.getElem?_cons_succ, List.getElem?_cons_zero]; rfl) (by rfl) (by kernel_rfl) (by kernel_rfl) (by kernel_rfl) (fun _ _ _ _ h => h) rfl (by rfl) ?_
                apply Exists.intro
                apply And.intro
                · intro W hW
                  have q := str_rd (c := cy) (Rd.below hrow hW) rfl
                  go_simp; rfl
                (try simp only [Act.put, List.setIfInBounds_toArray]); (try simp only [List.set_cons_succ]); (try simp only [List.set_cons_zero])
                refine r_flt RB_refl 12 128 #[true, true, true, true, true, true, true, true, true, true, true, true, true, false, false, false, false, false, false] (by simp only [List.getElem?_toArray, List.getElem?_cons_succ, List.getElem?_cons_zero]; rfl) (by rfl) (by kernel_rfl) (by kernel_rfl) (by kernel_rfl) (fun _ _ _ _ h => h) rfl (by rfl) ?_
                apply Exists.intro
                apply And.intro
                · intro W hW
                  first | (go_simp; with_reducible rfl) | go_simp
                (try simp only [Act.put, List.setIfInBounds_toArray]); (try simp only [List.set_cons_succ]); (try simp only [List.set_cons_zero])
                refine r_flt RB_refl 13 129 #[true, true, true, true, true, true, true, true, true, true, true, true, true, true, false, false, false, false, false] (by simp only [List.getElem?_toArray, List.getElem?_cons_succ, List.getElem?_cons_zero]; rfl) (by rfl) (by kernel_rfl) (by kernel_rfl) (by kernel_rfl) (fun _ _ _ _ h => h) rfl (by rfl) ?_
                apply Exists.intro
                apply And.intro
                · intro W hW
                  first | (go_simp; with_reducible rfl) | go_simp
                (try simp only [Act.put, List.setIfInBounds_toArray]); (try simp only [List.set_cons_succ]); (try simp only [List.set_cons_zero])
                refine r_flt RB_refl 14 130 #[true, true, true, true, true, true, true, true, true, true, true, true, true, true, true, false, false, false, false] (by simp only [List.getElem?_toArray, List.getElem?_cons_succ, List.getElem?_cons_zero]; rfl) (by rfl) (by kernel_rfl) (by kernel_rfl) (by kernel_rfl) (fun _ _ _ _ h => h) rfl (by rfl) ?_
                apply Exists.intro
                apply And.intro
                · intro W hW
                  go_simp; rfl
                (try simp only [Act.put, List.setIfInBounds_toArray]); (try simp only [List.set_cons_succ]); (try simp only [List.set_cons_zero])
                refine r_flt RB_refl 15 131 #[true, true, true, true, true, true, true, true, true, true, true, true, true, true, true, true, false, false, false] (by simp only [List.getElem?_toArray, List.getElem?_cons_succ, List.getElem?_cons_zero]; rfl) (by rfl) (by kernel_rfl) (by kernel_rfl) (by kernel_rfl) (fun _ _ _ _ h => h) rfl (by rfl) ?_
                apply Exists.intro
                apply And.intro
                · intro W hW
                  have q := cell_below hcell hW
                  go_simp; rfl
                (try simp only [Act.put, List.setIfInBounds_toArray]); (try simp only [List.set_cons_succ]); (try simp only [List.set_cons_zero])
                refine r_flt RB_refl 16 132 #[true, true, true, true, true, true, true, true, true, true, true, true, true, true, true, true, true, false, false] (by simp only [List.getElem?_toArray, List.getElem?_cons_succ, List.getElem?_cons_zero]; rfl) (by rfl) (by kernel_rfl) (by kernel_rfl) (by kernel_rfl) (fun _ _ _ _ h => h) rfl (by rfl) ?_
                apply Exists.intro
                apply And.intro
                · intro W hW
                  have q := str_rd (c := cx) (Rd.below rj hW) rfl
                  go_simp; rfl
                (try simp only [Act.put, List.setIfInBounds_toArray]); (try simp only [List.set_cons_succ]); (try simp only [List.set_cons_zero])
                refine r_flt RB_refl 17 133 #[true, true, true, true, true, true, true, true, true, true, true, true, true, true, true, true, true, true, false] (by simp only [List.getElem?_toArray, List.getElem?_cons_succ, List.getElem?_cons_zero]; rfl) (by rfl) (by kernel_rfl) (by kernel_rfl) (by kernel_rfl) (fun _ _ _ _ h => h) rfl (by rfl) ?_
                apply Exists.intro
                apply And.intro
                · intro W hW
                  first | (go_simp; with_reducible rfl) | go_simp
                (try simp only [Act.put, List.setIfInBounds_toArray]); (try simp only [List.set_cons_succ]); (try simp only [List.set_cons_zero])
                refine r_flt RB_refl 18 134 #[true, true, true, true, true, true, true, true, true, true, true, true, true, true, true, true, true, true, true] (by simp only [List.getElem?_toArray, List.getElem?_cons_succ, List.getElem?_cons_zero]; rfl) (by rfl) (by kernel_rfl) (by kernel_rfl) (by kernel_rfl) (fun _ _ _ _ h => h) rfl (by rfl) ?_
                apply Exists.intro
                apply And.intro
                · intro W hW
                  first | (go_simp; with_reducible rfl) | go_simp
                (try simp only [Act.put, List.setIfInBounds_toArray]); (try simp only [List.set_cons_succ]); (try simp only [List.set_cons_zero])
                refine r_done (by kernel_rfl) ?_
                go_wp2_with fail
                go_roundw
                case rel => exact ⟨j + 1, by omega, by go_num, b5⟩
                case measure => simp [intOf] <;> omega
              · go_wp2_with fail
                go_ret
                exact ⟨rfl, bb.thenB' b5⟩
end Go.Proofs.YtodfejeifbhoeaaDoor
