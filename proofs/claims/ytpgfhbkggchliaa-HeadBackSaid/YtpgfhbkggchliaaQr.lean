/- Parts of the proof, joined: HfD HfF. -/
import Derived.Test.YtpgfhbkggchliaaQq
import Derived.Test.YtpgfhbkggchliaaQo
/- The law HeadMisses: the walk. -/
namespace Go.Proofs.Ytpgfhbkggchliaa
open Go.RowKit
set_option linter.unusedVariables false

theorem any_take6 (z : Int) : ∀ (l : List Int) (j : Nat) (h : j < l.length), (l.take (j + 1)).any (· == z) = ((l.take j).any (· == z) || (l[j] == z)) := fun l j h => by
  rw [List.take_succ_eq_append_getElem h, List.any_append]
  simp
set_option maxRecDepth 100000 in
theorem in_any6 (D : Nat → Prop) (A : Option Addr) (c : Nat) (l : List Int) (n : Int) (w : World) (h : RdI w D A l) (hc : l.length ≤ 9223372036854775807) :
    Calls Try.prog 32 #[.slice A l.length c, .int .i64 n] w fun e w' => e = .returned (.bool (l.any (· == n))) ∧ w = w' := by
  go_enter Try.func32, Try.ntmps32
  go_wp2_with fail
  go_loopw [5] (fun i wr => ∃ j : Nat, j ≤ l.length ∧ i = .int .i64 (j : Int) ∧ (l.take j).any (· == n) = false ∧ w = wr) (fun i _ => l.length - (intOf i).toNat)
  case atStart => exact ⟨0, Nat.zero_le _, rfl, rfl, rfl⟩
  case round =>
    obtain ⟨j, hj, rfl, hp, rfl⟩ := hrel
    have HP := Lib.hid hp
    clear hp
    by_cases hlt : j < l.length
    · obtain ⟨ad, rfl, _, hcell⟩ := h.at_ hlt
      have HT : Hid ((l[j] == n) = false → (l.take (j + 1)).any (· == n) = false) := fun hb => by
        rw [any_take6 _ _ _ hlt, HP.out, hb]; rfl
      have HA : Hid ((l[j] == n) = true → l.any (· == n) = true) := fun hb => List.any_eq_true.2 ⟨_, List.getElem_mem hlt, hb⟩
      generalize l[j] = z at *
      cases hb : (z == n)
      · have HN := Lib.hid (HT.out hb)
        clear HT HA
        go_wp2_with fail
        go_roundw
        case rel => exact ⟨j + 1, by omega, by go_num, HN.out, trivial⟩
        case measure => simp [intOf] <;> omega
      · have HN := Lib.hid (HA.out hb)
        clear HT HA
        go_wp2_with fail
        go_ret
        exact ⟨by rw [HN.out] <;> rfl, rfl⟩
    · obtain rfl : j = l.length := by omega
      have hp := HP.out
      rw [List.take_of_length_le (Nat.le_refl _)] at hp
      have HN := Lib.hid hp
      clear hp
      go_wp2_with fail
      go_ret
      exact ⟨by rw [HN.out] <;> rfl, rfl⟩
theorem miss_facts {p : PH} {fr gone : Int} (h1 : (diffP p fr 0).2 = 0) (h2 : (dropP p gone).2 = 0) : mayP p = true ∧ ∃ a k : Nat, findO (idsP p.S) fr = (a : Int) ∧ findO (idsP p.S) gone = (k : Int) ∧ dropP p gone = (dropAt p k, 0) := by
  have hm : mayP p = true := by
    cases hm : mayP p
    · unfold dropP at h2; rw [hm] at h2; change (60 : Int) = 0 at h2; exact absurd h2 (by decide)
    · rfl
  have ha : ¬ findO (idsP p.S) fr < 0 := fun h => by
    unfold diffP at h1; rw [if_pos hm, if_pos (.inl h)] at h1; exact absurd h1 (by decide)
  have hk : ¬ findO (idsP p.S) gone < 0 := fun h => by
    unfold dropP at h2; rw [if_pos hm, if_pos h] at h2; exact absurd h2 (by decide)
  refine ⟨hm, (findO (idsP p.S) fr).toNat, (findO (idsP p.S) gone).toNat, by omega, by omega, ?_⟩
  unfold dropP
  rw [if_pos hm, if_neg hk]
theorem any_mem6 {l : List Int} {z : Int} : l.any (· == z) = true ↔ z ∈ l := by
  rw [List.any_eq_true]
  constructor
  · rintro ⟨x, hx, e⟩
    obtain rfl := of_decide_eq_true (show decide (x = z) = true by simpa using e)
    exact hx
  · intro h
    exact ⟨z, h, by simp⟩

set_option maxHeartbeats 8000000 in
set_option maxRecDepth 100000 in
theorem misses_walk (D : Nat → Prop) (h : HdV) (fr gone : Int) (w : World) (hr : HdR w D h) :
    Calls Try.prog 9 #[hdV h, .int .i64 fr, .int .i64 gone] w fun e w' => e = .returned (.bool true) ∧ Below w.heap.size w w' := by
  have bb := below_new w (.cells (hdA h) 27)
  have hB := Blk.new w 27 (hdA h)
  have hr := hr.below bb
  have hv : hdV h = .agg (hdA h) := rfl
  have hfw := fun W hr => few_any D h W hr
  have hc1 := fun (W : World) (hr : HdR W D h) => Diff_any6 D h fr 0 W hr
  have hc2 := fun (W : World) (hr : HdR W D h) => Drop_any6 D h gone W hr
  have hfa := fun (W : World) (hr : HdR W D h) => rFind_any D h fr W hr
  have hfb := fun (W : World) (hr : HdR W D h) => rFind_any D h gone W hr
  have e4 : (hdA h)[4]? = some (.slice h.MA h.m.length h.mc) := rfl
  have e5 : (hdA h)[5]? = some (.slice h.SA h.S.length h.sc) := rfl
  rw [hv] at hfw hc1 hc2 hfa hfb ⊢
  generalize hA : hdA h = cs at *
  have h8 : cs.size = 8 := by rw [← hA]; rfl
  clear hA hv
  go_enter Try.func9, Try.ntmps9
  go_wp2_with fail
  refine (awake_any6 _).mono ?_
  rintro e w1 ⟨rfl, b1⟩
  have hB := hB.below b1
  have hr := hr.below b1
  have bb := bb.thenB' b1
  clear b1
  go_wp2_with first
    | (with_reducible show wpList _ _ _ _ _ _
       refine wpList_load_row rfl 27 (.tmp 3) rfl w.heap.size rfl 27 cs (0, 0) _ hB Try.underlying27 rfl (by rw [h8]; exact infoH) ?_)
  refine (hfw _ hr).mono ?_
  clear hfw
  rintro e w2 ⟨rfl, b2⟩
  have hB := hB.below b2
  have hr := hr.below b2
  have bb := bb.thenB' b2
  clear b2
  cases hf : fewO h
  focus
    go_wp2_with fail
    go_ret
    exact ⟨rfl, bb⟩
  by_cases hge : gone ≤ fr
  focus
    go_wp2_with fail
    go_ret
    exact ⟨rfl, bb⟩
  by_cases hbad : ¬ ((diffP h.p fr 0).2 = 0 ∧ (dropP h.p gone).2 = 0)
  focus
    generalize diffP h.p fr 0 = d1 at *
    generalize dropP h.p gone = d2 at *
    obtain ⟨C1, x⟩ := d1
    obtain ⟨p2, y⟩ := d2
    dsimp only at hbad hc1 hc2
    go_wp2_with first
      | (with_reducible show wpList _ _ _ _ _ _
         refine wpList_load_row rfl 27 (.tmp 3) rfl w.heap.size rfl 27 cs (0, 0) _ hB Try.underlying27 rfl (by rw [h8]; exact infoH) ?_)
    refine (hc1 _ hr).mono ?_
    clear hc1
    rintro e x1 ⟨v1, rfl, o1, b1⟩
    have hB := hB.below b1
    have hr := hr.below b1
    have bb := bb.thenB' b1
    obtain ⟨A1, k1, rfl, l1, kk1⟩ := OwnI.form o1
    go_wp2_with first
      | (with_reducible show wpList _ _ _ _ _ _
         refine wpList_load_row rfl 27 (.tmp 3) rfl w.heap.size rfl 27 cs (0, 0) _ hB Try.underlying27 rfl (by rw [h8]; exact infoH) ?_)
    refine (hc2 _ hr).mono ?_
    clear hc2
    rintro e x2 ⟨h2, rfl, hp2, hr2, b2⟩
    have hB := hB.below b2
    have hr := hr.below b2
    have bb := bb.thenB' b2
    have o1 := OwnI.below o1 b2
    by_cases hx : x = 0
    focus
      subst hx
      have hy : y ≠ 0 := fun h => hbad ⟨rfl, h⟩
      have hy1 : (y == 0) = false := by simp [hy]
      have hy2 : (y != 0) = true := by simp [hy]
      clear hbad
      rw [show hdV h2 = .agg (hdA h2) from rfl]
      have q2 := hd8 h2
      have a2 := hdA_ok h2
      generalize hA2 : hdA h2 = c2 at *
      have hz2 := Blk.new x2 27 z8
      unfold z8 at hz2
      go_wp2_with first
        | (with_reducible show wpList _ _ _ _ _ _
           refine wpList_rowB rfl 27 (.tmp 11) (.tmp 43) rfl x2.heap.size 27 _ c2 rfl rfl hz2 (by rw [q2]; exact infoH) (by rw [q2]; rfl) a2 ?_
           intro y2 hy2 m2
           obtain ⟨K2, n2⟩ := HdX.new hr2 hy2 hA2 m2
           have hB := hB.below n2
           have hr := hr.below n2
           have bb := bb.thenB' n2
           have o1 := OwnI.below o1 n2)
      go_ret
      exact ⟨rfl, bb⟩
    have hx1 : (x == 0) = false := by simp [hx]
    have hx2 : (x != 0) = true := by simp [hx]
    clear hbad
    rw [show hdV h2 = .agg (hdA h2) from rfl]
    have q2 := hd8 h2
    have a2 := hdA_ok h2
    generalize hA2 : hdA h2 = c2 at *
    have hz2 := Blk.new x2 27 z8
    unfold z8 at hz2
    go_wp2_with first
      | (with_reducible show wpList _ _ _ _ _ _
         refine wpList_rowB rfl 27 (.tmp 11) (.tmp 43) rfl x2.heap.size 27 _ c2 rfl rfl hz2 (by rw [q2]; exact infoH) (by rw [q2]; rfl) a2 ?_
         intro y2 hy2 m2
         obtain ⟨K2, n2⟩ := HdX.new hr2 hy2 hA2 m2
         have hB := hB.below n2
         have hr := hr.below n2
         have bb := bb.thenB' n2
         have o1 := OwnI.below o1 n2)
    go_ret
    exact ⟨rfl, bb⟩
  obtain ⟨hx, hy⟩ := Decidable.not_not.1 hbad
  obtain ⟨hm, a, k, ha, hk, ed⟩ := miss_facts hx hy
  clear hx hy hbad
  obtain ⟨M, haL, hkL⟩ := misses hm (Int.not_le.1 hge) ha hk
  rw [show h.p.S.length = h.S.length from pure_len _] at haL hkL
  rw [← show idsO h.S = idsP h.p.S from ids_p h.S] at ha hk
  rw [ha] at hfa
  rw [hk] at hfb
  rw [M.was] at hc1
  rw [ed] at hc2
  have F1 := Lib.hid M.now
  have F2 := Lib.hid M.less
  have F3 : Hid (∀ z ∈ changedO (mapAt h.p.S a) ((mapsP h.p).drop (a + 1)), (changedO (mapAt h.p.S a) ((mapsP (dropAt h.p k)).drop (a + 1))).any (· == z) = false → (gO (mapAt h.p.S a) z ≠ 0 → gO (mapAt h.p.S k) z = 0) ∧ (gO (mapAt h.p.S a) z = 0 → gO h.m z = 0)) := fun z hz hn => M.gone z hz (fun hc => by rw [any_mem6.2 hc] at hn; cases hn)
  have F4 : Hid ((changedO (mapAt h.p.S a) ((mapsP (dropAt h.p k)).drop (a + 1))).length ≤ 9223372036854775807) := Nat.le_trans (changed_big _ _) (by unfold big; omega)
  have F6 : Hid ((changedO (mapAt h.p.S a) ((mapsP h.p).drop (a + 1))).length ≤ 9223372036854775807) := Nat.le_trans (changed_big _ _) (by unfold big; omega)
  clear M hm ed ha hk
  generalize changedO (mapAt h.p.S a) ((mapsP h.p).drop (a + 1)) = C1 at *
  generalize changedO (mapAt h.p.S a) ((mapsP (dropAt h.p k)).drop (a + 1)) = C2 at *
  obtain ⟨ad, eA, _⟩ := hr.2.2.2.1.sn haL
  rw [eA] at e5
  obtain ⟨sa, hsa, esa⟩ : ∃ s : SnV, (∀ W, HdR W D h → W.cell? ⟨(ad.add (a * 3)).block, (ad.add (a * 3)).off + 2, none⟩ = some (.slice s.A s.m.length s.c) ∧ RdI W D s.A s.m) ∧ mapAt h.p.S a = s.m := by
    refine ⟨h.S[a], fun W K => ⟨?_, (K.2.2.2.2.2.2 _ (List.getElem_mem haL)).1⟩, by show (List.getD (pureS h.S) a _).2.2 = _; rw [pure_getD h.S a haL]⟩
    obtain ⟨ad', eA', _, _, d⟩ := K.2.2.2.1.sn haL
    rw [eA] at eA'
    injection eA' with eA'
    rw [eA']
    exact d
  obtain ⟨sk, hsk, esk⟩ : ∃ s : SnV, (∀ W, HdR W D h → W.cell? ⟨(ad.add (k * 3)).block, (ad.add (k * 3)).off + 2, none⟩ = some (.slice s.A s.m.length s.c) ∧ RdI W D s.A s.m) ∧ mapAt h.p.S k = s.m := by
    refine ⟨h.S[k], fun W K => ⟨?_, (K.2.2.2.2.2.2 _ (List.getElem_mem hkL)).1⟩, by show (List.getD (pureS h.S) k _).2.2 = _; rw [pure_getD h.S k hkL]⟩
    obtain ⟨ad', eA', _, _, d⟩ := K.2.2.2.1.sn hkL
    rw [eA] at eA'
    injection eA' with eA'
    rw [eA']
    exact d
  rw [esa, esk] at F3
  have F5 := F3
  clear F3 esa esk
  have haI : (a : Int) < (h.S.length : Int) := by omega
  have hkI : (k : Int) < (h.S.length : Int) := by omega
  go_wp2_with first
    | (with_reducible show wpList _ _ _ _ _ _
       refine wpList_load_row rfl 27 (.tmp 3) rfl w.heap.size rfl 27 cs (0, 0) _ hB Try.underlying27 rfl (by rw [h8]; exact infoH) ?_)
  refine (hc1 _ hr).mono ?_
  clear hc1
  rintro e x1 ⟨v1, rfl, o1, b1⟩
  have hB := hB.below b1
  have hr := hr.below b1
  have bb := bb.thenB' b1
  obtain ⟨A1, k1, rfl, l1, kk1⟩ := OwnI.form o1
  go_wp2_with first
    | (with_reducible show wpList _ _ _ _ _ _
       refine wpList_load_row rfl 27 (.tmp 3) rfl w.heap.size rfl 27 cs (0, 0) _ hB Try.underlying27 rfl (by rw [h8]; exact infoH) ?_)
  refine (hc2 _ hr).mono ?_
  clear hc2
  rintro e x2 ⟨h2, rfl, hp2, hr2, b2⟩
  have hB := hB.below b2
  have hr := hr.below b2
  have bb := bb.thenB' b2
  have o1 := OwnI.below o1 b2
  have hx2 : w.heap.size < x2.heap.size := hB.lt
  rw [show hdV h2 = .agg (hdA h2) from rfl]
  have q2 := hd8 h2
  have a2 := hdA_ok h2
  generalize hA2 : hdA h2 = c2 at *
  have hz2 := Blk.new x2 27 z8
  unfold z8 at hz2
  go_wp2_with first
    | (with_reducible show wpList _ _ _ _ _ _
       refine wpList_rowB rfl 27 (.tmp 11) (.tmp 43) rfl x2.heap.size 27 _ c2 rfl rfl hz2 (by rw [q2]; exact infoH) (by rw [q2]; rfl) a2 ?_
       intro y2 hy2 m2
       obtain ⟨K2, n2⟩ := HdX.new hr2 hy2 hA2 m2
       have hB := hB.below n2
       have hr := hr.below n2
       have bb := bb.thenB' n2
       have o1 := OwnI.below o1 n2)
    | (with_reducible show wpList _ _ _ _ _ _
       refine wpList_load_row rfl 27 (.tmp 11) rfl x2.heap.size rfl 27 c2 (0, 0) _ K2.B Try.underlying27 rfl (by rw [q2]; exact infoH) ?_)
  have hdf := fun (W : World) (K : HdX W x2.heap.size c2 h2) => Diff_any6 _ h2 fr 0 W K.rd
  rw [hp2, F1.out] at hdf
  rw [show hdV h2 = .agg c2 from K2.v] at hdf
  refine (hdf _ K2).mono ?_
  clear hdf F1
  rintro e w3 ⟨v3, rfl, o3, b3⟩
  have hB := hB.below b3
  have hr := hr.below b3
  have bb := bb.thenB' b3
  have o1 := OwnI.below o1 b3
  clear K2 hr2 hp2
  obtain ⟨A3, k3, rfl, l3, kk3⟩ := OwnI.form o3
  go_wp2_with fail
  go_loopw [15] (fun i wr => ∃ j : Nat, j ≤ C2.length ∧ i = .int .i64 (j : Int) ∧ w3 = wr) (fun i _ => C2.length - (intOf i).toNat)
  case atStart => exact ⟨0, Nat.zero_le _, rfl, rfl⟩
  case round =>
    obtain ⟨j, hj, rfl, rfl⟩ := hrel
    by_cases hlt : j < C2.length
    · have r3 := o3.rd
      have B2 := F4.out
      obtain ⟨ad3, rfl, _, hcell⟩ := r3.at_ hlt
      have hin := in_any6 _ A1 k1 C1 C2[j] _ o1.rd F6.out
      rw [any_mem6.2 (F2.out _ (List.getElem_mem hlt))] at hin
      generalize C2[j] = z at *
      go_wp2_with fail
      refine hin.mono ?_
      clear hin
      rintro e x ⟨rfl, rfl⟩
      go_wp2_with fail
      go_roundw
      case rel => exact ⟨j + 1, by omega, by go_num, trivial⟩
      case measure => simp [intOf] <;> omega
    · obtain rfl : j = C2.length := by omega
      have d5 := hB.cell 5
      rw [e5] at d5
      clear F2 hlt hj
      go_wp2_with fail
      refine r_start (R := RB) (by rfl) (n := 9) (L := #[false, false, false, false, false, false, false, false, false]) rfl rfl ?_
      have bd : Below w3.heap.size w3 w3.drew := (Below.refl _ _).drew
      have hB := hB.below bd
      have hr := hr.below bd
      have o1 := OwnI.below o1 bd
      have o3 := OwnI.below o3 bd
      have bb := bb.thenB' bd
      clear bd
      generalize w3.drew = wd19 at *
      refine r_flt RB_refl 0 72 #[true, false, false, false, false, false, false, false, false] (by simp only [List.getElem?_toArray, List.getElem?_cons_zero]; rfl) (by rfl) (by kernel_rfl) (by kernel_rfl) (by kernel_rfl) (fun _ _ _ _ h => h) rfl (by rfl) ?_
      apply Exists.intro
      apply And.intro
      · intro W hW
        first | (go_simp; with_reducible rfl) | go_simp
      (try simp only [Act.put, List.setIfInBounds_toArray]); (try simp only [List.set_cons_succ]); (try simp only [List.set_cons_zero])
      refine r_flt RB_refl 1 73 #[true, true, false, false, false, false, false, false, false] (by simp only [List.getElem?_toArray, List.getElem?_cons_succ, List.getElem?_cons_zero]; rfl) (by rfl) (by kernel_rfl) (by kernel_rfl) (by kernel_rfl) (fun _ _ _ _ h => h) rfl (by rfl) ?_
      apply Exists.intro
      apply And.intro
      · intro W hW
        have d5 := (hB.below hW).cell 5
        rw [e5] at d5
        first | (go_simp; with_reducible rfl) | go_simp
      (try simp only [Act.put, List.setIfInBounds_toArray]); (try simp only [List.set_cons_succ]); (try simp only [List.set_cons_zero])
      refine r_flt RB_refl 2 74 #[true, true, true, false, false, false, false, false, false] (by simp only [List.getElem?_toArray, List.getElem?_cons_succ, List.getElem?_cons_zero]; rfl) (by rfl) (by kernel_rfl) (by kernel_rfl) (by kernel_rfl) (fun _ _ _ _ h => h) rfl (by rfl) ?_
      apply Exists.intro
      apply And.intro
      · intro W hW
        exact exec_load_row rfl rfl (hB.below hW) Try.underlying27 (by rw [h8]; exact infoH)
      (try simp only [Act.put, List.setIfInBounds_toArray]); (try simp only [List.set_cons_succ]); (try simp only [List.set_cons_zero])
      refine r_flt RB_refl 3 75 #[true, true, true, true, false, false, false, false, false] (by simp only [List.getElem?_toArray, List.getElem?_cons_succ, List.getElem?_cons_zero]; rfl) (by rfl) (by kernel_rfl) (by kernel_rfl) (by kernel_rfl) (fun _ _ _ _ h => h) rfl (by rfl) ?_
      apply Exists.intro
      apply And.intro
      · intro W hW
        first | (go_simp; with_reducible rfl) | go_simp
      (try simp only [Act.put, List.setIfInBounds_toArray]); (try simp only [List.set_cons_succ]); (try simp only [List.set_cons_zero])
      refine r_one RB_trans 4 (by kernel_rfl) ?_
      refine alt_call 76 #[true, true, true, true, true, false, false, false, false] (by simp only [List.getElem?_toArray, List.getElem?_cons_succ, List.getElem?_cons_zero]; rfl) (by rfl) rfl (by rfl) (by go_simp; first | exact ⟨rfl, rfl⟩ | rfl) ?_
      with_reducible refine (hfa _ hr).mono ?_
      rintro e' w19 ⟨rfl, b9⟩
      refine ⟨_, rfl, b9, ?_⟩
      have hB := hB.below b9
      have hr := hr.below b9
      have o1 := OwnI.below o1 b9
      have o3 := OwnI.below o3 b9
      have bb := bb.thenB' b9
      clear b9
      (try simp only [Act.put, List.setIfInBounds_toArray]); (try simp only [List.set_cons_succ]); (try simp only [List.set_cons_zero])
      refine r_flt RB_refl 5 77 #[true, true, true, true, true, true, false, false, false] (by simp only [List.getElem?_toArray, List.getElem?_cons_succ, List.getElem?_cons_zero]; rfl) (by rfl) (by kernel_rfl) (by kernel_rfl) (by kernel_rfl) (fun _ _ _ _ h => h) rfl (by rfl) ?_
      apply Exists.intro
      apply And.intro
      · intro W hW
        first | (go_simp; with_reducible rfl) | go_simp
      (try simp only [Act.put, List.setIfInBounds_toArray]); (try simp only [List.set_cons_succ]); (try simp only [List.set_cons_zero])
      refine r_flt RB_refl 6 78 #[true, true, true, true, true, true, true, false, false] (by simp only [List.getElem?_toArray, List.getElem?_cons_succ, List.getElem?_cons_zero]; rfl) (by rfl) (by kernel_rfl) (by kernel_rfl) (by kernel_rfl) (fun _ _ _ _ h => h) rfl (by rfl) ?_
      apply Exists.intro
      apply And.intro
      · intro W hW
        first | (go_simp; with_reducible rfl) | go_simp
      (try simp only [Act.put, List.setIfInBounds_toArray]); (try simp only [List.set_cons_succ]); (try simp only [List.set_cons_zero])
      refine r_flt RB_refl 7 79 #[true, true, true, true, true, true, true, true, false] (by simp only [List.getElem?_toArray, List.getElem?_cons_succ, List.getElem?_cons_zero]; rfl) (by rfl) (by kernel_rfl) (by kernel_rfl) (by kernel_rfl) (fun _ _ _ _ h => h) rfl (by rfl) ?_
      apply Exists.intro
      apply And.intro
      · intro W hW
        have d2 := (hsa _ (hr.below hW)).1
        first | (go_simp; with_reducible rfl) | go_simp
      (try simp only [Act.put, List.setIfInBounds_toArray]); (try simp only [List.set_cons_succ]); (try simp only [List.set_cons_zero])
      refine r_flt RB_refl 8 16 #[true, true, true, true, true, true, true, true, true] (by simp only [List.getElem?_toArray, List.getElem?_cons_succ, List.getElem?_cons_zero]; rfl) (by rfl) (by kernel_rfl) (by kernel_rfl) (by kernel_rfl) (fun _ _ _ _ h => h) rfl (by rfl) ?_
      apply Exists.intro
      apply And.intro
      · intro W hW
        first | (go_simp; with_reducible rfl) | go_simp
      (try simp only [Act.put, List.setIfInBounds_toArray]); (try simp only [List.set_cons_succ]); (try simp only [List.set_cons_zero])
      refine r_done (by kernel_rfl) ?_
      have d5 := hB.cell 5
      rw [e5] at d5
      clear hfa
      go_wp2_with fail
      refine r_start (R := RB) (by rfl) (n := 9) (L := #[false, false, false, false, false, false, false, false, false]) rfl rfl ?_
      have bd : Below w19.heap.size w19 w19.drew := (Below.refl _ _).drew
      have hB := hB.below bd
      have hr := hr.below bd
      have o1 := OwnI.below o1 bd
      have o3 := OwnI.below o3 bd
      have bb := bb.thenB' bd
      clear bd
      generalize w19.drew = wd20 at *
      refine r_flt RB_refl 0 80 #[true, false, false, false, false, false, false, false, false] (by simp only [List.getElem?_toArray, List.getElem?_cons_zero]; rfl) (by rfl) (by kernel_rfl) (by kernel_rfl) (by kernel_rfl) (fun _ _ _ _ h => h) rfl (by rfl) ?_
      apply Exists.intro
      apply And.intro
      · intro W hW
        first | (go_simp; with_reducible rfl) | go_simp
      (try simp only [Act.put, List.setIfInBounds_toArray]); (try simp only [List.set_cons_succ]); (try simp only [List.set_cons_zero])
      refine r_flt RB_refl 1 81 #[true, true, false, false, false, false, false, false, false] (by simp only [List.getElem?_toArray, List.getElem?_cons_succ, List.getElem?_cons_zero]; rfl) (by rfl) (by kernel_rfl) (by kernel_rfl) (by kernel_rfl) (fun _ _ _ _ h => h) rfl (by rfl) ?_
      apply Exists.intro
      apply And.intro
      · intro W hW
        have d5 := (hB.below hW).cell 5
        rw [e5] at d5
        first | (go_simp; with_reducible rfl) | go_simp
      (try simp only [Act.put, List.setIfInBounds_toArray]); (try simp only [List.set_cons_succ]); (try simp only [List.set_cons_zero])
      refine r_flt RB_refl 2 82 #[true, true, true, false, false, false, false, false, false] (by simp only [List.getElem?_toArray, List.getElem?_cons_succ, List.getElem?_cons_zero]; rfl) (by rfl) (by kernel_rfl) (by kernel_rfl) (by kernel_rfl) (fun _ _ _ _ h => h) rfl (by rfl) ?_
      apply Exists.intro
      apply And.intro
      · intro W hW
        exact exec_load_row rfl rfl (hB.below hW) Try.underlying27 (by rw [h8]; exact infoH)
      (try simp only [Act.put, List.setIfInBounds_toArray]); (try simp only [List.set_cons_succ]); (try simp only [List.set_cons_zero])
      refine r_flt RB_refl 3 83 #[true, true, true, true, false, false, false, false, false] (by simp only [List.getElem?_toArray, List.getElem?_cons_succ, List.getElem?_cons_zero]; rfl) (by rfl) (by kernel_rfl) (by kernel_rfl) (by kernel_rfl) (fun _ _ _ _ h => h) rfl (by rfl) ?_
      apply Exists.intro
      apply And.intro
      · intro W hW
        first | (go_simp; with_reducible rfl) | go_simp
      (try simp only [Act.put, List.setIfInBounds_toArray]); (try simp only [List.set_cons_succ]); (try simp only [List.set_cons_zero])
      refine r_one RB_trans 4 (by kernel_rfl) ?_
      refine alt_call 84 #[true, true, true, true, true, false, false, false, false] (by simp only [List.getElem?_toArray, List.getElem?_cons_succ, List.getElem?_cons_zero]; rfl) (by rfl) rfl (by rfl) (by go_simp; first | exact ⟨rfl, rfl⟩ | rfl) ?_
      with_reducible refine (hfb _ hr).mono ?_
      rintro e' w20 ⟨rfl, b9⟩
      refine ⟨_, rfl, b9, ?_⟩
      have hB := hB.below b9
      have hr := hr.below b9
      have o1 := OwnI.below o1 b9
      have o3 := OwnI.below o3 b9
      have bb := bb.thenB' b9
      clear b9
      (try simp only [Act.put, List.setIfInBounds_toArray]); (try simp only [List.set_cons_succ]); (try simp only [List.set_cons_zero])
      refine r_flt RB_refl 5 85 #[true, true, true, true, true, true, false, false, false] (by simp only [List.getElem?_toArray, List.getElem?_cons_succ, List.getElem?_cons_zero]; rfl) (by rfl) (by kernel_rfl) (by kernel_rfl) (by kernel_rfl) (fun _ _ _ _ h => h) rfl (by rfl) ?_
      apply Exists.intro
      apply And.intro
      · intro W hW
        first | (go_simp; with_reducible rfl) | go_simp
      (try simp only [Act.put, List.setIfInBounds_toArray]); (try simp only [List.set_cons_succ]); (try simp only [List.set_cons_zero])
      refine r_flt RB_refl 6 86 #[true, true, true, true, true, true, true, false, false] (by simp only [List.getElem?_toArray, List.getElem?_cons_succ, List.getElem?_cons_zero]; rfl) (by rfl) (by kernel_rfl) (by kernel_rfl) (by kernel_rfl) (fun _ _ _ _ h => h) rfl (by rfl) ?_
      apply Exists.intro
      apply And.intro
      · intro W hW
        first | (go_simp; with_reducible rfl) | go_simp
      (try simp only [Act.put, List.setIfInBounds_toArray]); (try simp only [List.set_cons_succ]); (try simp only [List.set_cons_zero])
      refine r_flt RB_refl 7 87 #[true, true, true, true, true, true, true, true, false] (by simp only [List.getElem?_toArray, List.getElem?_cons_succ, List.getElem?_cons_zero]; rfl) (by rfl) (by kernel_rfl) (by kernel_rfl) (by kernel_rfl) (fun _ _ _ _ h => h) rfl (by rfl) ?_
      apply Exists.intro
      apply And.intro
      · intro W hW
        have d2 := (hsk _ (hr.below hW)).1
        first | (go_simp; with_reducible rfl) | go_simp
      (try simp only [Act.put, List.setIfInBounds_toArray]); (try simp only [List.set_cons_succ]); (try simp only [List.set_cons_zero])
      refine r_flt RB_refl 8 17 #[true, true, true, true, true, true, true, true, true] (by simp only [List.getElem?_toArray, List.getElem?_cons_succ, List.getElem?_cons_zero]; rfl) (by rfl) (by kernel_rfl) (by kernel_rfl) (by kernel_rfl) (fun _ _ _ _ h => h) rfl (by rfl) ?_
      apply Exists.intro
      apply And.intro
      · intro W hW
        first | (go_simp; with_reducible rfl) | go_simp
      (try simp only [Act.put, List.setIfInBounds_toArray]); (try simp only [List.set_cons_succ]); (try simp only [List.set_cons_zero])
      refine r_done (by kernel_rfl) ?_
      go_wp2_with fail
      go_loopw [18, 19, 20] (fun i s19 s20 wr => ∃ j : Nat, j ≤ C1.length ∧ i = .int .i64 (j : Int) ∧ w20 = wr) (fun i _ _ _ => C1.length - (intOf i).toNat)
      case atStart => exact ⟨0, Nat.zero_le _, rfl, rfl⟩
      case round =>
        obtain ⟨j, hj, rfl, rfl⟩ := hrel
        have d4 := hB.cell 4
        rw [e4] at d4
        have r1 := o1.rd
        have r3 := o3.rd
        have rm := hr.1
        have ra := (hsa _ hr).2
        have rk := (hsk _ hr).2
        by_cases hlt : j < C1.length
        · have B1 := F6.out
          obtain ⟨ad1, rfl, _, hcell⟩ := r1.at_ hlt
          have G := Lib.hid (F5.out _ (List.getElem_mem hlt))
          generalize C1[j] = z at *
          have hin := in_any6 _ A3 k3 C2 z _ r3 F4.out
          have hg1 := rGet_any _ sa.A sa.c sa.m z _ ra
          have hg2 := rGet_any _ sk.A sk.c sk.m z _ rk
          have hg3 := rGet_any _ h.MA h.mc h.m z _ rm
          cases hb : C2.any (· == z)
          · rw [hb] at hin
            have G2 := G.out hb
            clear G
            generalize gO sa.m z = g1 at *
            generalize gO sk.m z = g2 at *
            generalize gO h.m z = g3 at *
            by_cases h0 : g1 = 0
            · subst h0
              obtain rfl := G2.2 rfl
              clear G2 hg2
              go_wp2_with fail
              refine hin.mono ?_
              clear hin
              rintro e x ⟨rfl, rfl⟩
              go_wp2_with fail
              refine hg1.mono ?_
              clear hg1
              rintro e x ⟨rfl, rfl⟩
              go_wp2_with fail
              refine hg3.mono ?_
              clear hg3
              rintro e x ⟨rfl, rfl⟩
              go_wp2_with fail
              go_roundw
              case rel => exact ⟨j + 1, by omega, by go_num, trivial⟩
              case measure => simp [intOf] <;> omega
            · obtain rfl := G2.1 h0
              clear G2 hg3
              have n1 : (g1 == 0) = false := by simp [h0]
              have n2 : (g1 != 0) = true := by simp [h0]
              go_wp2_with fail
              refine hin.mono ?_
              clear hin
              rintro e x ⟨rfl, rfl⟩
              go_wp2_with fail
              refine hg1.mono ?_
              clear hg1
              rintro e x ⟨rfl, rfl⟩
              go_wp2_with fail
              refine hg2.mono ?_
              clear hg2
              rintro e x ⟨rfl, rfl⟩
              go_wp2_with fail
              go_roundw
              case rel => exact ⟨j + 1, by omega, by go_num, trivial⟩
              case measure => simp [intOf] <;> omega
          · rw [hb] at hin
            clear G hg1 hg2 hg3
            go_wp2_with fail
            refine hin.mono ?_
            clear hin
            rintro e x ⟨rfl, rfl⟩
            go_wp2_with fail
            go_roundw
            case rel => exact ⟨j + 1, by omega, by go_num, trivial⟩
            case measure => simp [intOf] <;> omega
        · obtain rfl : j = C1.length := by omega
          go_wp2_with fail
          go_ret
          exact ⟨rfl, bb⟩
theorem misses_fr (W : World) (h : HdV) (r : HdR W (Old W) h) (_ : HdI h) (a : Int) (ia : I64 a) (b : Int) (ib : I64 b) :
    Calls Try.prog 9 #[hdV h, .int .i64 a, .int .i64 b] W fun e w' => e = .returned (.bool true) ∧ Below W.heap.size W w' := misses_walk (Old W) h a b W r
end Go.Proofs.Ytpgfhbkggchliaa

/- A head's bytes and back: plain. -/
namespace Go.Proofs.Ytpgfhbkggchliaa
open Go.RowKit
set_option linter.unusedVariables false

def rHead (s : St) : St := (tabO (rNum 6 (rNum 2 (rNum 1 (rNum 1 (rNum 1 (rNum 1 s).2).2).2).2).2).2).2
theorem unp_state (b : List UInt8) : (unpRead b).2 = (rTail (rHead (b, 0))).2 := rfl
def headB7 (p : PH) : List UInt8 := numE 1 p.u ++ numE 1 p.n ++ numE 1 p.o ++ numE 1 p.last ++ numE 2 p.size ++ numE 6 p.seq ++ blobE (packO p.m)
theorem pack7 (p : PH) : packB p = headB7 p ++ (numE 1 (p.S.length : Nat) ++ p.S.flatMap snB) := by
  unfold packB headB headB7
  simp only [List.append_assoc]
theorem lay_bd6 {u n o : Int} (h : layO u n o = true) : 1 ≤ u ∧ u ≤ 64 ∧ 1 ≤ n ∧ n ≤ 8 ∧ 1 ≤ o ∧ o ≤ 64 := by
  unfold layO at h
  have := of_decide_eq_true h
  omega
theorem okS {p : PH} (h : mayP p = true) : (∀ s ∈ p.S, okSn s) ∧ p.S.length ≤ 4 := by
  obtain ⟨a1, a2, a3, a4, a5, a6, a7, a8⟩ := mayP_of h
  exact ⟨okSn_of a5 p.S 0 (Int.le_refl _) a8, a3⟩
theorem unp_yes {p : PH} (h : mayP p = true) (rest : List UInt8) : unpRead (packB p ++ rest) = (p, (rest, 0)) := by
  obtain ⟨hS, h4⟩ := okS h
  obtain ⟨a1, a2, a3, a4, a5, a6, a7, a8⟩ := mayP_of h
  obtain ⟨b1, b2, b3, b4, b5, b6⟩ := lay_bd6 a1
  obtain ⟨c1, c2, c3⟩ := sized_bd a2
  have ht := tail_eq hS h4 rest
  unfold rTail at ht
  rw [pack7]
  unfold headB7
  simp only [List.append_assoc]
  unfold unpRead
  simp only
  rw [rNum_yes 1 p.u _ (by omega) (by show p.u < 256; omega)]
  simp only
  rw [rNum_yes 1 p.n _ (by omega) (by show p.n < 256; omega)]
  simp only
  rw [rNum_yes 1 p.o _ (by omega) (by show p.o < 256; omega)]
  simp only
  rw [rNum_yes 1 p.last _ (by omega) (by show p.last < 256; omega)]
  simp only
  rw [rNum_yes 2 p.size _ (by omega) (by show p.size < 65536; omega)]
  simp only
  rw [rNum_yes 6 p.seq _ (by omega) (by show p.seq < 281474976710656; omega)]
  simp only
  rw [tab_eq c3]
  simp only
  rw [ht]
theorem puts_head {p : PH} (h : mayO p.m = true) : Puts rHead (headB7 p) :=
  ((((((puts_num 1 p.u).then_ (puts_num 1 p.n)).then_ (puts_num 1 p.o)).then_ (puts_num 1 p.last)).then_ (puts_num 2 p.size)).then_ (puts_num 6 p.seq)).then_ (puts_tab h)
theorem unp_cut {p : PH} (h : mayP p = true) (k : Nat) (hk : k < (packB p).length) : (unpRead ((packB p).take k)).2 = ([], 10) := by
  obtain ⟨hS, h4⟩ := okS h
  obtain ⟨c1, c2, c3⟩ := sized_bd (mayP_of h).2.1
  rw [unp_state]
  have hp := (puts_head c3).then_ (puts_tail hS h4)
  rw [pack7] at hk ⊢
  exact hp.cut k hk

/-! ### what was taken stood there -/
theorem encN_big : ∀ (l : List UInt8), encN l.length (bigNat l) = l
  | [] => rfl
  | c :: l => by
    have hp : 0 < 256 ^ l.length := Nat.pow_pos (by omega)
    have hl := bigNat_lt l
    have e : bigNat (c :: l) = c.toNat * 256 ^ l.length + bigNat l := by
      rw [show c :: l = [c] ++ l from rfl, bigNat_append]
      simp [bigNat]
    rw [List.length_cons, encN_cons, ← encN_mod, e, Nat.mul_comm, Nat.mul_add_mod, Nat.mod_eq_of_lt hl, encN_big l, Nat.mul_add_div hp, Nat.div_eq_of_lt hl, Nat.add_zero, Nat.mod_eq_of_lt c.toNat_lt, UInt8.ofNat_toNat]
theorem rTake_got {n : Nat} {s : St} (h : (rTake n s).2.2 = 0) : s.2 = 0 ∧ s.1 = (rTake n s).1 ++ (rTake n s).2.1 ∧ (rTake n s).1.length = n := by
  unfold rTake at h ⊢
  by_cases h0 : s.2 = 0
  · rw [if_pos h0] at h ⊢
    by_cases h1 : s.1.length < n
    · rw [if_pos h1] at h; exact absurd h (by decide)
    · rw [if_neg h1]
      exact ⟨h0, (List.take_append_drop n s.1).symm, by show (s.1.take n).length = n; rw [List.length_take]; omega⟩
  · rw [if_neg h0] at h
    exact absurd h h0
theorem rNum_got {w : Int} {s : St} (h : (rNum w s).2.2 = 0) : s.2 = 0 ∧ s.1 = numE w (rNum w s).1 ++ (rNum w s).2.1 ∧ 0 ≤ (rNum w s).1 := by
  obtain ⟨h1, h2, h3⟩ := rTake_got (n := (wideI w).toNat) (s := s) h
  have e : numE w (rNum w s).1 = (rTake (wideI w).toNat s).1 := by
    show encN (wideI w).toNat (clampN (wideI w).toNat (bigNat (rTake (wideI w).toNat s).1 : Int)) = _
    rw [clamp_id _ _ (by have := bigNat_lt (rTake (wideI w).toNat s).1; rw [h3] at this; exact this)]
    conv => lhs; rw [← h3]
    rw [h3]
    have := encN_big (rTake (wideI w).toNat s).1
    rw [h3] at this
    exact this
  refine ⟨h1, by rw [e]; exact h2, ?_⟩
  show (0 : Int) ≤ (bigNat _ : Int)
  omega
theorem rBlob_got {s : St} (h : (rBlob 200 s).2.2 = 0) : s.2 = 0 ∧ s.1 = blobE (rBlob 200 s).1 ++ (rBlob 200 s).2.1 := by
  unfold rBlob at h ⊢
  simp only at h ⊢
  by_cases hb : (rNum 2 s).1 > max 200 0
  · rw [if_pos hb] at h
    exact absurd h (rFail_ne 11 _ (by decide))
  · rw [if_neg hb] at h ⊢
    obtain ⟨h1, h2, h3⟩ := rTake_got h
    obtain ⟨k1, k2, k3⟩ := rNum_got h1
    refine ⟨k1, ?_⟩
    rw [blobE_small _ (by omega), h3, List.append_assoc, ← h2, show (((rNum 2 s).1.toNat : Nat) : Int) = (rNum 2 s).1 by omega]
    exact k2
theorem tab_got {s : St} (h : (tabO s).2.2 = 0) : s.2 = 0 ∧ s.1 = blobE (packO (tabO s).1) ++ (tabO s).2.1 := by
  unfold tabO at h ⊢
  simp only at h ⊢
  by_cases h0 : (rBlob 200 s).2.2 = 0
  · rw [if_pos h0] at h ⊢
    obtain ⟨k1, k2⟩ := rBlob_got h0
    match hu : unpO (rBlob 200 s).1 with
    | none =>
      rw [hu] at h
      exact absurd h (rFail_ne 11 _ (by decide))
    | some y =>
      refine ⟨k1, ?_⟩
      show s.1 = blobE (packO y) ++ _
      rw [(unp_some _ y hu).2.1]
      exact k2
  · rw [if_neg h0] at h
    exact absurd h h0
theorem sn_got {s : St} (h : (rSn s).2.2 = 0) : s.2 = 0 ∧ s.1 = snB (rSn s).1 ++ (rSn s).2.1 := by
  unfold rSn at h ⊢
  obtain ⟨k1, k2⟩ := tab_got h
  obtain ⟨l1, l2, _⟩ := rNum_got k1
  obtain ⟨m1, m2, _⟩ := rNum_got l1
  refine ⟨m1, ?_⟩
  unfold snB
  rw [List.append_assoc, List.append_assoc]
  exact m2.trans (by rw [l2]; congr 2)
theorem snaps_got : ∀ (n : Nat) (s : St), (snapsR n s).2.2 = 0 → s.2 = 0 ∧ s.1 = (snapsR n s).1.flatMap snB ++ (snapsR n s).2.1 ∧ (snapsR n s).1.length = n
  | 0, s, h => ⟨h, rfl, rfl⟩
  | n + 1, s, h => by
    by_cases h0 : s.2 = 0
    · rw [snaps_succ _ _ h0] at h ⊢
      obtain ⟨k1, k2, k3⟩ := snaps_got n _ h
      obtain ⟨l1, l2⟩ := sn_got k1
      refine ⟨h0, ?_, by show (_ :: _ : List _).length = _; rw [List.length_cons, k3]⟩
      show s.1 = (_ :: _ : List _).flatMap snB ++ _
      rw [List.flatMap_cons, List.append_assoc, ← k2]
      exact l2
    · rw [snapsR_done _ _ h0] at h
      exact absurd h h0
theorem tail_got {s : St} (h : (rTail s).2.2 = 0) : s.2 = 0 ∧ s.1 = numE 1 ((rTail s).1.length : Nat) ++ ((rTail s).1.flatMap snB ++ (rTail s).2.1) := by
  unfold rTail at h ⊢
  obtain ⟨k1, k2, k3⟩ := snaps_got _ _ h
  have hc : cntR (rNum 1 s) = (rNum 1 s).2 := by
    unfold cntR
    split
    · rename_i hb
      unfold cntR at k1
      rw [if_pos hb] at k1
      exact absurd k1 (rFail_ne 11 _ (by decide))
    · rfl
  rw [hc] at k1 k2 k3 ⊢
  obtain ⟨l1, l2, l3⟩ := rNum_got k1
  refine ⟨l1, ?_⟩
  rw [k3, show (((rNum 1 s).1.toNat : Nat) : Int) = (rNum 1 s).1 by omega, ← k2]
  exact l2
theorem end_got {s : St} (h : (rEnd s).2 = 0) : s = ([], 0) := by
  obtain ⟨l, e⟩ := s
  unfold rEnd at h
  split at h
  · rename_i hl
    cases l with
    | nil => exact congrArg _ h
    | cons x l => exact absurd hl (by simp)
  · exact absurd h (rFail_ne 11 _ (by decide))
theorem read_got {b : List UInt8} (h : (unpRead b).2.2 = 0) : b = packB (unpRead b).1 ++ (unpRead b).2.1 := by
  have h0 : (rTail (rHead (b, 0))).2.2 = 0 := h
  obtain ⟨k1, k2⟩ := tail_got h0
  obtain ⟨t1, t2⟩ := tab_got k1
  obtain ⟨n6, m6, _⟩ := rNum_got t1
  obtain ⟨n5, m5, _⟩ := rNum_got n6
  obtain ⟨n4, m4, _⟩ := rNum_got n5
  obtain ⟨n3, m3, _⟩ := rNum_got n4
  obtain ⟨n2, m2, _⟩ := rNum_got n3
  obtain ⟨n1, m1, _⟩ := rNum_got n2
  unfold rHead at k2
  rw [k2] at t2
  rw [t2] at m6
  rw [m6] at m5
  rw [m5] at m4
  rw [m4] at m3
  rw [m3] at m2
  rw [m2] at m1
  rw [pack7]
  unfold headB7
  simp only [List.append_assoc]
  exact m1
theorem unp_back {b : List UInt8} (h : (unpP b).2 = 0) : packP (unpP b).1 = b ∧ mayP (unpP b).1 = true := by
  unfold unpP at h ⊢
  by_cases h0 : (rEnd (unpRead b).2).2 = 0
  · rw [if_pos h0] at h ⊢
    cases hm : mayP (unpRead b).1
    · rw [hm] at h; change (60 : Int) = 0 at h; exact absurd h (by decide)
    · rw [if_pos rfl]
      have e := end_got h0
      have hb := read_got (b := b) (by rw [e])
      rw [e, List.append_nil] at hb
      refine ⟨?_, hm⟩
      show packP (unpRead b).1 = b
      unfold packP
      rw [if_pos hm]
      exact hb.symm
  · rw [if_neg h0] at h
    exact absurd h h0
theorem unp_one {p : PH} (h : mayP p = true) : unpP (packP p) = (p, 0) := by
  have e := unp_yes h []
  rw [List.append_nil] at e
  unfold unpP packP
  rw [if_pos h, e]
  show (if mayP p = true then (p, (0 : Int)) else (zeroP, 60)) = (p, 0)
  rw [if_pos h]
theorem pack_pos (p : PH) : 0 < (packB p).length := by
  rw [pack7]
  unfold headB7
  have : (numE 1 p.u).length = 1 := by rw [numE_len]; rfl
  simp only [List.length_append]
  omega
theorem pack_small {p : PH} (h : mayP p = true) : 0 < (packP p).length ∧ (packP p).length ≤ 1000 := by
  have h0 := pack_pos p
  have h1 := headB_len p
  have h2 := flatS_len p.S
  have h3 := (mayP_of h).2.2.1
  unfold packP
  rw [if_pos h]
  refine ⟨h0, ?_⟩
  unfold packB
  rw [List.length_append]
  omega
theorem unp_less {p : PH} (h : mayP p = true) : unpP ((packP p).take ((packP p).length - 1)) = (zeroP, 10) := by
  have hl := pack_pos p
  have e := unp_cut h ((packB p).length - 1) (by omega)
  unfold packP
  rw [if_pos h]
  unfold unpP
  rw [e]
  rfl
theorem unp_more {p : PH} (h : mayP p = true) : unpP (packP p ++ [0]) = (zeroP, 11) := by
  have e := unp_yes h [0]
  unfold packP
  rw [if_pos h]
  unfold unpP
  rw [e]
  rfl
end Go.Proofs.Ytpgfhbkggchliaa
