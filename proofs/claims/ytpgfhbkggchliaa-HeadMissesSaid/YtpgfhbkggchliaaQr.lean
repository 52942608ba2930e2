/- Parts of the proof, joined: HfD. -/
import Derived.Test.YtpgfhbkggchliaaQq
/- The law HeadMisses: the walk. -/
namespace Go.Proofs.Ytpgfhbkggchliaa
open Go.RowKit
set_option linter.unusedVariables false

theorem any_take6 (z : Int) : ∀ (l : List Int) (j : Nat) (h : j < l.length), (l.take (j + 1)).any (· == z) = ((l.take j).any (· == z) || (l[j] == z)) := fun l j h => by
  rw [List.take_succ_eq_append_getElem h, List.any_append]
  simp
set_option maxRecDepth 100000 in
theorem in_any6 (D : Nat → Prop) (A : Option Addr) (c : Nat) (l : List Int) (n : Int) (w : World) (h : RdI w D A l) (hc : l.length ≤ 9223372036854775807) :
    Calls Try.prog 32 #[.slice A l.length c, .int .i64 n] w fun e w' => e = .returned (.bool (l.any (· == n))) ∧ w = w' := by
  go_enter Try.func32, Try.ntmps32
  go_wp2_with fail
  go_loopw [5] (fun i wr => ∃ j : Nat, j ≤ l.length ∧ i = .int .i64 (j : Int) ∧ (l.take j).any (· == n) = false ∧ w = wr) (fun i _ => l.length - (intOf i).toNat)
  case atStart => exact ⟨0, Nat.zero_le _, rfl, rfl, rfl⟩
  case round =>
    obtain ⟨j, hj, rfl, hp, rfl⟩ := hrel
    have HP := Lib.hid hp
    clear hp
    by_cases hlt : j < l.length
    · obtain ⟨ad, rfl, _, hcell⟩ := h.at_ hlt
      have HT : Hid ((l[j] == n) = false → (l.take (j + 1)).any (· == n) = false) := fun hb => by
        rw [any_take6 _ _ _ hlt, HP.out, hb]; rfl
      have HA : Hid ((l[j] == n) = true → l.any (· == n) = true) := fun hb => List.any_eq_true.2 ⟨_, List.getElem_mem hlt, hb⟩
      generalize l[j] = z at *
      cases hb : (z == n)
      · have HN := Lib.hid (HT.out hb)
        clear HT HA
        go_wp2_with fail
        go_roundw
        case rel => exact ⟨j + 1, by omega, by go_num, HN.out, trivial⟩
        case measure => simp [intOf] <;> omega
      · have HN := Lib.hid (HA.out hb)
        clear HT HA
        go_wp2_with fail
        go_ret
        exact ⟨by rw [HN.out] <;> rfl, rfl⟩
    · obtain rfl : j = l.length := by omega
      have hp := HP.out
      rw [List.take_of_length_le (Nat.le_refl _)] at hp
      have HN := Lib.hid hp
      clear hp
      go_wp2_with fail
      go_ret
      exact ⟨by rw [HN.out] <;> rfl, rfl⟩
theorem miss_facts {p : PH} {fr gone : Int} (h1 : (diffP p fr 0).2 = 0) (h2 : (dropP p gone).2 = 0) : mayP p = true ∧ ∃ a k : Nat, findO (idsP p.S) fr = (a : Int) ∧ findO (idsP p.S) gone = (k : Int) ∧ dropP p gone = (dropAt p k, 0) := by
  have hm : mayP p = true := by
    cases hm : mayP p
    · unfold dropP at h2; rw [hm] at h2; change (60 : Int) = 0 at h2; exact absurd h2 (by decide)
    · rfl
  have ha : ¬ findO (idsP p.S) fr < 0 := fun h => by
    unfold diffP at h1; rw [if_pos hm, if_pos (.inl h)] at h1; exact absurd h1 (by decide)
  have hk : ¬ findO (idsP p.S) gone < 0 := fun h => by
    unfold dropP at h2; rw [if_pos hm, if_pos h] at h2; exact absurd h2 (by decide)
  refine ⟨hm, (findO (idsP p.S) fr).toNat, (findO (idsP p.S) gone).toNat, by omega, by omega, ?_⟩
  unfold dropP
  rw [if_pos hm, if_neg hk]
theorem any_mem6 {l : List Int} {z : Int} : l.any (· == z) = true ↔ z ∈ l := by
  rw [List.any_eq_true]
  constructor
  · rintro ⟨x, hx, e⟩
    obtain rfl := of_decide_eq_true (show decide (x = z) = true by simpa using e)
    exact hx
  · intro h
    exact ⟨z, h, by simp⟩

set_option maxHeartbeats 8000000 in
set_option maxRecDepth 100000 in
theorem misses_walk (D : Nat → Prop) (h : HdV) (fr gone : Int) (w : World) (hr : HdR w D h) :
    Calls Try.prog 9 #[hdV h, .int .i64 fr, .int .i64 gone] w fun e w' => e = .returned (.bool true) ∧ Below w.heap.size w w' := by
  have bb := below_new w (.cells (hdA h) 27)
  have hB := Blk.new w 27 (hdA h)
  have hr := hr.below bb
  have hv : hdV h = .agg (hdA h) := rfl
  have hfw := fun W hr => few_any D h W hr
  have hc1 := fun (W : World) (hr : HdR W D h) => Diff_any6 D h fr 0 W hr
  have hc2 := fun (W : World) (hr : HdR W D h) => Drop_any6 D h gone W hr
  have hfa := fun (W : World) (hr : HdR W D h) => rFind_any D h fr W hr
  have hfb := fun (W : World) (hr : HdR W D h) => rFind_any D h gone W hr
  have e4 : (hdA h)[4]? = some (.slice h.MA h.m.length h.mc) := rfl
  have e5 : (hdA h)[5]? = some (.slice h.SA h.S.length h.sc) := rfl
  rw [hv] at hfw hc1 hc2 hfa hfb ⊢
  generalize hA : hdA h = cs at *
  have h8 : cs.size = 8 := by rw [← hA]; rfl
  clear hA hv
  go_enter Try.func9, Try.ntmps9
  go_wp2_with fail
  refine (awake_any6 _).mono ?_
  rintro e w1 ⟨rfl, b1⟩
  have hB := hB.below b1
  have hr := hr.below b1
  have bb := bb.thenB' b1
  clear b1
  go_wp2_with first
    | (with_reducible show wpList _ _ _ _ _ _
       refine wpList_load_row rfl 27 (.tmp 3) rfl w.heap.size rfl 27 cs (0, 0) _ hB Try.underlying27 rfl (by rw [h8]; exact infoH) ?_)
  refine (hfw _ hr).mono ?_
  clear hfw
  rintro e w2 ⟨rfl, b2⟩
  have hB := hB.below b2
  have hr := hr.below b2
  have bb := bb.thenB' b2
  clear b2
  cases hf : fewO h
  focus
    go_wp2_with fail
    go_ret
    exact ⟨rfl, bb⟩
  by_cases hge : gone ≤ fr
  focus
    go_wp2_with fail
    go_ret
    exact ⟨rfl, bb⟩
  by_cases hbad : ¬ ((diffP h.p fr 0).2 = 0 ∧ (dropP h.p gone).2 = 0)
  focus
    generalize diffP h.p fr 0 = d1 at *
    generalize dropP h.p gone = d2 at *
    obtain ⟨C1, x⟩ := d1
    obtain ⟨p2, y⟩ := d2
    dsimp only at hbad hc1 hc2
    go_wp2_with first
      | (with_reducible show wpList _ _ _ _ _ _
         refine wpList_load_row rfl 27 (.tmp 3) rfl w.heap.size rfl 27 cs (0, 0) _ hB Try.underlying27 rfl (by rw [h8]; exact infoH) ?_)
    refine (hc1 _ hr).mono ?_
    clear hc1
    rintro e x1 ⟨v1, rfl, o1, b1⟩
    have hB := hB.below b1
    have hr := hr.below b1
    have bb := bb.thenB' b1
    obtain ⟨A1, k1, rfl, l1, kk1⟩ := OwnI.form o1
    go_wp2_with first
      | (with_reducible show wpList _ _ _ _ _ _
         refine wpList_load_row rfl 27 (.tmp 3) rfl w.heap.size rfl 27 cs (0, 0) _ hB Try.underlying27 rfl (by rw [h8]; exact infoH) ?_)
    refine (hc2 _ hr).mono ?_
    clear hc2
    rintro e x2 ⟨h2, rfl, hp2, hr2, b2⟩
    have hB := hB.below b2
    have hr := hr.below b2
    have bb := bb.thenB' b2
    have o1 := OwnI.below o1 b2
    by_cases hx : x = 0
    focus
      subst hx
      have hy : y ≠ 0 := fun h => hbad ⟨rfl, h⟩
      have hy1 : (y == 0) = false := by simp [hy]
      have hy2 : (y != 0) = true := by simp [hy]
      clear hbad
      rw [show hdV h2 = .agg (hdA h2) from rfl]
      have q2 := hd8 h2
      have a2 := hdA_ok h2
      generalize hA2 : hdA h2 = c2 at *
      have hz2 := Blk.new x2 27 z8
      unfold z8 at hz2
      go_wp2_with first
        | (with_reducible show wpList _ _ _ _ _ _
           refine wpList_rowB rfl 27 (.tmp 11) (.tmp 43) rfl x2.heap.size 27 _ c2 rfl rfl hz2 (by rw [q2]; exact infoH) (by rw [q2]; rfl) a2 ?_
           intro y2 hy2 m2
           obtain ⟨K2, n2⟩ := HdX.new hr2 hy2 hA2 m2
           have hB := hB.below n2
           have hr := hr.below n2
           have bb := bb.thenB' n2
           have o1 := OwnI.below o1 n2)
      go_ret
      exact ⟨rfl, bb⟩
    have hx1 : (x == 0) = false := by simp [hx]
    have hx2 : (x != 0) = true := by simp [hx]
    clear hbad
    rw [show hdV h2 = .agg (hdA h2) from rfl]
    have q2 := hd8 h2
    have a2 := hdA_ok h2
    generalize hA2 : hdA h2 = c2 at *
    have hz2 := Blk.new x2 27 z8
    unfold z8 at hz2
    go_wp2_with first
      | (with_reducible show wpList _ _ _ _ _ _
         refine wpList_rowB rfl 27 (.tmp 11) (.tmp 43) rfl x2.heap.size 27 _ c2 rfl rfl hz2 (by rw [q2]; exact infoH) (by rw [q2]; rfl) a2 ?_
         intro y2 hy2 m2
         obtain ⟨K2, n2⟩ := HdX.new hr2 hy2 hA2 m2
         have hB := hB.below n2
         have hr := hr.below n2
         have bb := bb.thenB' n2
         have o1 := OwnI.below o1 n2)
    go_ret
    exact ⟨rfl, bb⟩
  obtain ⟨hx, hy⟩ := Decidable.not_not.1 hbad
  obtain ⟨hm, a, k, ha, hk, ed⟩ := miss_facts hx hy
  clear hx hy hbad
  obtain ⟨M, haL, hkL⟩ := misses hm (Int.not_le.1 hge) ha hk
  rw [show h.p.S.length = h.S.length from pure_len _] at haL hkL
  rw [← show idsO h.S = idsP h.p.S from ids_p h.S] at ha hk
  rw [ha] at hfa
  rw [hk] at hfb
  rw [M.was] at hc1
  rw [ed] at hc2
  have F1 := Lib.hid M.now
  have F2 := Lib.hid M.less
  have F3 : Hid (∀ z ∈ changedO (mapAt h.p.S a) ((mapsP h.p).drop (a + 1)), (changedO (mapAt h.p.S a) ((mapsP (dropAt h.p k)).drop (a + 1))).any (· == z) = false → (gO (mapAt h.p.S a) z ≠ 0 → gO (mapAt h.p.S k) z = 0) ∧ (gO (mapAt h.p.S a) z = 0 → gO h.m z = 0)) := fun z hz hn => M.gone z hz (fun hc => by rw [any_mem6.2 hc] at hn; cases hn)
  have F4 : Hid ((changedO (mapAt h.p.S a) ((mapsP (dropAt h.p k)).drop (a + 1))).length ≤ 9223372036854775807) := Nat.le_trans (changed_big _ _) (by unfold big; omega)
  have F6 : Hid ((changedO (mapAt h.p.S a) ((mapsP h.p).drop (a + 1))).length ≤ 9223372036854775807) := Nat.le_trans (changed_big _ _) (by unfold big; omega)
  clear M hm ed ha hk
  generalize changedO (mapAt h.p.S a) ((mapsP h.p).drop (a + 1)) = C1 at *
  generalize changedO (mapAt h.p.S a) ((mapsP (dropAt h.p k)).drop (a + 1)) = C2 at *
  obtain ⟨ad, eA, _⟩ := hr.2.2.2.1.sn haL
  rw [eA] at e5
  obtain ⟨sa, hsa, esa⟩ : ∃ s : SnV, (∀ W, HdR W D h → W.cell? ⟨(ad.add (a * 3)).block, (ad.add (a * 3)).off + 2, none⟩ = some (.slice s.A s.m.length s.c) ∧ RdI W D s.A s.m) ∧ mapAt h.p.S a = s.m := by
    refine ⟨h.S[a], fun W K => ⟨?_, (K.2.2.2.2.2.2 _ (List.getElem_mem haL)).1⟩, by show (List.getD (pureS h.S) a _).2.2 = _; rw [pure_getD h.S a haL]⟩
    obtain ⟨ad', eA', _, _, d⟩ := K.2.2.2.1.sn haL
    rw [eA] at eA'
    injection eA' with eA'
    rw [eA']
    exact d
  obtain ⟨sk, hsk, esk⟩ : ∃ s : SnV, (∀ W, HdR W D h → W.cell? ⟨(ad.add (k * 3)).block, (ad.add (k * 3)).off + 2, none⟩ = some (.slice s.A s.m.length s.c) ∧ RdI W D s.A s.m) ∧ mapAt h.p.S k = s.m := by
    refine ⟨h.S[k], fun W K => ⟨?_, (K.2.2.2.2.2.2 _ (List.getElem_mem hkL)).1⟩, by show (List.getD (pureS h.S) k _).2.2 = _; rw [pure_getD h.S k hkL]⟩
    obtain ⟨ad', eA', _, _, d⟩ := K.2.2.2.1.sn hkL
    rw [eA] at eA'
    injection eA' with eA'
    rw [eA']
    exact d
  rw [esa, esk] at F3
  have F5 := F3
  clear F3 esa esk
  have haI : (a : Int) < (h.S.length : Int) := by omega
  have hkI : (k : Int) < (h.S.length : Int) := by omega
  go_wp2_with first
    | (with_reducible show wpList _ _ _ _ _ _
       refine wpList_load_row rfl 27 (.tmp 3) rfl w.heap.size rfl 27 cs (0, 0) _ hB Try.underlying27 rfl (by rw [h8]; exact infoH) ?_)
  refine (hc1 _ hr).mono ?_
  clear hc1
  rintro e x1 ⟨v1, rfl, o1, b1⟩
  have hB := hB.below b1
  have hr := hr.below b1
  have bb := bb.thenB' b1
  obtain ⟨A1, k1, rfl, l1, kk1⟩ := OwnI.form o1
  go_wp2_with first
    | (with_reducible show wpList _ _ _ _ _ _
       refine wpList_load_row rfl 27 (.tmp 3) rfl w.heap.size rfl 27 cs (0, 0) _ hB Try.underlying27 rfl (by rw [h8]; exact infoH) ?_)
  refine (hc2 _ hr).mono ?_
  clear hc2
  rintro e x2 ⟨h2, rfl, hp2, hr2, b2⟩
  have hB := hB.below b2
  have hr := hr.below b2
  have bb := bb.thenB' b2
  have o1 := OwnI.below o1 b2
  have hx2 : w.heap.size < x2.heap.size := hB.lt
  rw [show hdV h2 = .agg (hdA h2) from rfl]
  have q2 := hd8 h2
  have a2 := hdA_ok h2
  generalize hA2 : hdA h2 = c2 at *
  have hz2 := Blk.new x2 27 z8
  unfold z8 at hz2
  go_wp2_with first
    | (with_reducible show wpList _ _ _ _ _ _
       refine wpList_rowB rfl 27 (.tmp 11) (.tmp 43) rfl x2.heap.size 27 _ c2 rfl rfl hz2 (by rw [q2]; exact infoH) (by rw [q2]; rfl) a2 ?_
       intro y2 hy2 m2
       obtain ⟨K2, n2⟩ := HdX.new hr2 hy2 hA2 m2
       have hB := hB.below n2
       have hr := hr.below n2
       have bb := bb.thenB' n2
       have o1 := OwnI.below o1 n2)
    | (with_reducible show wpList _ _ _ _ _ _
       refine wpList_load_row rfl 27 (.tmp 11) rfl x2.heap.size rfl 27 c2 (0, 0) _ K2.B Try.underlying27 rfl (by rw [q2]; exact infoH) ?_)
  have hdf := fun (W : World) (K : HdX W x2.heap.size c2 h2) => Diff_any6 _ h2 fr 0 W K.rd
  rw [hp2, F1.out] at hdf
  rw [show hdV h2 = .agg c2 from K2.v] at hdf
  refine (hdf _ K2).mono ?_
  clear hdf F1
  rintro e w3 ⟨v3, rfl, o3, b3⟩
  have hB := hB.below b3
  have hr := hr.below b3
  have bb := bb.thenB' b3
  have o1 := OwnI.below o1 b3
  clear K2 hr2 hp2
  obtain ⟨A3, k3, rfl, l3, kk3⟩ := OwnI.form o3
  go_wp2_with fail
  go_loopw [15] (fun i wr => ∃ j : Nat, j ≤ C2.length ∧ i = .int .i64 (j : Int) ∧ w3 = wr) (fun i _ => C2.length - (intOf i).toNat)
  case atStart => exact ⟨0, Nat.zero_le _, rfl, rfl⟩
  case round =>
    obtain ⟨j, hj, rfl, rfl⟩ := hrel
    by_cases hlt : j < C2.length
    · have r3 := o3.rd
      have B2 := F4.out
      obtain ⟨ad3, rfl, _, hcell⟩ := r3.at_ hlt
      have hin := in_any6 _ A1 k1 C1 C2[j] _ o1.rd F6.out
      rw [any_mem6.2 (F2.out _ (List.getElem_mem hlt))] at hin
      generalize C2[j] = z at *
      go_wp2_with fail
      refine hin.mono ?_
      clear hin
      rintro e x ⟨rfl, rfl⟩
      go_wp2_with fail
      go_roundw
      case rel => exact ⟨j + 1, by omega, by go_num, trivial⟩
      case measure => simp [intOf] <;> omega
    · obtain rfl : j = C2.length := by omega
      have d5 := hB.cell 5
      rw [e5] at d5
      clear F2 hlt hj
      go_wp2_with fail
      refine r_start (R := RB) (by rfl) (n := 9) (L := #[false, false, false, false, false, false, false, false, false]) rfl rfl ?_
      have bd : Below w3.heap.size w3 w3.drew := (Below.refl _ _).drew
      have hB := hB.below bd
      have hr := hr.below bd
      have o1 := OwnI.below o1 bd
      have o3 := OwnI.below o3 bd
      have bb := bb.thenB' bd
      clear bd
      generalize w3.drew = wd19 at *
      refine r_flt RB_refl 0 72 #[true, false, false, false, false, false, false, false, false] (by simp only [List.getElem?_toArray, List.getElem?_cons_zero]; rfl) (by rfl) (by kernel_rfl) (by kernel_rfl) (by kernel_rfl) (fun _ _ _ _ h => h) rfl (by rfl) ?_
      apply Exists.intro
      apply And.intro
      · intro W hW
        first | (go_simp; with_reducible rfl) | go_simp
      (try simp only [Act.put, List.setIfInBounds_toArray]); (try simp only [List.set_cons_succ]); (try simp only [List.set_cons_zero])
      refine r_flt RB_refl 1 73 #[true, true, false, false, false, false, false, false, false] (by simp only [List.getElem?_toArray, List.getElem?_cons_succ, List.getElem?_cons_zero]; rfl) (by rfl) (by kernel_rfl) (by kernel_rfl) (by kernel_rfl) (fun _ _ _ _ h => h) rfl (by rfl) ?_
      apply Exists.intro
      apply And.intro
      · intro W hW
        have d5 := (hB.below hW).cell 5
        rw [e5] at d5
        first | (go_simp; with_reducible rfl) | go_simp
      (try simp only [Act.put, List.setIfInBounds_toArray]); (try simp only [List.set_cons_succ]); (try simp only [List.set_cons_zero])
      refine r_flt RB_refl 2 74 #[true, true, true, false, false, false, false, false, false] (by simp only [List.getElem?_toArray, List.getElem?_cons_succ, List.getElem?_cons_zero]; rfl) (by rfl) (by kernel_rfl) (by kernel_rfl) (by kernel_rfl) (fun _ _ _ _ h => h) rfl (by rfl) ?_
      apply Exists.intro
      apply And.intro
      · intro W hW
        exact exec_load_row rfl rfl (hB.below hW) Try.underlying27 (by rw [h8]; exact infoH)
      (try simp only [Act.put, List.setIfInBounds_toArray]); (try simp only [List.set_cons_succ]); (try simp only [List.set_cons_zero])
      refine r_flt RB_refl 3 75 #[true, true, true, true, false, false, false, false, false] (by simp only [List.getElem?_toArray, List.getElem?_cons_succ, List.getElem?_cons_zero]; rfl) (by rfl) (by kernel_rfl) (by kernel_rfl) (by kernel_rfl) (fun _ _ _ _ h => h) rfl (by rfl) ?_
      apply Exists.intro
      apply And.intro
      · intro W hW
        first | (go_simp; with_reducible rfl) | go_simp
      (try simp only [Act.put, List.setIfInBounds_toArray]); (try simp only [List.set_cons_succ]); (try simp only [List.set_cons_zero])
      refine r_one RB_trans 4 (by kernel_rfl) ?_
      refine alt_call 76 #[true, true, true, true, true, false, false, false, false] (by simp only [List.getElem?_toArray, List.getElem?_cons_succ, List.getElem?_cons_zero]; rfl) (by rfl) rfl (by rfl) (by go_simp; first | exact ⟨rfl, rfl⟩ | rfl) ?_
      with_reducible refine (hfa _ hr).mono ?_
      rintro e' w19 ⟨rfl, b9⟩
      refine ⟨_, rfl, b9, ?_⟩
      have hB := hB.below b9
      have hr := hr.below b9
      have o1 := OwnI.below o1 b9
      have o3 := OwnI.below o3 b9
      have bb := bb.thenB' b9
      clear b9
      (try simp only [Act.put, List.setIfInBounds_toArray]); (try simp only [List.set_cons_succ]); (try simp only [List.set_cons_zero])
      refine r_flt RB_refl 5 77 #[true, true, true, true, true, true, false, false, false] (by simp only [List.getElem?_toArray, List.getElem?_cons_succ, List.getElem?_cons_zero]; rfl) (by rfl) (by kernel_rfl) (by kernel_rfl) (by kernel_rfl) (fun _ _ _ _ h => h) rfl (by rfl) ?_
      apply Exists.intro
      apply And.intro
      · intro W hW
        first | (go_simp; with_reducible rfl) | go_simp
      (try simp only [Act.put, List.setIfInBounds_toArray]); (try simp only [List.set_cons_succ]); (try simp only [List.set_cons_zero])
      refine r_flt RB_refl 6 78 #[true, true, true, true, true, true, true, false, false] (by simp only [List.getElem?_toArray, List.getElem?_cons_succ, List.getElem?_cons_zero]; rfl) (by rfl) (by kernel_rfl) (by kernel_rfl) (by kernel_rfl) (fun _ _ _ _ h => h) rfl (by rfl) ?_
      apply Exists.intro
      apply And.intro
      · intro W hW
        first | (go_simp; with_reducible rfl) | go_simp
      (try simp only [Act.put, List.setIfInBounds_toArray]); (try simp only [List.set_cons_succ]); (try simp only [List.set_cons_zero])
      refine r_flt RB_refl 7 79 #[true, true, true, true, true, true, true, true, false] (by simp only [List.getElem?_toArray, List.getElem?_cons_succ, List.getElem?_cons_zero]; rfl) (by rfl) (by kernel_rfl) (by kernel_rfl) (by kernel_rfl) (fun _ _ _ _ h => h) rfl (by rfl) ?_
      apply Exists.intro
      apply And.intro
      · intro W hW
        have d2 := (hsa _ (hr.below hW)).1
        first | (go_simp; with_reducible rfl) | go_simp
      (try simp only [Act.put, List.setIfInBounds_toArray]); (try simp only [List.set_cons_succ]); (try simp only [List.set_cons_zero])
      refine r_flt RB_refl 8 16 #[true, true, true, true, true, true, true, true, true] (by simp only [List.getElem?_toArray, List.getElem?_cons_succ, List.getElem?_cons_zero]; rfl) (by rfl) (by kernel_rfl) (by kernel_rfl) (by kernel_rfl) (fun _ _ _ _ h => h) rfl (by rfl) ?_
      apply Exists.intro
      apply And.intro
      · intro W hW
        first | (go_simp; with_reducible rfl) | go_simp
      (try simp only [Act.put, List.setIfInBounds_toArray]); (try simp only [List.set_cons_succ]); (try simp only [List.set_cons_zero])
      refine r_done (by kernel_rfl) ?_
      have d5 := hB.cell 5
      rw [e5] at d5
      clear hfa
      go_wp2_with fail
      refine r_start (R := RB) (by rfl) (n := 9) (L := #[false, false, false, false, false, false, false, false, false]) rfl rfl ?_
      have bd : Below w19.heap.size w19 w19.drew := (Below.refl _ _).drew
      have hB := hB.below bd
      have hr := hr.below bd
      have o1 := OwnI.below o1 bd
      have o3 := OwnI.below o3 bd
      have bb := bb.thenB' bd
      clear bd
      generalize w19.drew = wd20 at *
      refine r_flt RB_refl 0 80 #[true, false, false, false, false, false, false, false, false] (by simp only [List.getElem?_toArray, List.getElem?_cons_zero]; rfl) (by rfl) (by kernel_rfl) (by kernel_rfl) (by kernel_rfl) (fun _ _ _ _ h => h) rfl (by rfl) ?_
      apply Exists.intro
      apply And.intro
      · intro W hW
        first | (go_simp; with_reducible rfl) | go_simp
      (try simp only [Act.put, List.setIfInBounds_toArray]); (try simp only [List.set_cons_succ]); (try simp only [List.set_cons_zero])
      refine r_flt RB_refl 1 81 #[true, true, false, false, false, false, false, false, false] (by simp only [List.getElem?_toArray, List.getElem?_cons_succ, List.getElem?_cons_zero]; rfl) (by rfl) (by kernel_rfl) (by kernel_rfl) (by kernel_rfl) (fun _ _ _ _ h => h) rfl (by rfl) ?_
      apply Exists.intro
      apply And.intro
      · intro W hW
        have d5 := (hB.below hW).cell 5
        rw [e5] at d5
        first | (go_simp; with_reducible rfl) | go_simp
      (try simp only [Act.put, List.setIfInBounds_toArray]); (try simp only [List.set_cons_succ]); (try simp only [List.set_cons_zero])
      refine r_flt RB_refl 2 82 #[true, true, true, false, false, false, false, false, false] (by simp only [List.getElem?_toArray, List.getElem?_cons_succ, List.getElem?_cons_zero]; rfl) (by rfl) (by kernel_rfl) (by kernel_rfl) (by kernel_rfl) (fun _ _ _ _ h => h) rfl (by rfl) ?_
      apply Exists.intro
      apply And.intro
      · intro W hW
        exact exec_load_row rfl rfl (hB.below hW) Try.underlying27 (by rw [h8]; exact infoH)
      (try simp only [Act.put, List.setIfInBounds_toArray]); (try simp only [List.set_cons_succ]); (try simp only [List.set_cons_zero])
      refine r_flt RB_refl 3 83 #[true, true, true, true, false, false, false, false, false] (by simp only [List.getElem?_toArray, List.getElem?_cons_succ, List.getElem?_cons_zero]; rfl) (by rfl) (by kernel_rfl) (by kernel_rfl) (by kernel_rfl) (fun _ _ _ _ h => h) rfl (by rfl) ?_
      apply Exists.intro
      apply And.intro
      · intro W hW
        first | (go_simp; with_reducible rfl) | go_simp
      (try simp only [Act.put, List.setIfInBounds_toArray]); (try simp only [List.set_cons_succ]); (try simp only [List.set_cons_zero])
      refine r_one RB_trans 4 (by kernel_rfl) ?_
      refine alt_call 84 #[true, true, true, true, true, false, false, false, false] (by simp only [List.getElem?_toArray, List.getElem?_cons_succ, List.getElem?_cons_zero]; rfl) (by rfl) rfl (by rfl) (by go_simp; first | exact ⟨rfl, rfl⟩ | rfl) ?_
      with_reducible refine (hfb _ hr).mono ?_
      rintro e' w20 ⟨rfl, b9⟩
      refine ⟨_, rfl, b9, ?_⟩
      have hB := hB.below b9
      have hr := hr.below b9
      have o1 := OwnI.below o1 b9
      have o3 := OwnI.below o3 b9
      have bb := bb.thenB' b9
      clear b9
      (try simp only [Act.put, List.setIfInBounds_toArray]); (try simp only [List.set_cons_succ]); (try simp only [List.set_cons_zero])
      refine r_flt RB_refl 5 85 #[true, true, true, true, true, true, false, false, false] (by simp only [List.getElem?_toArray, List.getElem?_cons_succ, List.getElem?_cons_zero]; rfl) (by rfl) (by kernel_rfl) (by kernel_rfl) (by kernel_rfl) (fun _ _ _ _ h => h) rfl (by rfl) ?_
      apply Exists.intro
      apply And.intro
      · intro W hW
        first | (go_simp; with_reducible rfl) | go_simp
      (try simp only [Act.put, List.setIfInBounds_toArray]); (try simp only [List.set_cons_succ]); (try simp only [List.set_cons_zero])
      refine r_flt RB_refl 6 86 #[true, true, true, true, true, true, true, false, false] (by simp only [List.getElem?_toArray, List.getElem?_cons_succ, List.getElem?_cons_zero]; rfl) (by rfl) (by kernel_rfl) (by kernel_rfl) (by kernel_rfl) (fun _ _ _ _ h => h) rfl (by rfl) ?_
      apply Exists.intro
      apply And.intro
      · intro W hW
        first | (go_simp; with_reducible rfl) | go_simp
      (try simp only [Act.put, List.setIfInBounds_toArray]); (try simp only [List.set_cons_succ]); (try simp only [List.set_cons_zero])
      refine r_flt RB_refl 7 87 #[true, true, true, true, true, true, true, true, false] (by simp only [List.getElem?_toArray, List.getElem?_cons_succ, List.getElem?_cons_zero]; rfl) (by rfl) (by kernel_rfl) (by kernel_rfl) (by kernel_rfl) (fun _ _ _ _ h => h) rfl (by rfl) ?_
      apply Exists.intro
      apply And.intro
      · intro W hW
        have d2 := (hsk _ (hr.below hW)).1
        first | (go_simp; with_reducible rfl) | go_simp
      (try simp only [Act.put, List.setIfInBounds_toArray]); (try simp only [List.set_cons_succ]); (try simp only [List.set_cons_zero])
      refine r_flt RB_refl 8 17 #[true, true, true, true, true, true, true, true, true] (by simp only [List.getElem?_toArray, List.getElem?_cons_succ, List.getElem?_cons_zero]; rfl) (by rfl) (by kernel_rfl) (by kernel_rfl) (by kernel_rfl) (fun _ _ _ _ h => h) rfl (by rfl) ?_
      apply Exists.intro
      apply And.intro
      · intro W hW
        first | (go_simp; with_reducible rfl) | go_simp
      (try simp only [Act.put, List.setIfInBounds_toArray]); (try simp only [List.set_cons_succ]); (try simp only [List.set_cons_zero])
      refine r_done (by kernel_rfl) ?_
      go_wp2_with fail
      go_loopw [18, 19, 20] (fun i s19 s20 wr => ∃ j : Nat, j ≤ C1.length ∧ i = .int .i64 (j : Int) ∧ w20 = wr) (fun i _ _ _ => C1.length - (intOf i).toNat)
      case atStart => exact ⟨0, Nat.zero_le _, rfl, rfl⟩
      case round =>
        obtain ⟨j, hj, rfl, rfl⟩ := hrel
        have d4 := hB.cell 4
        rw [e4] at d4
        have r1 := o1.rd
        have r3 := o3.rd
        have rm := hr.1
        have ra := (hsa _ hr).2
        have rk := (hsk _ hr).2
        by_cases hlt : j < C1.length
        · have B1 := F6.out
          obtain ⟨ad1, rfl, _, hcell⟩ := r1.at_ hlt
          have G := Lib.hid (F5.out _ (List.getElem_mem hlt))
          generalize C1[j] = z at *
          have hin := in_any6 _ A3 k3 C2 z _ r3 F4.out
          have hg1 := rGet_any _ sa.A sa.c sa.m z _ ra
          have hg2 := rGet_any _ sk.A sk.c sk.m z _ rk
          have hg3 := rGet_any _ h.MA h.mc h.m z _ rm
          cases hb : C2.any (· == z)
          · rw [hb] at hin
            have G2 := G.out hb
            clear G
            generalize gO sa.m z = g1 at *
            generalize gO sk.m z = g2 at *
            generalize gO h.m z = g3 at *
            by_cases h0 : g1 = 0
            · subst h0
              obtain rfl := G2.2 rfl
              clear G2 hg2
              go_wp2_with fail
              refine hin.mono ?_
              clear hin
              rintro e x ⟨rfl, rfl⟩
              go_wp2_with fail
              refine hg1.mono ?_
              clear hg1
              rintro e x ⟨rfl, rfl⟩
              go_wp2_with fail
              refine hg3.mono ?_
              clear hg3
              rintro e x ⟨rfl, rfl⟩
              go_wp2_with fail
              go_roundw
              case rel => exact ⟨j + 1, by omega, by go_num, trivial⟩
              case measure => simp [intOf] <;> omega
            · obtain rfl := G2.1 h0
              clear G2 hg3
              have n1 : (g1 == 0) = false := by simp [h0]
              have n2 : (g1 != 0) = true := by simp [h0]
              go_wp2_with fail
              refine hin.mono ?_
              clear hin
              rintro e x ⟨rfl, rfl⟩
              go_wp2_with fail
              refine hg1.mono ?_
              clear hg1
              rintro e x ⟨rfl, rfl⟩
              go_wp2_with fail
              refine hg2.mono ?_
              clear hg2
              rintro e x ⟨rfl, rfl⟩
              go_wp2_with fail
              go_roundw
              case rel => exact ⟨j + 1, by omega, by go_num, trivial⟩
              case measure => simp [intOf] <;> omega
          · rw [hb] at hin
            clear G hg1 hg2 hg3
            go_wp2_with fail
            refine hin.mono ?_
            clear hin
            rintro e x ⟨rfl, rfl⟩
            go_wp2_with fail
            go_roundw
            case rel => exact ⟨j + 1, by omega, by go_num, trivial⟩
            case measure => simp [intOf] <;> omega
        · obtain rfl : j = C1.length := by omega
          go_wp2_with fail
          go_ret
          exact ⟨rfl, bb⟩
theorem misses_fr (W : World) (h : HdV) (r : HdR W (Old W) h) (_ : HdI h) (a : Int) (ia : I64 a) (b : Int) (ib : I64 b) :
    Calls Try.prog 9 #[hdV h, .int .i64 a, .int .i64 b] W fun e w' => e = .returned (.bool true) ∧ Below W.heap.size W w' := misses_walk (Old W) h a b W r
end Go.Proofs.Ytpgfhbkggchliaa
