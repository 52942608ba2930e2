/- Parts of the proof, joined: PsU PsV PsW PsX. -/
import Derived.Test.YthkeoimjjgmppaaDoorQp
import Derived.Test.YthkeoimjjgmppaaDoorQq
/- The past: whether each commit is a record's: the document. -/
namespace Go.Proofs.YthkeoimjjgmppaaDoor
open Go.RowKit
set_option linter.unusedVariables false
set_option maxRecDepth 100000

def fnd (o : Option Nat) (k : Nat) : Int := match o with
  | none => -1
  | some f => ((f + k : Nat) : Int)
theorem fnd_map (o : Option Nat) (k : Nat) : fnd o (k + 1) = fnd (o.map (· + 1)) k := by
  cases o with
  | none => rfl
  | some f => show ((f + (k + 1) : Nat) : Int) = ((f + 1 + k : Nat) : Int); congr 1; omega
theorem free_lt (c : PC) : ∀ (rs : List PR) (t : List Bool) (k : Nat), freeO c rs t = some k → k < rs.length ∧ k < t.length
  | [], t, k, h => by cases t <;> cases h
  | r :: rs, [], k, h => by cases h
  | r :: rs, t :: ts, k, h => by
    unfold freeO at h
    split at h
    · injection h with h
      subst h
      exact ⟨Nat.succ_pos _, Nat.succ_pos _⟩
    · cases hf : freeO c rs ts with
      | none => rw [hf] at h; cases h
      | some j =>
        rw [hf] at h
        injection h with h
        obtain ⟨h1, h2⟩ := free_lt c rs ts j hf
        subst h
        exact ⟨Nat.succ_lt_succ h1, Nat.succ_lt_succ h2⟩
set_option maxHeartbeats 8000000 in
theorem rOwned_any (D D' : Nat → Prop) (A A' : Option Addr) (c c' : Nat) (L : List CmV) (R : List RcV) (w : World) (hL : CmsR w D A c L) (hR : RcsR w D' A' c' R) (hn : R.length ≤ 1000) :
    Calls Tryd.prog 21 #[.slice A L.length c, .slice A' R.length c'] w fun e w' => e = .returned (.bool (ownedP (pcs L) (prs R))) ∧ Below w.heap.size w w' := by
  have hmk := make_bools R.length hn
  have b1 := below_new w (.cells (boA (List.replicate R.length false)) 4)
  have hTb := Blk.new w 4 (boA (List.replicate R.length false))
  have hc := hL.cap
  have hm := hL.max
  have hc' := hR.cap
  have hm' := hR.max
  obtain ⟨t0, ht0⟩ : ∃ t0, List.replicate R.length false = t0 := ⟨_, rfl⟩
  have hl0 : t0.length = R.length := by rw [← ht0, List.length_replicate]
  have HO0 : Hid (ownO (prs R) (pcs L) t0 = ownedP (pcs L) (prs R)) := Lib.hid (by unfold ownedP; rw [prs_len, ht0])
  rw [ht0] at b1 hTb
  rw [ht0] at hmk
  clear ht0
  generalize hw1 : w.alloc (.cells (boA t0) 4) = w1 at *
  go_enter Tryd.func21, Tryd.ntmps21
  go_wp2_with fail
  obtain ⟨gT, hgT⟩ : ∃ gT, w.heap.size = gT := ⟨_, rfl⟩
  rw [hgT] at hTb
  rw [hgT]
  have hgT := Lib.hid hgT
  clear hw1 hmk
  go_loopw [6, 7, 8, 9] (fun s6 s7 s8 s9 wr => ∃ (j : Nat) (t : List Bool), s6 = .int .i64 (j : Int) ∧ j ≤ L.length ∧ t.length = R.length ∧ Hid (ownO (prs R) (pcs (L.drop j)) t = ownedP (pcs L) (prs R)) ∧ Blk wr gT 4 (boA t) ∧ Below w.heap.size w wr) (fun s6 _ _ _ _ => L.length - (intOf s6).toNat)
  case atStart => exact ⟨0, t0, rfl, Nat.zero_le _, hl0, HO0, hTb, b1⟩
  case round =>
    clear hTb b1 hl0 HO0
    obtain ⟨j, t, rfl, hj, htl, HO, hTb, bb⟩ := hrel
    by_cases hlt : j < L.length
    · have HS := Lib.hid (own_step (prs R) L j hlt t)
      obtain ⟨ad, hA, _⟩ := (hL.below bb).at_ hlt
      subst hA
      have HK := fun u (hu : Below w.heap.size w u) => (hL.below hu).at2 hlt
      have hs0 := fun u (hu : Below w.heap.size w u) => (hL.below hu).all _ (List.getElem_mem hlt)
      have HK := Lib.hid HK
      generalize L[j] = s at *
      obtain ⟨cc, hcc⟩ : ∃ cc, s.p = cc := ⟨_, rfl⟩
      rw [hcc] at HS
      have HCC := Lib.hid hcc
      clear hcc
      go_wp2_with fail
      go_loopw [7, 8, 9] (fun s7 s8 s9 wx => ∃ (k : Nat) (z : Int), s8 = .int .i64 z ∧ z + 1 = (k : Int) ∧ s7 = .int .i64 (fnd (freeO cc (prs (R.drop k)) (t.drop k)) k) ∧ k ≤ R.length ∧ Blk wx gT 4 (boA t) ∧ Below w.heap.size w wx) (fun _ s8 _ _ => (intOf s8 + 1).toNat)
      case atStart => exact ⟨R.length, (R.length : Int) - 1, by go_num, by omega, by rw [free_end cc R t R.length (Nat.le_refl _)]; rfl, Nat.le_refl _, hTb, bb⟩
      case round =>
        clear hTb bb
        obtain ⟨k, z, rfl, hz, rfl, hk, hTb, bb⟩ := hrel
        rcases k with _ | k
        · obtain rfl : z = -1 := by omega
          cases hf : freeO cc (prs (R.drop 0)) (t.drop 0) with
          | none =>
            have HE : Hid (ownedP (pcs L) (prs R) = false) := Lib.hid (by rw [← HO.out, HS.out]; rw [List.drop_zero, List.drop_zero] at hf; rw [hf])
            have hneg : fnd (none : Option Nat) 0 = -1 := rfl
            rw [hneg]
            go_wp2_with fail
            go_ret
            exact ⟨by rw [HE.out] <;> rfl, bb⟩
          | some f =>
            rw [List.drop_zero, List.drop_zero] at hf
            obtain ⟨hfR, hft⟩ := free_lt cc _ _ f hf
            rw [prs_len] at hfR
            have HO2 : Hid (ownO (prs R) (pcs (L.drop (j + 1))) (t.set f true) = ownedP (pcs L) (prs R)) := Lib.hid (by rw [← HO.out, HS.out, hf])
            have hpos : fnd (some f) 0 = (f : Int) := rfl
            rw [hpos]
            have hTk := hTb.cell f
            have hTf := hTb.frozen f
            rw [boA_at _ hft] at hTk
            have hsx := (Mod.refl (· = gT) wr).setG f (.bool true)
            have hTs := hTb.set_ f (.bool true)
            rw [boA_set] at hTs
            have hgT := hgT.out
            clear hf hpos
            go_wp2_with fail
            go_roundw
            case rel => exact ⟨j + 1, t.set f true, by go_num, hlt, by rw [List.length_set]; exact htl, HO2, hTs, bb.thenM hsx bb.size fun b hb e => by omega⟩
            case measure => simp only [intOf]; omega
        · obtain rfl : z = (k : Int) := by omega
          have hkl : k < R.length := by omega
          have hkt : k < t.length := by omega
          have hRx := hR.below bb
          have hr := hRx.all _ (List.getElem_mem hkl)
          obtain ⟨ad', hA', _⟩ := hRx.at_ hkl
          subst hA'
          have HC : ∀ W, Below wr.heap.size wr W → _ := fun W hW => (hRx.below hW).at2 hkl
          have HK : ∀ W, Below wr.heap.size wr W → _ := fun W hW => HK.out W (bb.thenB hW bb.size)
          have hs := hs0 _ bb
          obtain ⟨mb, hmb⟩ : ∃ mb, matchP R[k].p cc = mb := ⟨_, rfl⟩
          have HMP := Lib.hid hmb
          have HM : Hid (matchP R[k].p s.p = mb) := Lib.hid (by rw [HCC.out]; exact hmb)
          clear hmb hz
          obtain ⟨r, hrk⟩ : ∃ r, R[k] = r := ⟨_, rfl⟩
          rw [hrk] at hr HM
          have HC := Lib.hid (hrk ▸ HC)
          have HK := Lib.hid HK
          clear hrk hRx
          go_wp2_with fail
          refine r_start (R := RB) (by rfl) (n := 10) (L := #[false, false, false, false, false, false, false, false, false, false]) rfl rfl ?_
          have bd : Below wr.heap.size wr wr.drew := (Below.refl _ _).drew
          have hTb := hTb.below bd
          have hr := (show RcR _ D' r from ⟨hr.1.below bd, hr.2.below bd⟩)
          have hs := (show CmR _ D s from RdC.below hs bd)
          have bb := bb.thenB bd bb.size
          have HC := fun W hW => HC.out W (bd.trans (Below.mono hW bd.size))
          have HK := fun W hW => HK.out W (bd.trans (Below.mono hW bd.size))
          clear bd
          generalize wr.drew = wq at *
          have hmt := rMatch_any r s D' D wq hr hs
          rw [HM.out] at hmt
          unfold rcC cmC at hmt
          refine r_flt RB_refl 0 26 #[true, false, false, false, false, false, false, false, false, false] (by simp only [List.getElem?_toArray, List.getElem?_cons_zero]; rfl) (by rfl) (by kernel_rfl) (by kernel_rfl) (by kernel_rfl) (fun _ _ _ _ h => h) rfl (by rfl) ?_
          apply Exists.intro
          apply And.intro
          · intro W hW
            first | (go_simp; with_reducible rfl) | go_simp
          (try simp only [Act.put, List.setIfInBounds_toArray]); (try simp only [List.set_cons_succ]); (try simp only [List.set_cons_zero])
          refine r_flt RB_refl 1 27 #[true, true, false, false, false, false, false, false, false, false] (by simp only [List.getElem?_toArray, List.getElem?_cons_succ, List.getElem?_cons_zero]; rfl) (by rfl) (by kernel_rfl) (by kernel_rfl) (by kernel_rfl) (fun _ _ _ _ h => h) rfl (by rfl) ?_
          apply Exists.intro
          apply And.intro
          · intro W hW
            first | (go_simp; with_reducible rfl) | go_simp
          (try simp only [Act.put, List.setIfInBounds_toArray]); (try simp only [List.set_cons_succ]); (try simp only [List.set_cons_zero])
          refine r_flt RB_refl 2 28 #[true, true, true, false, false, false, false, false, false, false] (by simp only [List.getElem?_toArray, List.getElem?_cons_succ, List.getElem?_cons_zero]; rfl) (by rfl) (by kernel_rfl) (by kernel_rfl) (by kernel_rfl) (fun _ _ _ _ h => h) rfl (by rfl) ?_
          apply Exists.intro
          apply And.intro
          · intro W hW
            first | (go_simp; with_reducible rfl) | go_simp
          (try simp only [Act.put, List.setIfInBounds_toArray]); (try simp only [List.set_cons_succ]); (try simp only [List.set_cons_zero])
          refine r_flt RB_refl 3 29 #[true, true, true, true, false, false, false, false, false, false] (by simp only [List.getElem?_toArray, List.getElem?_cons_succ, List.getElem?_cons_zero]; rfl) (by rfl) (by kernel_rfl) (by kernel_rfl) (by kernel_rfl) (fun _ _ _ _ h => h) rfl (by rfl) ?_
          apply Exists.intro
          apply And.intro
          · intro W hW
            obtain ⟨c0, c1, c2, c3, c4, c5, c6, c7, c8, c9, c10, c11, c12, c13⟩ := HC W hW
            go_simp; rfl
          (try simp only [Act.put, List.setIfInBounds_toArray]); (try simp only [List.set_cons_succ]); (try simp only [List.set_cons_zero])
          refine r_flt RB_refl 4 30 #[true, true, true, true, true, false, false, false, false, false] (by simp only [List.getElem?_toArray, List.getElem?_cons_succ, List.getElem?_cons_zero]; rfl) (by rfl) (by kernel_rfl) (by kernel_rfl) (by kernel_rfl) (fun _ _ _ _ h => h) rfl (by rfl) ?_
          apply Exists.intro
          apply And.intro
          · intro W hW
            first | (go_simp; with_reducible rfl) | go_simp
          (try simp only [Act.put, List.setIfInBounds_toArray]); (try simp only [List.set_cons_succ]); (try simp only [List.set_cons_zero])
          refine r_flt RB_refl 5 31 #[true, true, true, true, true, true, false, false, false, false] (by simp only [List.getElem?_toArray, List.getElem?_cons_succ, List.getElem?_cons_zero]; rfl) (by rfl) (by kernel_rfl) (by kernel_rfl) (by kernel_rfl) (fun _ _ _ _ h => h) rfl (by rfl) ?_
          apply Exists.intro
          apply And.intro
          · intro W hW
            first | (go_simp; with_reducible rfl) | go_simp
          (try simp only [Act.put, List.setIfInBounds_toArray]); (try simp only [List.set_cons_succ]); (try simp only [List.set_cons_zero])
          refine r_flt RB_refl 6 32 #[true, true, true, true, true, true, true, false, false, false] (by simp only [List.getElem?_toArray, List.getElem?_cons_succ, List.getElem?_cons_zero]; rfl) (by rfl) (by kernel_rfl) (by kernel_rfl) (by kernel_rfl) (fun _ _ _ _ h => h) rfl (by rfl) ?_
          apply Exists.intro
          apply And.intro
          · intro W hW
            first | (go_simp; with_reducible rfl) | go_simp
          (try simp only [Act.put, List.setIfInBounds_toArray]); (try simp only [List.set_cons_succ]); (try simp only [List.set_cons_zero])
          refine r_flt RB_refl 7 33 #[true, true, true, true, true, true, true, true, false, false] (by simp only [List.getElem?_toArray, List.getElem?_cons_succ, List.getElem?_cons_zero]; rfl) (by rfl) (by kernel_rfl) (by kernel_rfl) (by kernel_rfl) (fun _ _ _ _ h => h) rfl (by rfl) ?_
          apply Exists.intro
          apply And.intro
          · intro W hW
            obtain ⟨c0, c1, c2, c3, c4, c5, c6, c7, c8⟩ := HK W hW
            go_simp; rfl
          (try simp only [Act.put, List.setIfInBounds_toArray]); (try simp only [List.set_cons_succ]); (try simp only [List.set_cons_zero])
          refine r_one RB_trans 8 (by kernel_rfl) ?_
          refine alt_call 34 #[true, true, true, true, true, true, true, true, true, false] (by simp only [List.getElem?_toArray, List.getElem?_cons_succ, List.getElem?_cons_zero]; rfl) (by rfl) rfl (by rfl) (by go_simp; first | exact ⟨rfl, rfl⟩ | rfl) ?_
          refine hmt.mono ?_
          clear hmt
          rintro e' w7 ⟨rfl, b7⟩
          refine ⟨_, rfl, b7, ?_⟩
          have hTb := hTb.below b7
          have bb := bb.thenB b7 bb.size
          clear HC HK hr hs b7
          (try simp only [Act.put, List.setIfInBounds_toArray]); (try simp only [List.set_cons_succ]); (try simp only [List.set_cons_zero])
          refine r_flt RB_refl 9 9 #[true, true, true, true, true, true, true, true, true, true] (by simp only [List.getElem?_toArray, List.getElem?_cons_succ, List.getElem?_cons_zero]; rfl) (by rfl) (by kernel_rfl) (by kernel_rfl) (by kernel_rfl) (fun _ _ _ _ h => h) rfl (by rfl) ?_
          apply Exists.intro
          apply And.intro
          · intro W hW
            first | (go_simp; with_reducible rfl) | go_simp
          (try simp only [Act.put, List.setIfInBounds_toArray]); (try simp only [List.set_cons_succ]); (try simp only [List.set_cons_zero])
          refine r_done (by kernel_rfl) ?_
          have c0 := hTb.cell k
          rw [boA_at _ hkt] at c0
          have HFS := Lib.hid (free_step cc R t k hkl hkt)
          have HMP : Hid (matchP R[k].p cc = mb) := HMP
          generalize htk : t[k] = tk at *
          clear htk
          cases mb
          · have HN : Hid (fnd (freeO cc (prs (R.drop (k + 1))) (t.drop (k + 1))) (k + 1) = fnd (freeO cc (prs (R.drop k)) (t.drop k)) k) := Lib.hid (by
              rw [HFS.out, if_neg (fun h => by rw [HMP.out] at h; cases h.2)]
              exact fnd_map _ k)
            rw [HN.out]
            clear HN HFS HMP
            go_wp2_with fail
            go_roundw
            case rel => exact ⟨k, (k : Int) - 1, by go_num, by omega, rfl, by omega, hTb, bb⟩
            case measure => simp only [intOf]; omega
          · cases tk
            · have HN : Hid (((k : Nat) : Int) = fnd (freeO cc (prs (R.drop k)) (t.drop k)) k) := Lib.hid (by
                rw [HFS.out, if_pos ⟨rfl, HMP.out⟩]
                show (k : Int) = ((0 + k : Nat) : Int)
                rw [Nat.zero_add])
              clear HFS HMP
              go_wp2_with fail
              go_roundw
              case rel => exact ⟨k, (k : Int) - 1, by go_num, by omega, by rw [← HN.out], by omega, hTb, bb⟩
              case measure => simp only [intOf]; omega
            · have HN : Hid (fnd (freeO cc (prs (R.drop (k + 1))) (t.drop (k + 1))) (k + 1) = fnd (freeO cc (prs (R.drop k)) (t.drop k)) k) := Lib.hid (by
                rw [HFS.out, if_neg (fun h => by cases h.1)]
                exact fnd_map _ k)
              rw [HN.out]
              clear HN HFS HMP
              go_wp2_with fail
              go_roundw
              case rel => exact ⟨k, (k : Int) - 1, by go_num, by omega, rfl, by omega, hTb, bb⟩
              case measure => simp only [intOf]; omega
    · obtain rfl : j = L.length := by omega
      have HE : Hid (ownedP (pcs L) (prs R) = true) := Lib.hid (by rw [← HO.out, List.drop_length]; rfl)
      go_wp2_with fail
      go_ret
      exact ⟨by rw [HE.out] <;> rfl, bb⟩
end Go.Proofs.YthkeoimjjgmppaaDoor

/- The past: whether a record's answer is right: the document. -/
namespace Go.Proofs.YthkeoimjjgmppaaDoor
open Go.RowKit
set_option linter.unusedVariables false
set_option maxRecDepth 100000

def spanOk (rd : List UInt8) (s : Sp) : Prop := ∀ k : Nat, s.1 ≤ (k : Int) → (k : Int) < s.2 → toldB rd k = true
theorem diff_in {a b : List UInt8} {L : List Sp} (h : IsR (diffF a b) L) : ∀ s ∈ L, 0 ≤ s.1 ∧ s.2 ≤ 512 := fun s hs => by
  have hm := clean_mem h.clean s hs
  refine ⟨hm.1, ?_⟩
  have h1 : hasS L (s.2 - 1) = true := (clean_one h.clean).2 ⟨s, hs, by omega, by omega⟩
  rw [h.is] at h1
  unfold diffF at h1
  simp only [Bool.and_eq_true, decide_eq_true_eq] at h1
  omega
theorem diff_all {p : PI} {r : PR} {d : List Sp} (h0 : diffE p r.call.snap r.call.len = 0) (hd : IsR (diffR p r.call.snap r.call.len) d) (h : ∀ s ∈ d, spanOk r.rd s) : diffTold p r = true := by
  unfold diffTold
  rw [decide_eq_true h0, Bool.true_and, List.all_eq_true]
  intro k hk
  cases hk2 : diffR p r.call.snap r.call.len (k : Int)
  · rfl
  · rw [← hd.is] at hk2
    obtain ⟨_, s, hs, h1, h2⟩ := has_true.1 hk2
    exact h s hs k h1 h2
theorem diff_bad {p : PI} {r : PR} {d : List Sp} {s : Sp} {k : Nat} (h0 : diffE p r.call.snap r.call.len = 0) (hd : IsR (diffR p r.call.snap r.call.len) d) (hs : s ∈ d) (h1 : s.1 ≤ (k : Int)) (h2 : (k : Int) < s.2) (hk : toldB r.rd k = false) : diffTold p r = false := by
  have hin := diff_in hd s hs
  have hh : diffR p r.call.snap r.call.len (k : Int) = true := by
    rw [← hd.is]
    exact (clean_one hd.clean).2 ⟨s, hs, h1, h2⟩
  unfold diffTold
  rw [decide_eq_true h0, Bool.true_and, List.all_eq_false]
  refine ⟨k, List.mem_range.2 (by omega), ?_⟩
  rw [hh]
  unfold toldB at hk
  rw [hk]
  decide
set_option maxHeartbeats 8000000 in
theorem rAnswered_any (D D' : Nat → Prop) (A : Option Addr) (c : Nat) (L : List CmV) (size : Int) (r : RcV) (w : World) (hL : CmsR w D' A c L) (hr : RcR w D r) :
    Calls Tryd.prog 17 #[.agg #[.int .i64 4, .int .i64 2, .int .i64 16], .int .i64 size, .slice A L.length c, .agg (rcC r).toArray] w fun e w' => e = .returned (.bool (answeredP size (pcs L) r.p)) ∧ Below w.heap.size w w' := by
  have b1 := below_new w (.cells #[.int .i64 4, .int .i64 2, .int .i64 16] 47)
  have hB3 := Blk.new w 47 #[.int .i64 4, .int .i64 2, .int .i64 16]
  generalize hw1 : w.alloc (.cells #[.int .i64 4, .int .i64 2, .int .i64 16] 47) = w1 at *
  have b3 := below_new w1 (.cells (rcC r).toArray 44)
  have hB5 := Blk.new w1 44 (rcC r).toArray
  generalize hw3 : w1.alloc (.cells (rcC r).toArray 44) = w2 at *
  have bb := b1.thenB' b3
  have hB3 := hB3.below b3
  have hL := hL.below bb
  have hr : RcR w2 D r := ⟨hr.1.below bb, hr.2.below bb⟩
  have i1 := infoRc r
  have hT := fun h => Lib.hid (ans_true (size := size) (cs := pcs L) (r := r.p) h)
  have hM := fun h h2 h3 => Lib.hid (ans_mut (size := size) (cs := pcs L) (r := r.p) h h2 h3)
  have hF := fun h h2 h3 h4 => Lib.hid (ans_false (size := size) (cs := pcs L) (r := r.p) h h2 h3 h4)
  have hY := fun h h2 h3 h4 => Lib.hid (ans_told (size := size) (cs := pcs L) (r := r.p) h h2 h3 h4)
  have hT := Lib.hid hT
  have hM := Lib.hid hM
  have hF := Lib.hid hF
  have hY := Lib.hid hY
  have hch := fun u h1 h2 => rchanged_any D D' A c L size r u h1 h2
  go_enter Tryd.func17, Tryd.ntmps17
  go_upto_region 1 with fail
  clear hw1 hw3 b1 b3
  generalize w1.heap.size = g5 at *
  have l1 : w2.cell? ⟨g5, 1, none⟩ = some (.int .i64 r.call.image) := (hB5.cell 1).trans rfl
  have l2 : w2.cell? ⟨g5, 2, none⟩ = some (.int .i64 r.call.kind) := (hB5.cell 2).trans rfl
  have l3 : w2.cell? ⟨g5, 3, none⟩ = some (.int .i64 r.call.off) := (hB5.cell 3).trans rfl
  have l4 : w2.cell? ⟨g5, 4, none⟩ = some (.int .i64 r.call.len) := (hB5.cell 4).trans rfl
  have l5 : w2.cell? ⟨g5, 5, none⟩ = some (.int .i64 r.call.snap) := (hB5.cell 5).trans rfl
  have l6 : w2.cell? ⟨g5, 6, none⟩ = some (.slice r.A r.call.data.length r.c) := (hB5.cell 6).trans rfl
  have l9 : w2.cell? ⟨g5, 9, none⟩ = some (.bool r.done) := (hB5.cell 9).trans rfl
  have l10 : w2.cell? ⟨g5, 10, none⟩ = some (.int .i64 r.E) := (hB5.cell 10).trans rfl
  by_cases hd : r.done = false
  · have HE := hT.out (.inl hd)
    rw [hd] at l9
    clear hch
    go_wp2_with fail
    go_ret
    exact ⟨by rw [HE.out] <;> rfl, bb⟩
  have hd : r.done = true := by simpa using hd
  rw [hd] at l9
  by_cases hE : r.E = 0
  focus
    rw [hE] at l10
    have hM := fun h3 => hM.out hd hE h3
    have hF := fun h3 h4 => hF.out hd hE h3 h4
    have hY := fun h3 h4 => hY.out hd hE h3 h4
    have hM := Lib.hid hM
    have hF := Lib.hid hF
    have hY := Lib.hid hY
    clear hd hE hT
    obtain ⟨x, hx⟩ : ∃ x, r.call = x := ⟨_, rfl⟩
    obtain ⟨zA, hzA⟩ : ∃ zA, r.A = zA := ⟨_, rfl⟩
    obtain ⟨zc, hzc⟩ : ∃ zc, r.c = zc := ⟨_, rfl⟩
    rw [hx] at l1 l2 l3 l4 l5 l6
    rw [hzA, hzc] at l6
    have hcall : RdC w2 D zA x.data zc := by rw [← hzA, ← hzc, ← hx]; exact hr.1
    have HX := Lib.hid hx
    obtain ⟨zd, hzd⟩ : ∃ zd, r.rd = zd := ⟨_, rfl⟩
    have HZ := Lib.hid hzd
    have hzl : r.rd.length ≤ 9223372036854775807 := Nat.le_trans hr.2.2.1 hr.2.2.2
    rw [hzd] at hzl
    have HL11 : Hid (∀ u, Blk u g5 44 (rcC r).toArray → u.cell? ⟨g5, 11, none⟩ = some (.slice r.rA zd.length r.rc)) := Lib.hid (fun u h => by rw [← hzd]; exact (h.cell 11).trans rfl)
    have hmu := fun u => rmutation_any x zA zc u
    obtain ⟨mz, hmz⟩ : ∃ mz, mutP x = mz := ⟨_, rfl⟩
    have HMZ : Hid (mutP r.p.call = mz) := Lib.hid (by show mutP r.call = mz; rw [hx]; exact hmz)
    rw [hmz] at hmu
    have hF2 : Hid ((x.kind ≠ 0 ∧ x.kind ≠ 7) ∨ r.rx < r.fr ∨ r.tt < r.rx → mz = false → answeredP size (pcs L) r.p = false) := Lib.hid (fun h h2 => (hF.out (by rw [HMZ.out]; exact h2) (by show (r.call.kind ≠ 0 ∧ r.call.kind ≠ 7) ∨ r.rx < r.fr ∨ r.tt < r.rx; rw [hx]; exact h)).out)
    have hY2 : Hid (¬ ((x.kind ≠ 0 ∧ x.kind ≠ 7) ∨ r.rx < r.fr ∨ r.tt < r.rx) → mz = false → ∀ io, imO size (pcs L) x.image r.rx = io → answeredP size (pcs L) r.p = toldM r.p io) := Lib.hid (fun h h2 io hio => by
      rw [(hY.out (by rw [HMZ.out]; exact h2) (by show ¬ ((r.call.kind ≠ 0 ∧ r.call.kind ≠ 7) ∨ r.rx < r.fr ∨ r.tt < r.rx); rw [hx]; exact h)).out]
      congr 1
      show imO size (pcs L) r.call.image r.rx = io
      rw [hx]; exact hio)
    clear hmz hx hzA hzc hF hY
    obtain ⟨x1, x2, x3, x4, x5, x6⟩ := x
    unfold caC at hmu
    simp only at l1 l2 l3 l4 l5 l6 hcall hmu hF2 hY2
    have hat := fun u h1 => rAt_any D' A c L size x1 r.rx u h1
    have hB9 := Blk.new w2 25 #[.int .i64 x1, .int .i64 x2, .int .i64 x3, .int .i64 x4, .int .i64 x5, .slice zA x6.length zc]
    have bn := below_new w2 (.cells #[.int .i64 x1, .int .i64 x2, .int .i64 x3, .int .i64 x4, .int .i64 x5, .slice zA x6.length zc] 25)
    go_upto_region 4 with fail
    have hB5 := hB5.below bn
    have hB3 := hB3.below bn
    have hL := hL.below bn
    have hrd := hr.2.1.below bn
    rw [hzd] at hrd
    have hr := (show RcR _ D r from ⟨hr.1.below bn, hr.2.below bn⟩)
    have bb := bb.thenB' bn
    clear l1 l2 l3 l4 l5 l6 l9 l10 bn hzd
    generalize w2.alloc (.cells #[.int .i64 x1, .int .i64 x2, .int .i64 x3, .int .i64 x4, .int .i64 x5, .slice zA x6.length zc] 25) = w3 at *
    generalize w2.heap.size = g9 at *
    have q0 := hB9.cell 0
    have q1 := hB9.cell 1
    have q2 := hB9.cell 2
    have q3 := hB9.cell 3
    have q4 := hB9.cell 4
    have q5 := hB9.cell 5
    simp at q0 q1 q2 q3 q4 q5
    go_wp2_with fail
    refine (hmu _).mono ?_
    clear hmu
    rintro e w4 ⟨rfl, b4⟩
    have hB5 := hB5.below b4
    have hB3 := hB3.below b4
    have hB9 := hB9.below b4
    have hL := hL.below b4
    have hrd := hrd.below b4
    have hr : RcR w4 D r := ⟨hr.1.below b4, hr.2.below b4⟩
    have bb := bb.thenB' b4
    clear q0 q1 q2 q3 q4 q5 b4
    have q0 := hB9.cell 0
    have q1 := hB9.cell 1
    have q2 := hB9.cell 2
    have q3 := hB9.cell 3
    have q4 := hB9.cell 4
    have q5 := hB9.cell 5
    simp at q0 q1 q2 q3 q4 q5
    have l7 : w4.cell? ⟨g5, 7, none⟩ = some (.int .i64 r.fr) := (hB5.cell 7).trans rfl
    have l8 : w4.cell? ⟨g5, 8, none⟩ = some (.int .i64 r.tt) := (hB5.cell 8).trans rfl
    have l13 : w4.cell? ⟨g5, 13, none⟩ = some (.int .i64 r.rx) := (hB5.cell 13).trans rfl
    cases mz
    focus
      clear hch hM
      by_cases hk : (x2 ≠ 0 ∧ x2 ≠ 7) ∨ r.rx < r.fr ∨ r.tt < r.rx
      · have HE := Lib.hid (hF2.out hk rfl)
        clear hat hF2 hY2
        by_cases h1 : x2 = 0 ∨ x2 = 7
        · by_cases h2 : r.rx < r.fr
          · rcases h1 with h1 | h1
            all_goals
              subst h1
              clear hk
              generalize r.rx = zx at *
              generalize r.fr = zf at *
              go_wp2_with fail
              go_ret
              exact ⟨by rw [HE.out] <;> rfl, bb⟩
          · have h3 : r.tt < r.rx := by
              rcases hk with h | h | h
              · exact absurd h1 (fun x => x.elim h.1 h.2)
              · exact absurd h h2
              · exact h
            rcases h1 with h1 | h1
            all_goals
              subst h1
              clear hk
              generalize r.rx = zx at *
              generalize r.fr = zf at *
              generalize r.tt = zt at *
              go_wp2_with fail
              go_ret
              exact ⟨by rw [HE.out] <;> rfl, bb⟩
        · have h2 : (x2 != 0) = true := by simp; exact fun h => h1 (.inl h)
          have h3 : (x2 != 7) = true := by simp; exact fun h => h1 (.inr h)
          clear h1 hk
          go_wp2_with fail
          go_ret
          exact ⟨by rw [HE.out] <;> rfl, bb⟩
      · have h1 : x2 = 0 ∨ x2 = 7 := by
          by_cases h1 : x2 = 0
          · exact .inl h1
          · by_cases h2 : x2 = 7
            · exact .inr h2
            · exact absurd (.inl ⟨h1, h2⟩) hk
        have h2 : ¬ r.rx < r.fr := fun h => hk (.inr (.inl h))
        have h3 : ¬ r.tt < r.rx := fun h => hk (.inr (.inr h))
        have hat := hat _ hL
        unfold AtR at hat
        obtain ⟨io, hio⟩ : ∃ io, imO size (pcs L) x1 r.rx = io := ⟨_, rfl⟩
        rw [hio] at hat
        have HY2 := Lib.hid (hY2.out hk rfl io hio)
        clear hio hk hF2 hY2
        rcases h1 with h1 | h1
        · subst h1
          have hxz : Hid (True) := trivial
          generalize r.rx = zx at *
          generalize r.fr = zf at *
          generalize r.tt = zt at *
          go_wp2_with fail
          refine hat.mono ?_
          clear hat
          rintro e w5 ⟨i, rfl, hip, rI, b5⟩
          have hB5 := hB5.below b5
          have hB3 := hB3.below b5
          have hB9 := hB9.below b5
          have hrd := hrd.below b5
          have bb := bb.thenB' b5
          clear hL b5 q0 q1 q2 q3 q4 q5 l7 l8 l13
          cases io with
          | none =>
            have HE : Hid (answeredP size (pcs L) r.p = false) := HY2
            clear HY2
            rw [show ((none : Option PI).isSome) = false from rfl]
            go_wp2_with first
              | (with_reducible show wpList _ _ _ _ _ _
                 refine wpList_rowB rfl 35 (.tmp 10) (.tmp 72) rfl w5.heap.size 35 _ (imA i) rfl rfl (Blk.new w5 35 #[.slice none 0 0, .slice none 0 0, .int .i64 0]) infoIm rfl (imA_ok _) ?_
                 intro w6 hB10 mm
                 have nn := im_new mm)
            go_ret
            exact ⟨by rw [HE.out] <;> rfl, bb.thenB' nn⟩
          | some m =>
            obtain rfl : i.p = m := hip
            have HE : Hid (answeredP size (pcs L) r.p = toldP i.p r.p) := HY2
            clear HY2
            rw [show ((some i.p : Option PI).isSome) = true from rfl]
            have HT : Hid (answeredP size (pcs L) r.p = (decide (readE i.p x3 x4 x5 = 0) && decide (readD i.p x3 x4 x5 = zd))) := Lib.hid (by
              rw [HE.out]
              unfold toldP RcV.p
              rw [HZ.out, HX.out]
              exact if_pos rfl)
            have hrr := fun u (h : ImR u (fun _ => True) i) => rRead_any _ i x3 x4 x5 u h
            unfold Told at hrr
            generalize readE i.p x3 x4 x5 = q at *
            generalize readD i.p x3 x4 x5 = rd9 at *
            have hxz := hxz.out
            go_wp2_with first
              | (with_reducible show wpList _ _ _ _ _ _
                 refine wpList_rowB rfl 35 (.tmp 10) (.tmp 72) rfl w5.heap.size 35 _ (imA i) rfl rfl (Blk.new w5 35 #[.slice none 0 0, .slice none 0 0, .int .i64 0]) infoIm rfl (imA_ok _) ?_
                 intro w6 hB10 mm
                 have nn := im_new mm
                 have rI := rI.below nn
                 have hB5 := hB5.below nn
                 have hB9 := hB9.below nn
                 have hrd := hrd.below nn
                 have bb := bb.thenB' nn
                 have q1 := hB9.cell 1
                 have q2 := hB9.cell 2
                 have q3 := hB9.cell 3
                 have q4 := hB9.cell 4
                 simp at q1 q2 q3 q4
                 clear nn mm)
              | (with_reducible show wpList _ _ _ _ _ _
                 refine wpList_load_row rfl 35 (.tmp 10) rfl w5.heap.size rfl 35 _ (0, 0) _ hB10 Tryd.underlying35 rfl infoIm ?_)
            refine (hrr _ rI).mono ?_
            clear hrr
            rintro e w7 ⟨A7, c7, rfl, r7, _, _, b7⟩
            have hB5 := hB5.below b7
            have hrd := hrd.below b7
            have bb := bb.thenB' b7
            have l11 := HL11.out _ hB5
            have s7 := str_rd (n := rd9.length) (c := c7) r7 rfl
            have s8 := str_rd (n := zd.length) (c := r.rc) hrd rfl
            have hsb := str_beq rd9 zd
            clear rI hB10 hB3 hB9 b7 q1 q2 q3 q4 r7
            by_cases hq : q = 0
            · have hq' : (q == 0) = true := by simp [hq]
              have HT := Lib.hid (HT.out.trans (by rw [decide_eq_true hq, Bool.true_and]))
              clear hq
              go_wp2_with fail
              go_ret
              exact ⟨by rw [HT.out]; show Ending.returned (.bool (rd9 == zd)) = Ending.returned (.bool (decide (rd9 = zd))); congr 2; rw [Bool.eq_iff_iff]; simp, bb⟩
            · have hq' : (q == 0) = false := by simpa using hq
              have HT := Lib.hid (HT.out.trans (by rw [decide_eq_false hq, Bool.false_and]))
              clear hq hsb s7 s8
              go_wp2_with fail
              go_ret
              exact ⟨by rw [HT.out] <;> rfl, bb⟩
        · subst h1
          have hxz : Hid (True) := trivial
          generalize r.rx = zx at *
          generalize r.fr = zf at *
          generalize r.tt = zt at *
          go_wp2_with fail
          refine hat.mono ?_
          clear hat
          rintro e w5 ⟨i, rfl, hip, rI, b5⟩
          have hB5 := hB5.below b5
          have hB3 := hB3.below b5
          have hB9 := hB9.below b5
          have hrd := hrd.below b5
          have bb := bb.thenB' b5
          clear hL b5 q0 q1 q2 q3 q4 q5 l7 l8 l13
          cases io with
          | none =>
            have HE : Hid (answeredP size (pcs L) r.p = false) := HY2
            clear HY2
            rw [show ((none : Option PI).isSome) = false from rfl]
            go_wp2_with first
              | (with_reducible show wpList _ _ _ _ _ _
                 refine wpList_rowB rfl 35 (.tmp 10) (.tmp 72) rfl w5.heap.size 35 _ (imA i) rfl rfl (Blk.new w5 35 #[.slice none 0 0, .slice none 0 0, .int .i64 0]) infoIm rfl (imA_ok _) ?_
                 intro w6 hB10 mm
                 have nn := im_new mm)
            go_ret
            exact ⟨by rw [HE.out] <;> rfl, bb.thenB' nn⟩
          | some m =>
            obtain rfl : i.p = m := hip
            have HE : Hid (answeredP size (pcs L) r.p = toldP i.p r.p) := HY2
            clear HY2
            rw [show ((some i.p : Option PI).isSome) = true from rfl]
            have HT : Hid (answeredP size (pcs L) r.p = diffTold i.p r.p) := Lib.hid (by
              rw [HE.out]
              unfold toldP RcV.p
              rw [HX.out]
              exact if_neg (show ¬ (7 : Int) = 0 by decide))
            have HN : Hid (diffE i.p x5 x4 ≠ 0 → answeredP size (pcs L) r.p = false) := Lib.hid (fun h => by
              rw [HT.out]
              unfold diffTold RcV.p
              rw [HX.out, decide_eq_false h]; rfl)
            have HG : Hid (∀ d : List Sp, diffE i.p x5 x4 = 0 → IsR (diffR i.p x5 x4) d → (∀ s ∈ d, spanOk zd s) → answeredP size (pcs L) r.p = true) := Lib.hid (fun d h0 h1 h2 => by
              rw [HT.out]
              exact diff_all (p := i.p) (r := r.p) (d := d) (by show diffE i.p r.call.snap r.call.len = 0; rw [HX.out]; exact h0) (by show IsR (diffR i.p r.call.snap r.call.len) d; rw [HX.out]; exact h1) (by show ∀ s ∈ d, spanOk r.rd s; rw [HZ.out]; exact h2))
            have HB : Hid (∀ (d : List Sp) (s : Sp) (k : Nat), diffE i.p x5 x4 = 0 → IsR (diffR i.p x5 x4) d → s ∈ d → s.1 ≤ (k : Int) → (k : Int) < s.2 → toldB zd k = false → answeredP size (pcs L) r.p = false) := Lib.hid (fun d s k h0 h1 h2 h3 h4 h5 => by
              rw [HT.out]
              exact diff_bad (p := i.p) (r := r.p) (d := d) (s := s) (k := k) (by show diffE i.p r.call.snap r.call.len = 0; rw [HX.out]; exact h0) (by show IsR (diffR i.p r.call.snap r.call.len) d; rw [HX.out]; exact h1) h2 h3 h4 (by show toldB r.rd k = false; rw [HZ.out]; exact h5))
            have HSP : Hid (∀ (d : List Sp), IsR (diffR i.p x5 x4) d → d.length ≤ 512 ∧ ∀ s ∈ d, 0 ≤ s.1 ∧ s.2 ≤ 512) := Lib.hid (fun d h => ⟨diff_len h, diff_in h⟩)
            have hrr := fun u (h : ImR u (fun _ => True) i) => rDiffer_any _ i x5 x4 u h
            unfold Differs at hrr
            generalize diffE i.p x5 x4 = q at *
            have hxz := hxz.out
            go_wp2_with first
              | (with_reducible show wpList _ _ _ _ _ _
                 refine wpList_rowB rfl 35 (.tmp 10) (.tmp 72) rfl w5.heap.size 35 _ (imA i) rfl rfl (Blk.new w5 35 #[.slice none 0 0, .slice none 0 0, .int .i64 0]) infoIm rfl (imA_ok _) ?_
                 intro w6 hB10 mm
                 have nn := im_new mm
                 have rI := rI.below nn
                 have hB5 := hB5.below nn
                 have hB9 := hB9.below nn
                 have hB3 := hB3.below nn
                 have hrd := hrd.below nn
                 have bb := bb.thenB' nn
                 have q1 := hB9.cell 1
                 have q2 := hB9.cell 2
                 have q3 := hB9.cell 3
                 have q4 := hB9.cell 4
                 simp at q1 q2 q3 q4
                 clear nn mm)
              | (with_reducible show wpList _ _ _ _ _ _
                 refine wpList_load_row rfl 35 (.tmp 10) rfl w5.heap.size rfl 35 _ (0, 0) _ hB10 Tryd.underlying35 rfl infoIm ?_)
            refine (hrr _ rI).mono ?_
            clear hrr
            rintro e w7 ⟨v7, d, rfl, od, hd1, hd2, b7⟩
            have HD1 := Lib.hid hd1
            have hB5 := hB5.below b7
            have hB3 := hB3.below b7
            have hrd := hrd.below b7
            have bb := bb.thenB' b7
            obtain ⟨A7, c7, rfl, hc7, hm7⟩ := OwnC.form od
            have rds := OwnSp.rd od
            clear rI hB10 hB9 b7 q1 q2 q3 q4 hd1 hd2 od
            unfold maxLen at hm7
            by_cases hq : q = 0
            · have hq' : (q != 0) = false := by simp [hq]
              have hid := HD1.out hq
              obtain ⟨hdl, hdin⟩ := HSP.out d hid
              have HG := Lib.hid (HG.out d hq hid)
              have HB := Lib.hid (HB.out d)
              have HB : Hid (∀ (s : Sp) (k : Nat), s ∈ d → s.1 ≤ (k : Int) → (k : Int) < s.2 → toldB zd k = false → answeredP size (pcs L) r.p = false) := Lib.hid (fun s k h2 h3 h4 h5 => HB.out s k hq hid h2 h3 h4 h5)
              have HIN := Lib.hid hdin
              clear hq hid HN HT HSP HD1 hdin
              go_wp2_with fail
              go_loopw [16, 17, 18, 19, 20, 21] (fun s16 s17 s18 s19 s20 s21 wx => ∃ n : Nat, s16 = .int .i64 (n : Int) ∧ n ≤ d.length ∧ Hid (∀ m (h : m < d.length), m < n → spanOk zd d[m]) ∧ Below w7.heap.size w7 wx) (fun s16 _ _ _ _ _ _ => d.length - (intOf s16).toNat)
              case atStart => exact ⟨0, rfl, Nat.zero_le _, Lib.hid (fun m h h0 => absurd h0 (by omega)), Below.refl _ _⟩
              case round =>
                obtain ⟨n, rfl, hn, HA, bq⟩ := hrel
                by_cases hlt : n < d.length
                · obtain ⟨ad, rfl, d0, d1⟩ := (rds.below bq).at_ hlt
                  have hIN := HIN.out _ (List.getElem_mem hlt)
                  have HBs := Lib.hid (fun k h3 h4 h5 => HB.out _ k (List.getElem_mem hlt) h3 h4 h5)
                  have HAn : Hid ((∀ k : Nat, d[n].1 ≤ (k : Int) → (k : Int) < d[n].2 → toldB zd k = true) → ∀ m (h : m < d.length), m < n + 1 → spanOk zd d[m]) := Lib.hid (fun hk m h hm => by
                    by_cases e : m = n
                    · subst e; exact hk
                    · exact HA.out m h (by omega))
                  have hds := fun u (hu : Below w7.heap.size w7 u) => by
                    have := (rds.below hu).at_ hlt
                    exact this
                  have HDS := Lib.hid hds
                  clear hds
                  generalize d[n] = sp at *
                  obtain ⟨f, tt⟩ := sp
                  simp only at d0 d1 hIN HBs HAn HDS
                  obtain ⟨fn, rfl⟩ : ∃ fn : Nat, f = (fn : Int) := ⟨f.toNat, by omega⟩
                  have hnl : decide ((n : Int) < (d.length : Int)) = true := decide_eq_true (by omega)
                  go_wp2_with fail
                  go_loopw [17, 18, 19, 20, 21] (fun s17 s18 s19 s20 s21 wy => ∃ a : Nat, s17 = .int .i64 (a : Int) ∧ fn ≤ a ∧ ((a : Int) ≤ tt ∨ a = fn) ∧ Hid (∀ k : Nat, fn ≤ k → k < a → toldB zd k = true) ∧ Below w7.heap.size w7 wy) (fun s17 _ _ _ _ _ => (512 - intOf s17).toNat)
                  case atStart => exact ⟨fn, rfl, Nat.le_refl _, .inr rfl, Lib.hid (fun k h1 h2 => absurd h1 (by omega)), bq⟩
                  case round =>
                    clear bq d0 d1
                    obtain ⟨a, rfl, ha1, ha2, HK, bq⟩ := hrel
                    obtain ⟨ad2, hA2, d0, d1⟩ := HDS.out _ bq
                    injection hA2 with hA2
                    subst hA2
                    by_cases hat : (a : Int) < tt
                    · have ha512 : a < 512 := by omega
                      have hpl := rPlace_any a ha512 wr
                      have hB3r := hB3.below bq
                      have p0 := hB3r.cell 0
                      have p1 := hB3r.cell 1
                      have p2 := hB3r.cell 2
                      simp at p0 p1 p2
                      have hp2 := place_lt2 ha512
                      have HTB : Hid (toldB zd a = zd.any fun b => b.toNat == placeO a) := Lib.hid rfl
                      generalize placeO a = pk at *
                      have hmod : ((pk : Int) % 256) = (pk : Int) := Int.emod_eq_of_lt (by omega) (by omega)
                      have hatd : decide ((a : Int) < tt) = true := decide_eq_true hat
                      go_wp2_with fail
                      refine hpl.mono ?_
                      clear hpl
                      rintro e w8 ⟨z8, rfl, b8⟩
                      have bq := bq.thenB' b8
                      clear p0 p1 p2 hB3r b8
                      have hB5r := hB5.below bq
                      have l11 := HL11.out _ hB5r
                      go_wp2_with fail
                      go_loopw [20, 21] (fun s20 s21 wz => ∃ (k : Nat) (fd : Bool), s21 = .int .i64 (k : Int) ∧ s20 = .bool fd ∧ k ≤ zd.length ∧ Hid ((fd || (zd.drop k).any fun b => b.toNat == pk) = toldB zd a) ∧ w8 = wz) (fun _ s21 _ => zd.length - (intOf s21).toNat)
                      case atStart => exact ⟨0, false, rfl, rfl, Nat.zero_le _, Lib.hid (by rw [HTB.out]; rfl), rfl⟩
                      case round =>
                        obtain ⟨k, fd, rfl, rfl, hk, HFD, rfl⟩ := hrel
                        by_cases hkl : k < zd.length
                        · obtain ⟨az, hza, _, hcz⟩ := RdB.at_ (hrd.below bq) hkl
                          rw [hza] at l11
                          have HFS : Hid ((zd.drop k).any (fun b => b.toNat == pk) = ((zd[k].toNat == pk) || (zd.drop (k + 1)).any fun b => b.toNat == pk)) := Lib.hid (by rw [List.drop_eq_getElem_cons hkl, List.any_cons])
                          generalize zd[k] = bz at *
                          have hbz : (bz.toNat : Int) ≤ 255 := by have := bz.toNat_lt; omega
                          cases fd
                          · by_cases hbp : bz.toNat = pk
                            · have H2 : Hid ((true || (zd.drop (k + 1)).any fun b => b.toNat == pk) = toldB zd a) := Lib.hid (by rw [← HFD.out, HFS.out, show (bz.toNat == pk) = true by simp [hbp]]; rfl)
                              have hbe : ((bz.toNat : Int) == (pk : Int)) = true := by simp [hbp]
                              clear HFD HFS hbp
                              go_wp2_with fail
                              go_roundw
                              case rel => exact ⟨k + 1, true, by go_num, rfl, hkl, H2, trivial⟩
                              case measure => simp only [intOf]; omega
                            · have H2 : Hid ((false || (zd.drop (k + 1)).any fun b => b.toNat == pk) = toldB zd a) := Lib.hid (by rw [← HFD.out, HFS.out, show (bz.toNat == pk) = false by simpa using hbp]; rfl)
                              have hbe : ((bz.toNat : Int) == (pk : Int)) = false := by simp; omega
                              clear HFD HFS hbp
                              go_wp2_with fail
                              go_roundw
                              case rel => exact ⟨k + 1, false, by go_num, rfl, hkl, H2, trivial⟩
                              case measure => simp only [intOf]; omega
                          · have H2 : Hid ((true || (zd.drop (k + 1)).any fun b => b.toNat == pk) = toldB zd a) := Lib.hid (by rw [← HFD.out]; rfl)
                            clear HFD HFS
                            go_wp2_with fail
                            go_roundw
                            case rel => exact ⟨k + 1, true, by go_num, rfl, hkl, H2, trivial⟩
                            case measure => simp only [intOf]; omega
                        · obtain rfl : k = zd.length := by omega
                          have HFD : Hid (fd = toldB zd a) := Lib.hid (by rw [← HFD.out, List.drop_length]; cases fd <;> rfl)
                          cases fd
                          · have HE := Lib.hid (HBs.out a (by omega) hat HFD.out.symm)
                            go_wp2_with fail
                            go_ret
                            exact ⟨by rw [HE.out] <;> rfl, bb.thenB' bq⟩
                          · have HK2 : Hid (∀ k : Nat, fn ≤ k → k < a + 1 → toldB zd k = true) := Lib.hid (fun k h1 h2 => by
                              by_cases e : k = a
                              · subst e; exact HFD.out.symm
                              · exact HK.out k h1 (by omega))
                            clear HK HFD
                            go_wp2_with fail
                            go_roundw
                            case rel => exact ⟨a + 1, by go_num, by omega, .inl (by omega), HK2, bq⟩
                            case measure => simp only [intOf]; omega
                    · have HA2 := Lib.hid (HAn.out (fun k h1 h2 => HK.out k (by omega) (by omega)))
                      clear HK HAn HA
                      go_wp2_with fail
                      go_roundw
                      case rel => exact ⟨n + 1, by go_num, hlt, HA2, bq⟩
                      case measure => simp only [intOf]; omega
                · obtain rfl : n = d.length := by omega
                  have HE := Lib.hid (HG.out (fun s hs => by
                    obtain ⟨m, hm, rfl⟩ := List.getElem_of_mem hs
                    exact HA.out m hm hm))
                  clear HA
                  go_wp2_with fail
                  go_ret
                  exact ⟨by rw [HE.out] <;> rfl, bb.thenB' bq⟩
            · have hq' : (q != 0) = true := by simpa using hq
              have HE := Lib.hid (HN.out hq)
              clear hq HN HG HB
              go_wp2_with fail
              go_ret
              exact ⟨by rw [HE.out] <;> rfl, bb⟩
    · have HE := hM.out HMZ.out
      go_wp2_with first
        | (with_reducible show wpList _ _ _ _ _ _
           refine wpList_load_row rfl 44 (.tmp 7) rfl g5 rfl 44 _ (0, 0) _ hB5 Tryd.underlying44 rfl i1 ?_)
      refine (hch _ hL hr).mono ?_
      clear hch
      rintro e w5 ⟨rfl, b5⟩
      go_wp2_with fail
      go_ret
      exact ⟨by rw [HE.out] <;> rfl, bb.thenB' b5⟩
  · have HE := hT.out (.inr hE)
    have hE' : (r.E != 0) = true := by simpa using hE
    generalize r.E = zE at *
    clear hch hE
    go_wp2_with fail
    go_ret
    exact ⟨by rw [HE.out] <;> rfl, bb⟩
end Go.Proofs.YthkeoimjjgmppaaDoor

/- The past: whether all records can have been: the document. -/
namespace Go.Proofs.YthkeoimjjgmppaaDoor
open Go.RowKit
set_option linter.unusedVariables false
set_option maxRecDepth 100000

def endO (cs : List PC) : Int := match cs.getLast? with
  | none => 0
  | some c => c.ix
theorem last_ris : ∀ (cs : List PC) (a : Int), risO a cs = true → lastO a cs = (match cs.getLast? with | none => a | some c => c.ix)
  | [], a, _ => rfl
  | c :: r, a, h => by
    unfold risO at h
    rw [Bool.and_eq_true, decide_eq_true_iff] at h
    have ih := last_ris r c.ix h.2
    unfold lastO
    rw [show max a c.ix = c.ix by omega, ih]
    cases r with
    | nil => rfl
    | cons d r => rw [List.getLast?_cons_cons, List.getLast?_eq_some_getLast (List.cons_ne_nil d r)]
theorem imO_last (size : Int) (cs : List PC) (image : Int) : imO size cs image (endO cs) = imO size cs image (lastO 0 cs) := by
  unfold imO
  cases h : risO 0 cs
  · rfl
  · rw [last_ris cs 0 h]; rfl
theorem end_some (L : List CmV) (n : Nat) (h : L.length = n + 1) : endO (pcs L) = (L[n]'(by omega)).ix := by
  unfold endO pcs
  have e : L.length - 1 = n := by omega
  rw [List.getLast?_eq_getElem?, List.length_map, e, List.getElem?_map, List.getElem?_eq_getElem (by omega)]
  rfl
theorem all_stepR (f : PR → Bool) (R : List RcV) (j : Nat) (hj : j < R.length) : (prs (R.drop j)).all f = (f R[j].p && (prs (R.drop (j + 1))).all f) := by
  rw [List.drop_eq_getElem_cons hj]
  rfl
set_option maxHeartbeats 8000000 in
theorem rRight_any (D D' : Nat → Prop) (A A' : Option Addr) (c c' : Nat) (L : List CmV) (R : List RcV) (size : Int) (w : World) (hL : CmsR w D A c L) (hR : RcsR w D' A' c' R) (hn : R.length ≤ 1000) :
    Calls Tryd.prog 22 #[.agg #[.int .i64 4, .int .i64 2, .int .i64 16], .int .i64 size, .slice A L.length c, .slice A' R.length c'] w fun e w' => e = .returned (.bool (rightP size (pcs L) (prs R))) ∧ Below w.heap.size w w' := by
  have bb := below_new w (.cells #[.int .i64 4, .int .i64 2, .int .i64 16] 47)
  have hLy := Blk.new w 47 #[.int .i64 4, .int .i64 2, .int .i64 16]
  have hc := hL.cap
  have hm := hL.max
  have hc' := hR.cap
  have hm' := hR.max
  generalize hw1 : w.alloc (.cells #[.int .i64 4, .int .i64 2, .int .i64 16] 47) = w1 at *
  go_enter Tryd.func22, Tryd.ntmps22
  go_upto_if 17 with fail
  obtain ⟨g4, hg4⟩ : ∃ g4, w.heap.size = g4 := ⟨_, rfl⟩
  rw [hg4] at hLy
  rw [hg4]
  clear hg4 hw1
  go_cut [9] from 17 to 24 (fun s9 wx => s9 = .int .i64 (endO (pcs L)) ∧ w1 = wx)
  case first =>
    obtain ⟨n, hnL⟩ : ∃ n, L.length = n := ⟨_, rfl⟩
    rcases n with _ | n
    · have HLs : Hid (endO (pcs L) = 0) := Lib.hid (by obtain rfl := List.eq_nil_of_length_eq_zero hnL; rfl)
      have h0 : decide (0 < L.length) = false := decide_eq_false (by omega)
      simp only [h0]
      clear h0 hnL
      go_wp2_with fail
      go_meet
      case rel => exact ⟨by rw [HLs.out], rfl⟩
    · have hnl : n < L.length := by omega
      obtain ⟨ad, hA, d0, _⟩ := (hL.below bb).at_ hnl
      subst hA
      have HLs : Hid (endO (pcs L) = L[n].ix) := Lib.hid (end_some L n hnL)
      generalize L[n].ix = zx at *
      have h0 : decide (0 < L.length) = true := decide_eq_true (by omega)
      simp only [h0]
      clear h0
      have hsub : ((L.length : Int) - 1) = (n : Int) := by omega
      have hn1 : (n : Int) < (L.length : Int) := by omega
      have hnL := Lib.hid hnL
      go_wp2_with fail
      go_meet
      case rel => exact ⟨by rw [HLs.out], rfl⟩
  case rest =>
    obtain ⟨rfl, rfl⟩ := hcut
    obtain ⟨zx, hzx⟩ : ∃ zx, endO (pcs L) = zx := ⟨_, rfl⟩
    rw [hzx]
    have HLs := Lib.hid hzx
    clear hzx
    go_wp2_with fail
    go_loopw [10, 11, 12] (fun s10 s11 s12 wr => ∃ m : Nat, s10 = .int .i64 (m : Int) ∧ m ≤ 4 ∧ Hid (allO size (pcs L) m = true) ∧ Blk wr g4 47 #[.int .i64 4, .int .i64 2, .int .i64 16] ∧ Below w.heap.size w wr) (fun s10 _ _ _ => 4 - (intOf s10).toNat)
    case atStart => exact ⟨0, rfl, Nat.zero_le _, Lib.hid rfl, hLy, bb⟩
    case round =>
      clear bb hLy
      obtain ⟨m, rfl, hm4, HA, hLy, bb⟩ := hrel
      by_cases hlt : m < 4
      · have hat := rAt_any D A c L size (m : Int) zx wr (hL.below bb)
        unfold AtR at hat
        have HN : Hid ((imO size (pcs L) (m : Int) zx).isSome = false → rightP size (pcs L) (prs R) = false) := Lib.hid (fun h => by
          rw [all_four, all_no (m := m) (by rw [← imO_last size (pcs L), HLs.out]; exact h) 4 hlt]; rfl)
        have HY : Hid ((imO size (pcs L) (m : Int) zx).isSome = true → allO size (pcs L) (m + 1) = true) := Lib.hid (fun h => by unfold allO; rw [HA.out, ← imO_last size (pcs L), HLs.out, h]; rfl)
        generalize (imO size (pcs L) (m : Int) zx).isSome = z at *
        clear HA
        go_wp2_with fail
        with_reducible refine hat.mono ?_
        clear hat
        rintro e w4 ⟨i, rfl, _, _, b4⟩
        have hLy := hLy.below b4
        have bb := bb.thenB b4 bb.size
        cases z
        · have HE := Lib.hid (HN.out rfl)
          clear HN HY
          go_wp2_with first
            | (with_reducible show wpList _ _ _ _ _ _
               refine wpList_rowB rfl 35 (.tmp 11) (.tmp 35) rfl w4.heap.size 35 _ (imA i) rfl rfl (Blk.new w4 35 #[.slice none 0 0, .slice none 0 0, .int .i64 0]) infoIm rfl (imA_ok _) ?_
               intro w5 hB9 mm
               have nn := im_new mm)
          go_ret
          exact ⟨by rw [HE.out] <;> rfl, bb.thenB nn bb.size⟩
        · have HE := Lib.hid (HY.out rfl)
          clear HN HY
          go_wp2_with first
            | (with_reducible show wpList _ _ _ _ _ _
               refine wpList_rowB rfl 35 (.tmp 11) (.tmp 35) rfl w4.heap.size 35 _ (imA i) rfl rfl (Blk.new w4 35 #[.slice none 0 0, .slice none 0 0, .int .i64 0]) infoIm rfl (imA_ok _) ?_
               intro w5 hB9 mm
               have nn := im_new mm)
          go_roundw
          case rel => exact ⟨m + 1, by go_num, by omega, HE, hLy.below nn, bb.thenB nn bb.size⟩
          case measure => simp only [intOf]; omega
      · obtain rfl : m = 4 := by omega
        have ho := rOwned_any D D' A A' c c' L R wr (hL.below bb) (hR.below bb) hn
        have HR : Hid (rightP size (pcs L) (prs R) = (ownedP (pcs L) (prs R) && (prs R).all (answeredP size (pcs L)))) := Lib.hid (by rw [all_four, HA.out]; rfl)
        generalize ownedP (pcs L) (prs R) = oz at *
        go_wp2_with fail
        with_reducible refine ho.mono ?_
        clear ho HA HLs
        rintro e w6 ⟨rfl, b6⟩
        have hLy := hLy.below b6
        have bb := bb.thenB b6 bb.size
        clear b6
        cases oz
        · have HE : Hid (rightP size (pcs L) (prs R) = false) := HR
          go_wp2_with fail
          go_ret
          exact ⟨by rw [HE.out] <;> rfl, bb⟩
        · have HR : Hid (rightP size (pcs L) (prs R) = (prs R).all (answeredP size (pcs L))) := HR
          go_wp2_with fail
          go_loopw [13, 14] (fun s13 s14 wx => ∃ k : Nat, s13 = .int .i64 (k : Int) ∧ k ≤ R.length ∧ Hid ((prs (R.drop k)).all (answeredP size (pcs L)) = (prs R).all (answeredP size (pcs L))) ∧ Blk wx g4 47 #[.int .i64 4, .int .i64 2, .int .i64 16] ∧ Below w.heap.size w wx) (fun s13 _ _ => R.length - (intOf s13).toNat)
          case atStart => exact ⟨0, rfl, Nat.zero_le _, Lib.hid rfl, hLy, bb⟩
          case round =>
            clear hLy bb
            obtain ⟨k, rfl, hk, HF, hLy, bb⟩ := hrel
            by_cases hkl : k < R.length
            · have hRx := hR.below bb
              have hLq := hL.below bb
              have hr := hRx.all _ (List.getElem_mem hkl)
              obtain ⟨ad', hA', _⟩ := hRx.at_ hkl
              subst hA'
              have HC : ∀ W, Below wr.heap.size wr W → _ := fun W hW => (hRx.below hW).at2 hkl
              have HFS := Lib.hid (all_stepR (answeredP size (pcs L)) R k hkl)
              obtain ⟨mb, hmb⟩ : ∃ mb, answeredP size (pcs L) R[k].p = mb := ⟨_, rfl⟩
              have HN : Hid (mb = false → rightP size (pcs L) (prs R) = false) := Lib.hid (fun h => by rw [HR.out, ← HF.out, HFS.out, hmb, h]; rfl)
              have HY : Hid (mb = true → (prs (R.drop (k + 1))).all (answeredP size (pcs L)) = (prs R).all (answeredP size (pcs L))) := Lib.hid (fun h => by rw [← HF.out, HFS.out, hmb, h]; rfl)
              obtain ⟨r, hrk⟩ : ∃ r, R[k] = r := ⟨_, rfl⟩
              rw [hrk] at hr hmb
              have HM := Lib.hid hmb
              have HC := Lib.hid (hrk ▸ HC)
              clear hrk hRx hmb HF HFS
              go_wp2_with fail
              refine r_start (R := RB) (by rfl) (n := 9) (L := #[false, false, false, false, false, false, false, false, false]) rfl rfl ?_
              have bd : Below wr.heap.size wr wr.drew := (Below.refl _ _).drew
              have hr := (show RcR _ D' r from ⟨hr.1.below bd, hr.2.below bd⟩)
              have hLy := hLy.below bd
              have hLq := hLq.below bd
              have bb := bb.thenB bd bb.size
              have HC := fun W hW => HC.out W (bd.trans (Below.mono hW bd.size))
              clear bd
              generalize wr.drew = wq at *
              have hmt := rAnswered_any D' D A c L size r wq hLq hr
              rw [HM.out] at hmt
              unfold rcC at hmt
              refine r_flt RB_refl 0 49 #[true, false, false, false, false, false, false, false, false] (by simp only [List.getElem?_toArray, List.getElem?_cons_zero]; rfl) (by rfl) (by kernel_rfl) (by kernel_rfl) (by kernel_rfl) (fun _ _ _ _ h => h) rfl (by rfl) ?_
              apply Exists.intro
              apply And.intro
              · intro W hW
                have x0 := (hLy.below hW).cell 0
                have x1 := (hLy.below hW).cell 1
                have x2 := (hLy.below hW).cell 2
                simp at x0 x1 x2
                go_simp; rfl
              (try simp only [Act.put, List.setIfInBounds_toArray]); (try simp only [List.set_cons_succ]); (try simp only [List.set_cons_zero])
              refine r_flt RB_refl 1 50 #[true, true, false, false, false, false, false, false, false] (by simp only [List.getElem?_toArray, List.getElem?_cons_succ, List.getElem?_cons_zero]; rfl) (by rfl) (by kernel_rfl) (by kernel_rfl) (by kernel_rfl) (fun _ _ _ _ h => h) rfl (by rfl) ?_
              apply Exists.intro
              apply And.intro
              · intro W hW
                first | (go_simp; with_reducible rfl) | go_simp
              (try simp only [Act.put, List.setIfInBounds_toArray]); (try simp only [List.set_cons_succ]); (try simp only [List.set_cons_zero])
              refine r_flt RB_refl 2 51 #[true, true, true, false, false, false, false, false, false] (by simp only [List.getElem?_toArray, List.getElem?_cons_succ, List.getElem?_cons_zero]; rfl) (by rfl) (by kernel_rfl) (by kernel_rfl) (by kernel_rfl) (fun _ _ _ _ h => h) rfl (by rfl) ?_
              apply Exists.intro
              apply And.intro
              · intro W hW
                first | (go_simp; with_reducible rfl) | go_simp
              (try simp only [Act.put, List.setIfInBounds_toArray]); (try simp only [List.set_cons_succ]); (try simp only [List.set_cons_zero])
              refine r_flt RB_refl 3 52 #[true, true, true, true, false, false, false, false, false] (by simp only [List.getElem?_toArray, List.getElem?_cons_succ, List.getElem?_cons_zero]; rfl) (by rfl) (by kernel_rfl) (by kernel_rfl) (by kernel_rfl) (fun _ _ _ _ h => h) rfl (by rfl) ?_
              apply Exists.intro
              apply And.intro
              · intro W hW
                first | (go_simp; with_reducible rfl) | go_simp
              (try simp only [Act.put, List.setIfInBounds_toArray]); (try simp only [List.set_cons_succ]); (try simp only [List.set_cons_zero])
              refine r_flt RB_refl 4 53 #[true, true, true, true, true, false, false, false, false] (by simp only [List.getElem?_toArray, List.getElem?_cons_succ, List.getElem?_cons_zero]; rfl) (by rfl) (by kernel_rfl) (by kernel_rfl) (by kernel_rfl) (fun _ _ _ _ h => h) rfl (by rfl) ?_
              apply Exists.intro
              apply And.intro
              · intro W hW
                first | (go_simp; with_reducible rfl) | go_simp
              (try simp only [Act.put, List.setIfInBounds_toArray]); (try simp only [List.set_cons_succ]); (try simp only [List.set_cons_zero])
              refine r_flt RB_refl 5 54 #[true, true, true, true, true, true, false, false, false] (by simp only [List.getElem?_toArray, List.getElem?_cons_succ, List.getElem?_cons_zero]; rfl) (by rfl) (by kernel_rfl) (by kernel_rfl) (by kernel_rfl) (fun _ _ _ _ h => h) rfl (by rfl) ?_
              apply Exists.intro
              apply And.intro
              · intro W hW
                first | (go_simp; with_reducible rfl) | go_simp
              (try simp only [Act.put, List.setIfInBounds_toArray]); (try simp only [List.set_cons_succ]); (try simp only [List.set_cons_zero])
              refine r_flt RB_refl 6 55 #[true, true, true, true, true, true, true, false, false] (by simp only [List.getElem?_toArray, List.getElem?_cons_succ, List.getElem?_cons_zero]; rfl) (by rfl) (by kernel_rfl) (by kernel_rfl) (by kernel_rfl) (fun _ _ _ _ h => h) rfl (by rfl) ?_
              apply Exists.intro
              apply And.intro
              · intro W hW
                obtain ⟨c0, c1, c2, c3, c4, c5, c6, c7, c8, c9, c10, c11, c12, c13⟩ := HC W hW
                go_simp; rfl
              (try simp only [Act.put, List.setIfInBounds_toArray]); (try simp only [List.set_cons_succ]); (try simp only [List.set_cons_zero])
              refine r_one RB_trans 7 (by kernel_rfl) ?_
              refine alt_call 56 #[true, true, true, true, true, true, true, true, false] (by simp only [List.getElem?_toArray, List.getElem?_cons_succ, List.getElem?_cons_zero]; rfl) (by rfl) rfl (by rfl) (by go_simp; first | exact ⟨rfl, rfl⟩ | rfl) ?_
              with_reducible refine hmt.mono ?_
              clear hmt
              rintro e' w7 ⟨rfl, b7⟩
              refine ⟨_, rfl, b7, ?_⟩
              have hLy := hLy.below b7
              have bb := bb.thenB b7 bb.size
              clear HC hr b7 hLq
              (try simp only [Act.put, List.setIfInBounds_toArray]); (try simp only [List.set_cons_succ]); (try simp only [List.set_cons_zero])
              refine r_flt RB_refl 8 14 #[true, true, true, true, true, true, true, true, true] (by simp only [List.getElem?_toArray, List.getElem?_cons_succ, List.getElem?_cons_zero]; rfl) (by rfl) (by kernel_rfl) (by kernel_rfl) (by kernel_rfl) (fun _ _ _ _ h => h) rfl (by rfl) ?_
              apply Exists.intro
              apply And.intro
              · intro W hW
                first | (go_simp; with_reducible rfl) | go_simp
              (try simp only [Act.put, List.setIfInBounds_toArray]); (try simp only [List.set_cons_succ]); (try simp only [List.set_cons_zero])
              refine r_done (by kernel_rfl) ?_
              cases mb
              · have HE := Lib.hid (HN.out rfl)
                clear HN HY
                go_wp2_with fail
                go_ret
                exact ⟨by rw [HE.out] <;> rfl, bb⟩
              · have HE := Lib.hid (HY.out rfl)
                clear HN HY
                go_wp2_with fail
                go_roundw
                case rel => exact ⟨k + 1, by go_num, by omega, HE, hLy, bb⟩
                case measure => simp only [intOf]; omega
            · obtain rfl : k = R.length := by omega
              have HE : Hid (rightP size (pcs L) (prs R) = true) := Lib.hid (by rw [HR.out, ← HF.out, List.drop_length]; rfl)
              clear HF
              go_wp2_with fail
              go_ret
              exact ⟨by rw [HE.out] <;> rfl, bb⟩
end Go.Proofs.YthkeoimjjgmppaaDoor

/- PastRights: the walk. -/
namespace Go.Proofs.YthkeoimjjgmppaaDoor
open Go.RowKit
set_option linter.unusedVariables false
set_option maxRecDepth 100000

set_option maxHeartbeats 8000000 in
theorem rights_walk (W : World) (ht : TabE W) (a0 : Int) (i0 : I64 a0) (A : Option Addr) (L : List CmV) (c : Nat) (hL : CmsR W (Old W) A c L) (iL : ∀ s ∈ L, CmI s) (A' : Option Addr) (R : List RcV) (c' : Nat) (hR : RcsR W (Old W) A' c' R) (iR : ∀ s ∈ R, RcI s) :
    Calls Tryd.prog 5 #[.int .i64 a0, .slice A L.length c, .slice A' R.length c'] W fun e w' => e = .returned (.bool true) ∧ Below W.heap.size W w' := by
  have haw := awake23 W ht
  have hc := hL.cap
  have hm := hL.max
  have hc' := hR.cap
  have hm' := hR.max
  go_enter Tryd.func5, Tryd.ntmps5
  go_wp2_with fail
  refine haw.mono ?_
  clear haw
  rintro e w1 ⟨rfl, bb⟩
  have hfw := few_any (Old W) (Old W) A A' c c' L R w1 (hL.below bb) (hR.below bb)
  obtain ⟨z, hz⟩ : ∃ z, fewP L R = z := ⟨_, rfl⟩
  have HZ := Lib.hid hz
  rw [hz] at hfw
  clear hz
  go_wp2_with fail
  refine hfw.mono ?_
  clear hfw
  rintro e w2 ⟨rfl, b2⟩
  have bb := bb.thenB' b2
  clear b2
  cases z
  · go_wp2_with fail
    go_ret
    exact ⟨rfl, bb⟩
  obtain ⟨n1, n2, n3, n4⟩ := few_yes HZ.out
  have HR0 : Hid (∀ s ∈ R, s.call.data.length ≤ big) := Lib.hid fun s hs => by have := (n4 s hs).1; unfold big; omega
  have HL2 : Hid (∀ s ∈ L, s.e.data.length ≤ big) := Lib.hid fun s hs => by have := n3 s hs; unfold big; omega
  have HR4 : Hid (∀ s ∈ R, s.call.len ≤ 9223372036854775807) := Lib.hid fun s hs => (iR s hs).2.1.2.2.2.1.2
  clear n3 n4 HZ
  go_wp2_with fail
  go_loopw [9] (fun s9 wr => ∃ k : Nat, s9 = .int .i64 (k : Int) ∧ k ≤ R.length ∧ Below W.heap.size W wr) (fun s9 _ => R.length - (intOf s9).toNat)
  case atStart => exact ⟨0, rfl, Nat.zero_le _, bb⟩
  case round =>
    clear bb
    obtain ⟨k, rfl, hk, bb⟩ := hrel
    by_cases hkl : k < R.length
    · have hRx := hR.below bb
      have hrr := hR.all _ (List.getElem_mem hkl)
      have HR1 : Hid (R[k].call.data.length ≤ big) := Lib.hid (HR0.out _ (List.getElem_mem hkl))
      have HR3 : Hid (R[k].call.len ≤ 9223372036854775807) := Lib.hid (HR4.out _ (List.getElem_mem hkl))
      obtain ⟨ad', hA', _⟩ := hRx.at_ hkl
      subst hA'
      have HC : ∀ V, Below W.heap.size W V → _ := fun V hV => (hR.below hV).at2 hkl
      obtain ⟨mb, hmb⟩ : ∃ mb, answeredP a0 (pcs L) R[k].p = mb := ⟨_, rfl⟩
      obtain ⟨r, hrk⟩ : ∃ r, R[k] = r := ⟨_, rfl⟩
      rw [hrk] at hrr hmb HR1 HR3
      have HM := Lib.hid hmb
      have HC := Lib.hid (hrk ▸ HC)
      clear hrk hRx hmb
      go_wp2_with fail
      refine r_start (R := RB) (by rfl) (n := 17) (L := #[false, false, false, false, false, false, false, false, false, false, false, false, false, false, false, false, false]) rfl rfl ?_
      have bd : Below wr.heap.size wr wr.drew := (Below.refl _ _).drew
      have bq := bb.thenB' bd
      have HCR := Lib.hid fun (V : World) (hV : Below wr.drew.heap.size wr.drew V) => HC.out V (bq.trans (Below.mono hV bq.size))
      clear bd
      generalize wr.drew = wq at *
      refine r_flt RB_refl 1 26 #[false, true, false, false, false, false, false, false, false, false, false, false, false, false, false, false, false] (by simp only [List.getElem?_toArray, List.getElem?_cons_succ, List.getElem?_cons_zero]; rfl) (by rfl) (by kernel_rfl) (by kernel_rfl) (by kernel_rfl) (fun _ _ _ _ h => h) rfl (by rfl) ?_
      apply Exists.intro
      apply And.intro
      · intro W hW
        first | (go_simp; with_reducible rfl) | go_simp
      (try simp only [Act.put, List.setIfInBounds_toArray]); (try simp only [List.set_cons_succ]); (try simp only [List.set_cons_zero])
      refine r_flt RB_refl 2 27 #[false, true, true, false, false, false, false, false, false, false, false, false, false, false, false, false, false] (by simp only [List.getElem?_toArray, List.getElem?_cons_succ, List.getElem?_cons_zero]; rfl) (by rfl) (by kernel_rfl) (by kernel_rfl) (by kernel_rfl) (fun _ _ _ _ h => h) rfl (by rfl) ?_
      apply Exists.intro
      apply And.intro
      · intro W hW
        first | (go_simp; with_reducible rfl) | go_simp
      (try simp only [Act.put, List.setIfInBounds_toArray]); (try simp only [List.set_cons_succ]); (try simp only [List.set_cons_zero])
      refine r_flt RB_refl 3 28 #[false, true, true, true, false, false, false, false, false, false, false, false, false, false, false, false, false] (by simp only [List.getElem?_toArray, List.getElem?_cons_succ, List.getElem?_cons_zero]; rfl) (by rfl) (by kernel_rfl) (by kernel_rfl) (by kernel_rfl) (fun _ _ _ _ h => h) rfl (by rfl) ?_
      apply Exists.intro
      apply And.intro
      · intro W hW
        first | (go_simp; with_reducible rfl) | go_simp
      (try simp only [Act.put, List.setIfInBounds_toArray]); (try simp only [List.set_cons_succ]); (try simp only [List.set_cons_zero])
      refine r_flt RB_refl 4 29 #[false, true, true, true, true, false, false, false, false, false, false, false, false, false, false, false, false] (by simp only [List.getElem?_toArray, List.getElem?_cons_succ, List.getElem?_cons_zero]; rfl) (by rfl) (by kernel_rfl) (by kernel_rfl) (by kernel_rfl) (fun _ _ _ _ h => h) rfl (by rfl) ?_
      apply Exists.intro
      apply And.intro
      · intro W hW
        first | (go_simp; with_reducible rfl) | go_simp
      (try simp only [Act.put, List.setIfInBounds_toArray]); (try simp only [List.set_cons_succ]); (try simp only [List.set_cons_zero])
      refine r_flt RB_refl 5 30 #[false, true, true, true, true, true, false, false, false, false, false, false, false, false, false, false, false] (by simp only [List.getElem?_toArray, List.getElem?_cons_succ, List.getElem?_cons_zero]; rfl) (by rfl) (by kernel_rfl) (by kernel_rfl) (by kernel_rfl) (fun _ _ _ _ h => h) rfl (by rfl) ?_
      apply Exists.intro
      apply And.intro
      · intro W hW
        first | (go_simp; with_reducible rfl) | go_simp
      (try simp only [Act.put, List.setIfInBounds_toArray]); (try simp only [List.set_cons_succ]); (try simp only [List.set_cons_zero])
      refine r_flt RB_refl 6 31 #[false, true, true, true, true, true, true, false, false, false, false, false, false, false, false, false, false] (by simp only [List.getElem?_toArray, List.getElem?_cons_succ, List.getElem?_cons_zero]; rfl) (by rfl) (by kernel_rfl) (by kernel_rfl) (by kernel_rfl) (fun _ _ _ _ h => h) rfl (by rfl) ?_
      apply Exists.intro
      apply And.intro
      · intro W hW
        obtain ⟨c0, c1, c2, c3, c4, c5, c6, c7, c8, c9, c10, c11, c12, c13⟩ := HCR.out W hW
        go_simp; rfl
      (try simp only [Act.put, List.setIfInBounds_toArray]); (try simp only [List.set_cons_succ]); (try simp only [List.set_cons_zero])
      refine r_flt RB_refl 9 34 #[false, true, true, true, true, true, true, false, false, true, false, false, false, false, false, false, false] (by simp only [List.getElem?_toArray, List.getElem?_cons_succ, List.getElem?_cons_zero]; rfl) (by rfl) (by kernel_rfl) (by kernel_rfl) (by kernel_rfl) (fun _ _ _ _ h => h) rfl (by rfl) ?_
      apply Exists.intro
      apply And.intro
      · intro W hW
        first | (go_simp; with_reducible rfl) | go_simp
      (try simp only [Act.put, List.setIfInBounds_toArray]); (try simp only [List.set_cons_succ]); (try simp only [List.set_cons_zero])
      refine r_flt RB_refl 10 35 #[false, true, true, true, true, true, true, false, false, true, true, false, false, false, false, false, false] (by simp only [List.getElem?_toArray, List.getElem?_cons_succ, List.getElem?_cons_zero]; rfl) (by rfl) (by kernel_rfl) (by kernel_rfl) (by kernel_rfl) (fun _ _ _ _ h => h) rfl (by rfl) ?_
      apply Exists.intro
      apply And.intro
      · intro W hW
        first | (go_simp; with_reducible rfl) | go_simp
      (try simp only [Act.put, List.setIfInBounds_toArray]); (try simp only [List.set_cons_succ]); (try simp only [List.set_cons_zero])
      refine r_flt RB_refl 11 36 #[false, true, true, true, true, true, true, false, false, true, true, true, false, false, false, false, false] (by simp only [List.getElem?_toArray, List.getElem?_cons_succ, List.getElem?_cons_zero]; rfl) (by rfl) (by kernel_rfl) (by kernel_rfl) (by kernel_rfl) (fun _ _ _ _ h => h) rfl (by rfl) ?_
      apply Exists.intro
      apply And.intro
      · intro W hW
        first | (go_simp; with_reducible rfl) | go_simp
      (try simp only [Act.put, List.setIfInBounds_toArray]); (try simp only [List.set_cons_succ]); (try simp only [List.set_cons_zero])
      refine r_flt RB_refl 12 37 #[false, true, true, true, true, true, true, false, false, true, true, true, true, false, false, false, false] (by simp only [List.getElem?_toArray, List.getElem?_cons_succ, List.getElem?_cons_zero]; rfl) (by rfl) (by kernel_rfl) (by kernel_rfl) (by kernel_rfl) (fun _ _ _ _ h => h) rfl (by rfl) ?_
      apply Exists.intro
      apply And.intro
      · intro W hW
        first | (go_simp; with_reducible rfl) | go_simp
      (try simp only [Act.put, List.setIfInBounds_toArray]); (try simp only [List.set_cons_succ]); (try simp only [List.set_cons_zero])
      refine r_flt RB_refl 13 38 #[false, true, true, true, true, true, true, false, false, true, true, true, true, true, false, false, false] (by simp only [List.getElem?_toArray, List.getElem?_cons_succ, List.getElem?_cons_zero]; rfl) (by rfl) (by kernel_rfl) (by kernel_rfl) (by kernel_rfl) (fun _ _ _ _ h => h) rfl (by rfl) ?_
      apply Exists.intro
      apply And.intro
      · intro W hW
        first | (go_simp; with_reducible rfl) | go_simp
      (try simp only [Act.put, List.setIfInBounds_toArray]); (try simp only [List.set_cons_succ]); (try simp only [List.set_cons_zero])
      refine r_flt RB_refl 14 39 #[false, true, true, true, true, true, true, false, false, true, true, true, true, true, true, false, false] (by simp only [List.getElem?_toArray, List.getElem?_cons_succ, List.getElem?_cons_zero]; rfl) (by rfl) (by kernel_rfl) (by kernel_rfl) (by kernel_rfl) (fun _ _ _ _ h => h) rfl (by rfl) ?_
      apply Exists.intro
      apply And.intro
      · intro W hW
        obtain ⟨c0, c1, c2, c3, c4, c5, c6, c7, c8, c9, c10, c11, c12, c13⟩ := HCR.out W hW
        go_simp; rfl
      (try simp only [Act.put, List.setIfInBounds_toArray]); (try simp only [List.set_cons_succ]); (try simp only [List.set_cons_zero])
      refine r_one RB_trans 0 (by kernel_rfl) ?_
      refine alt_call 25 #[true, true, true, true, true, true, true, false, false, true, true, true, true, true, true, false, false] (by simp only [List.getElem?_toArray, List.getElem?_cons_zero]; rfl) (by rfl) rfl (by rfl) (by go_simp; first | exact ⟨rfl, rfl⟩ | rfl) ?_
      with_reducible refine (layout_any _).mono ?_
      rintro e' w2 ⟨rfl, b_⟩
      refine ⟨_, rfl, b_, ?_⟩
      have HCR := Lib.hid fun (V : World) (hV : Below w2.heap.size w2 V) => HCR.out V (b_.trans (Below.mono hV b_.size))
      have bq := bq.thenB' b_
      clear b_
      have hm := Answered_any (Old W) (Old W) _ c L a0 r w2 (hL.below bq) ⟨hrr.1.below bq, hrr.2.below bq⟩ (ht.below bq) HR1.out HL2.out HR3.out
      rw [HM.out] at hm
      unfold rcC at hm
      (try simp only [Act.put, List.setIfInBounds_toArray]); (try simp only [List.set_cons_succ]); (try simp only [List.set_cons_zero])
      refine r_one RB_trans 7 (by kernel_rfl) ?_
      refine alt_call 32 #[true, true, true, true, true, true, true, true, false, true, true, true, true, true, true, false, false] (by simp only [List.getElem?_toArray, List.getElem?_cons_succ, List.getElem?_cons_zero]; rfl) (by rfl) rfl (by rfl) (by go_simp; first | exact ⟨rfl, rfl⟩ | rfl) ?_
      with_reducible refine hm.mono ?_
      clear hm
      rintro e' w3 ⟨rfl, b_⟩
      refine ⟨_, rfl, b_, ?_⟩
      have HCR := Lib.hid fun (V : World) (hV : Below w3.heap.size w3 V) => HCR.out V (b_.trans (Below.mono hV b_.size))
      have bq := bq.thenB' b_
      clear b_
      (try simp only [Act.put, List.setIfInBounds_toArray]); (try simp only [List.set_cons_succ]); (try simp only [List.set_cons_zero])
      refine r_one RB_trans 8 (by kernel_rfl) ?_
      refine alt_call 33 #[true, true, true, true, true, true, true, true, true, true, true, true, true, true, true, false, false] (by simp only [List.getElem?_toArray, List.getElem?_cons_succ, List.getElem?_cons_zero]; rfl) (by rfl) rfl (by rfl) (by go_simp; first | exact ⟨rfl, rfl⟩ | rfl) ?_
      with_reducible refine (layout_any _).mono ?_
      rintro e' w4 ⟨rfl, b_⟩
      refine ⟨_, rfl, b_, ?_⟩
      have HCR := Lib.hid fun (V : World) (hV : Below w4.heap.size w4 V) => HCR.out V (b_.trans (Below.mono hV b_.size))
      have bq := bq.thenB' b_
      clear b_
      have hm := rAnswered_any (Old W) (Old W) _ c L a0 r w4 (hL.below bq) ⟨hrr.1.below bq, hrr.2.below bq⟩
      rw [HM.out] at hm
      unfold rcC at hm
      (try simp only [Act.put, List.setIfInBounds_toArray]); (try simp only [List.set_cons_succ]); (try simp only [List.set_cons_zero])
      refine r_one RB_trans 15 (by kernel_rfl) ?_
      refine alt_call 40 #[true, true, true, true, true, true, true, true, true, true, true, true, true, true, true, true, false] (by simp only [List.getElem?_toArray, List.getElem?_cons_succ, List.getElem?_cons_zero]; rfl) (by rfl) rfl (by rfl) (by go_simp; first | exact ⟨rfl, rfl⟩ | rfl) ?_
      with_reducible refine hm.mono ?_
      clear hm
      rintro e' w5 ⟨rfl, b_⟩
      refine ⟨_, rfl, b_, ?_⟩
      have bq := bq.thenB' b_
      clear b_ HCR
      (try simp only [Act.put, List.setIfInBounds_toArray]); (try simp only [List.set_cons_succ]); (try simp only [List.set_cons_zero])
      refine r_flt RB_refl 16 41 #[true, true, true, true, true, true, true, true, true, true, true, true, true, true, true, true, true] (by simp only [List.getElem?_toArray, List.getElem?_cons_succ, List.getElem?_cons_zero]; rfl) (by rfl) (by kernel_rfl) (by kernel_rfl) (by kernel_rfl) (fun _ _ _ _ h => h) rfl (by rfl) ?_
      apply Exists.intro
      apply And.intro
      · intro W hW
        first | (go_simp; with_reducible rfl) | go_simp
      (try simp only [Act.put, List.setIfInBounds_toArray]); (try simp only [List.set_cons_succ]); (try simp only [List.set_cons_zero])
      refine r_done (by kernel_rfl) ?_
      have hbn : (mb != mb) = false := by simp
      go_wp2_with fail
      go_loopw [10] (fun s10 wx => ∃ q : Nat, s10 = .int .i64 (q : Int) ∧ q ≤ L.length ∧ Below W.heap.size W wx) (fun s10 _ => L.length - (intOf s10).toNat)
      case atStart => exact ⟨0, rfl, Nat.zero_le _, bq⟩
      case round =>
        clear bq bb
        obtain ⟨q, rfl, hq, bx⟩ := hrel
        by_cases hql : q < L.length
        · have hss := hL.all _ (List.getElem_mem hql)
          have HS2 : Hid (L[q].e.data.length ≤ big) := Lib.hid (HL2.out _ (List.getElem_mem hql))
          obtain ⟨ad, hA, _⟩ := hL.at_ hql
          subst hA
          have HD : ∀ V, Below W.heap.size W V → _ := fun V hV => (hL.below hV).at2 hql
          obtain ⟨s, hsk⟩ : ∃ s, L[q] = s := ⟨_, rfl⟩
          rw [hsk] at hss HS2
          obtain ⟨mz, hmz⟩ : ∃ mz, matchP r.p s.p = mz := ⟨_, rfl⟩
          have HM2 := Lib.hid hmz
          have HD := Lib.hid (hsk ▸ HD)
          clear hsk hmz
          go_wp2_with fail
          refine r_start (R := RB) (by rfl) (n := 19) (L := #[false, false, false, false, false, false, false, false, false, false, false, false, false, false, false, false, false, false, false]) rfl rfl ?_
          have bd : Below wr.heap.size wr wr.drew := (Below.refl _ _).drew
          have bq := bx.thenB' bd
          have HCR := Lib.hid fun (V : World) (hV : Below wr.drew.heap.size wr.drew V) => HC.out V (bq.trans (Below.mono hV bq.size))
          have HCL := Lib.hid fun (V : World) (hV : Below wr.drew.heap.size wr.drew V) => HD.out V (bq.trans (Below.mono hV bq.size))
          clear bd
          generalize wr.drew = wq at *
          have hm := Match_any r s (Old W) (Old W) wq ⟨hrr.1.below bq, hrr.2.below bq⟩ (RdC.below hss bq) (ht.below bq) HR1.out HS2.out
          rw [HM2.out] at hm
          unfold rcC cmC at hm
          refine r_flt RB_refl 0 48 #[true, false, false, false, false, false, false, false, false, false, false, false, false, false, false, false, false, false, false] (by simp only [List.getElem?_toArray, List.getElem?_cons_zero]; rfl) (by rfl) (by kernel_rfl) (by kernel_rfl) (by kernel_rfl) (fun _ _ _ _ h => h) rfl (by rfl) ?_
          apply Exists.intro
          apply And.intro
          · intro W hW
            first | (go_simp; with_reducible rfl) | go_simp
          (try simp only [Act.put, List.setIfInBounds_toArray]); (try simp only [List.set_cons_succ]); (try simp only [List.set_cons_zero])
          refine r_flt RB_refl 1 49 #[true, true, false, false, false, false, false, false, false, false, false, false, false, false, false, false, false, false, false] (by simp only [List.getElem?_toArray, List.getElem?_cons_succ, List.getElem?_cons_zero]; rfl) (by rfl) (by kernel_rfl) (by kernel_rfl) (by kernel_rfl) (fun _ _ _ _ h => h) rfl (by rfl) ?_
          apply Exists.intro
          apply And.intro
          · intro W hW
            first | (go_simp; with_reducible rfl) | go_simp
          (try simp only [Act.put, List.setIfInBounds_toArray]); (try simp only [List.set_cons_succ]); (try simp only [List.set_cons_zero])
          refine r_flt RB_refl 2 50 #[true, true, true, false, false, false, false, false, false, false, false, false, false, false, false, false, false, false, false] (by simp only [List.getElem?_toArray, List.getElem?_cons_succ, List.getElem?_cons_zero]; rfl) (by rfl) (by kernel_rfl) (by kernel_rfl) (by kernel_rfl) (fun _ _ _ _ h => h) rfl (by rfl) ?_
          apply Exists.intro
          apply And.intro
          · intro W hW
            first | (go_simp; with_reducible rfl) | go_simp
          (try simp only [Act.put, List.setIfInBounds_toArray]); (try simp only [List.set_cons_succ]); (try simp only [List.set_cons_zero])
          refine r_flt RB_refl 3 51 #[true, true, true, true, false, false, false, false, false, false, false, false, false, false, false, false, false, false, false] (by simp only [List.getElem?_toArray, List.getElem?_cons_succ, List.getElem?_cons_zero]; rfl) (by rfl) (by kernel_rfl) (by kernel_rfl) (by kernel_rfl) (fun _ _ _ _ h => h) rfl (by rfl) ?_
          apply Exists.intro
          apply And.intro
          · intro W hW
            obtain ⟨c0, c1, c2, c3, c4, c5, c6, c7, c8, c9, c10, c11, c12, c13⟩ := HCR.out W hW
            go_simp; rfl
          (try simp only [Act.put, List.setIfInBounds_toArray]); (try simp only [List.set_cons_succ]); (try simp only [List.set_cons_zero])
          refine r_flt RB_refl 4 52 #[true, true, true, true, true, false, false, false, false, false, false, false, false, false, false, false, false, false, false] (by simp only [List.getElem?_toArray, List.getElem?_cons_succ, List.getElem?_cons_zero]; rfl) (by rfl) (by kernel_rfl) (by kernel_rfl) (by kernel_rfl) (fun _ _ _ _ h => h) rfl (by rfl) ?_
          apply Exists.intro
          apply And.intro
          · intro W hW
            first | (go_simp; with_reducible rfl) | go_simp
          (try simp only [Act.put, List.setIfInBounds_toArray]); (try simp only [List.set_cons_succ]); (try simp only [List.set_cons_zero])
          refine r_flt RB_refl 5 53 #[true, true, true, true, true, true, false, false, false, false, false, false, false, false, false, false, false, false, false] (by simp only [List.getElem?_toArray, List.getElem?_cons_succ, List.getElem?_cons_zero]; rfl) (by rfl) (by kernel_rfl) (by kernel_rfl) (by kernel_rfl) (fun _ _ _ _ h => h) rfl (by rfl) ?_
          apply Exists.intro
          apply And.intro
          · intro W hW
            first | (go_simp; with_reducible rfl) | go_simp
          (try simp only [Act.put, List.setIfInBounds_toArray]); (try simp only [List.set_cons_succ]); (try simp only [List.set_cons_zero])
          refine r_flt RB_refl 6 54 #[true, true, true, true, true, true, true, false, false, false, false, false, false, false, false, false, false, false, false] (by simp only [List.getElem?_toArray, List.getElem?_cons_succ, List.getElem?_cons_zero]; rfl) (by rfl) (by kernel_rfl) (by kernel_rfl) (by kernel_rfl) (fun _ _ _ _ h => h) rfl (by rfl) ?_
          apply Exists.intro
          apply And.intro
          · intro W hW
            first | (go_simp; with_reducible rfl) | go_simp
          (try simp only [Act.put, List.setIfInBounds_toArray]); (try simp only [List.set_cons_succ]); (try simp only [List.set_cons_zero])
          refine r_flt RB_refl 7 55 #[true, true, true, true, true, true, true, true, false, false, false, false, false, false, false, false, false, false, false] (by simp only [List.getElem?_toArray, List.getElem?_cons_succ, List.getElem?_cons_zero]; rfl) (by rfl) (by kernel_rfl) (by kernel_rfl) (by kernel_rfl) (fun _ _ _ _ h => h) rfl (by rfl) ?_
          apply Exists.intro
          apply And.intro
          · intro W hW
            obtain ⟨d0, d1, d2, d3, d4, d5, d6, d7, d8⟩ := HCL.out W hW
            go_simp; rfl
          (try simp only [Act.put, List.setIfInBounds_toArray]); (try simp only [List.set_cons_succ]); (try simp only [List.set_cons_zero])
          refine r_flt RB_refl 9 57 #[true, true, true, true, true, true, true, true, false, true, false, false, false, false, false, false, false, false, false] (by simp only [List.getElem?_toArray, List.getElem?_cons_succ, List.getElem?_cons_zero]; rfl) (by rfl) (by kernel_rfl) (by kernel_rfl) (by kernel_rfl) (fun _ _ _ _ h => h) rfl (by rfl) ?_
          apply Exists.intro
          apply And.intro
          · intro W hW
            first | (go_simp; with_reducible rfl) | go_simp
          (try simp only [Act.put, List.setIfInBounds_toArray]); (try simp only [List.set_cons_succ]); (try simp only [List.set_cons_zero])
          refine r_flt RB_refl 10 58 #[true, true, true, true, true, true, true, true, false, true, true, false, false, false, false, false, false, false, false] (by simp only [List.getElem?_toArray, List.getElem?_cons_succ, List.getElem?_cons_zero]; rfl) (by rfl) (by kernel_rfl) (by kernel_rfl) (by kernel_rfl) (fun _ _ _ _ h => h) rfl (by rfl) ?_
          apply Exists.intro
          apply And.intro
          · intro W hW
            first | (go_simp; with_reducible rfl) | go_simp
          (try simp only [Act.put, List.setIfInBounds_toArray]); (try simp only [List.set_cons_succ]); (try simp only [List.set_cons_zero])
          refine r_flt RB_refl 11 59 #[true, true, true, true, true, true, true, true, false, true, true, true, false, false, false, false, false, false, false] (by simp only [List.getElem?_toArray, List.getElem?_cons_succ, List.getElem?_cons_zero]; rfl) (by rfl) (by kernel_rfl) (by kernel_rfl) (by kernel_rfl) (fun _ _ _ _ h => h) rfl (by rfl) ?_
          apply Exists.intro
          apply And.intro
          · intro W hW
            first | (go_simp; with_reducible rfl) | go_simp
          (try simp only [Act.put, List.setIfInBounds_toArray]); (try simp only [List.set_cons_succ]); (try simp only [List.set_cons_zero])
          refine r_flt RB_refl 12 60 #[true, true, true, true, true, true, true, true, false, true, true, true, true, false, false, false, false, false, false] (by simp only [List.getElem?_toArray, List.getElem?_cons_succ, List.getElem?_cons_zero]; rfl) (by rfl) (by kernel_rfl) (by kernel_rfl) (by kernel_rfl) (fun _ _ _ _ h => h) rfl (by rfl) ?_
          apply Exists.intro
          apply And.intro
          · intro W hW
            obtain ⟨c0, c1, c2, c3, c4, c5, c6, c7, c8, c9, c10, c11, c12, c13⟩ := HCR.out W hW
            go_simp; rfl
          (try simp only [Act.put, List.setIfInBounds_toArray]); (try simp only [List.set_cons_succ]); (try simp only [List.set_cons_zero])
          refine r_flt RB_refl 13 61 #[true, true, true, true, true, true, true, true, false, true, true, true, true, true, false, false, false, false, false] (by simp only [List.getElem?_toArray, List.getElem?_cons_succ, List.getElem?_cons_zero]; rfl) (by rfl) (by kernel_rfl) (by kernel_rfl) (by kernel_rfl) (fun _ _ _ _ h => h) rfl (by rfl) ?_
          apply Exists.intro
          apply And.intro
          · intro W hW
            first | (go_simp; with_reducible rfl) | go_simp
          (try simp only [Act.put, List.setIfInBounds_toArray]); (try simp only [List.set_cons_succ]); (try simp only [List.set_cons_zero])
          refine r_flt RB_refl 14 62 #[true, true, true, true, true, true, true, true, false, true, true, true, true, true, true, false, false, false, false] (by simp only [List.getElem?_toArray, List.getElem?_cons_succ, List.getElem?_cons_zero]; rfl) (by rfl) (by kernel_rfl) (by kernel_rfl) (by kernel_rfl) (fun _ _ _ _ h => h) rfl (by rfl) ?_
          apply Exists.intro
          apply And.intro
          · intro W hW
            first | (go_simp; with_reducible rfl) | go_simp
          (try simp only [Act.put, List.setIfInBounds_toArray]); (try simp only [List.set_cons_succ]); (try simp only [List.set_cons_zero])
          refine r_flt RB_refl 15 63 #[true, true, true, true, true, true, true, true, false, true, true, true, true, true, true, true, false, false, false] (by simp only [List.getElem?_toArray, List.getElem?_cons_succ, List.getElem?_cons_zero]; rfl) (by rfl) (by kernel_rfl) (by kernel_rfl) (by kernel_rfl) (fun _ _ _ _ h => h) rfl (by rfl) ?_
          apply Exists.intro
          apply And.intro
          · intro W hW
            first | (go_simp; with_reducible rfl) | go_simp
          (try simp only [Act.put, List.setIfInBounds_toArray]); (try simp only [List.set_cons_succ]); (try simp only [List.set_cons_zero])
          refine r_flt RB_refl 16 64 #[true, true, true, true, true, true, true, true, false, true, true, true, true, true, true, true, true, false, false] (by simp only [List.getElem?_toArray, List.getElem?_cons_succ, List.getElem?_cons_zero]; rfl) (by rfl) (by kernel_rfl) (by kernel_rfl) (by kernel_rfl) (fun _ _ _ _ h => h) rfl (by rfl) ?_
          apply Exists.intro
          apply And.intro
          · intro W hW
            obtain ⟨d0, d1, d2, d3, d4, d5, d6, d7, d8⟩ := HCL.out W hW
            go_simp; rfl
          (try simp only [Act.put, List.setIfInBounds_toArray]); (try simp only [List.set_cons_succ]); (try simp only [List.set_cons_zero])
          refine r_one RB_trans 8 (by kernel_rfl) ?_
          refine alt_call 56 #[true, true, true, true, true, true, true, true, true, true, true, true, true, true, true, true, true, false, false] (by simp only [List.getElem?_toArray, List.getElem?_cons_succ, List.getElem?_cons_zero]; rfl) (by rfl) rfl (by rfl) (by go_simp; first | exact ⟨rfl, rfl⟩ | rfl) ?_
          with_reducible refine hm.mono ?_
          clear hm
          rintro e' w3 ⟨rfl, b_⟩
          refine ⟨_, rfl, b_, ?_⟩
          have HCR := Lib.hid fun (V : World) (hV : Below w3.heap.size w3 V) => HCR.out V (b_.trans (Below.mono hV b_.size))
          have HCL := Lib.hid fun (V : World) (hV : Below w3.heap.size w3 V) => HCL.out V (b_.trans (Below.mono hV b_.size))
          have bq := bq.thenB' b_
          have hm := rMatch_any r s (Old W) (Old W) w3 ⟨hrr.1.below bq, hrr.2.below bq⟩ (RdC.below hss bq)
          rw [HM2.out] at hm
          unfold rcC cmC at hm
          clear b_
          (try simp only [Act.put, List.setIfInBounds_toArray]); (try simp only [List.set_cons_succ]); (try simp only [List.set_cons_zero])
          refine r_one RB_trans 17 (by kernel_rfl) ?_
          refine alt_call 65 #[true, true, true, true, true, true, true, true, true, true, true, true, true, true, true, true, true, true, false] (by simp only [List.getElem?_toArray, List.getElem?_cons_succ, List.getElem?_cons_zero]; rfl) (by rfl) rfl (by rfl) (by go_simp; first | exact ⟨rfl, rfl⟩ | rfl) ?_
          with_reducible refine hm.mono ?_
          clear hm
          rintro e' w5 ⟨rfl, b_⟩
          refine ⟨_, rfl, b_, ?_⟩
          have bq := bq.thenB' b_
          clear b_ HCR HCL
          (try simp only [Act.put, List.setIfInBounds_toArray]); (try simp only [List.set_cons_succ]); (try simp only [List.set_cons_zero])
          refine r_flt RB_refl 18 66 #[true, true, true, true, true, true, true, true, true, true, true, true, true, true, true, true, true, true, true] (by simp only [List.getElem?_toArray, List.getElem?_cons_succ, List.getElem?_cons_zero]; rfl) (by rfl) (by kernel_rfl) (by kernel_rfl) (by kernel_rfl) (fun _ _ _ _ h => h) rfl (by rfl) ?_
          apply Exists.intro
          apply And.intro
          · intro W hW
            first | (go_simp; with_reducible rfl) | go_simp
          (try simp only [Act.put, List.setIfInBounds_toArray]); (try simp only [List.set_cons_succ]); (try simp only [List.set_cons_zero])
          refine r_done (by kernel_rfl) ?_
          have hbn : (mz != mz) = false := by simp
          go_wp2_with fail
          go_roundw
          case rel => exact ⟨q + 1, by go_num, by omega, bq⟩
          case measure => simp only [intOf]; omega
        · obtain rfl : q = L.length := by omega
          go_wp2_with fail
          go_roundw
          case rel => exact ⟨k + 1, by go_num, by omega, bx⟩
          case measure => simp only [intOf]; omega
    · obtain rfl : k = R.length := by omega
      go_wp2_with fail
      obtain ⟨oz, hoz⟩ : ∃ oz, ownedP (pcs L) (prs R) = oz := ⟨_, rfl⟩
      obtain ⟨rz, hrz⟩ : ∃ rz, rightP a0 (pcs L) (prs R) = rz := ⟨_, rfl⟩
      have HOZ := Lib.hid hoz
      have HRZ := Lib.hid hrz
      have hbe : (oz == oz) = true := by simp
      have hbr : (rz == rz) = true := by simp
      clear hoz hrz
      have hm := Owned_any (Old W) (Old W) A A' c c' L R wr (hL.below bb) (hR.below bb) (ht.below bb) HR0.out HL2.out (by omega)
      rw [HOZ.out] at hm
      go_wp2_with fail
      with_reducible refine hm.mono ?_
      rintro e' w2 ⟨rfl, b_⟩
      have bb := bb.thenB' b_
      clear b_
      have hm := rOwned_any (Old W) (Old W) A A' c c' L R w2 (hL.below bb) (hR.below bb) (by omega)
      rw [HOZ.out] at hm
      go_wp2_with fail
      with_reducible refine hm.mono ?_
      rintro e' w3 ⟨rfl, b_⟩
      have bb := bb.thenB' b_
      clear b_
      clear hm
      go_wp2_with fail
      with_reducible refine (layout_any _).mono ?_
      rintro e' w4 ⟨rfl, b_⟩
      have bb := bb.thenB' b_
      clear b_
      have hm := Right_any (Old W) (Old W) A A' c c' L R a0 w4 (hL.below bb) (hR.below bb) (ht.below bb) HR0.out HL2.out HR4.out (by omega)
      rw [HRZ.out] at hm
      go_wp2_with fail
      with_reducible refine hm.mono ?_
      rintro e' w5 ⟨rfl, b_⟩
      have bb := bb.thenB' b_
      clear b_
      clear hm
      go_wp2_with fail
      with_reducible refine (layout_any _).mono ?_
      rintro e' w6 ⟨rfl, b_⟩
      have bb := bb.thenB' b_
      clear b_
      have hm := rRight_any (Old W) (Old W) A A' c c' L R a0 w6 (hL.below bb) (hR.below bb) (by omega)
      rw [HRZ.out] at hm
      go_wp2_with fail
      with_reducible refine hm.mono ?_
      rintro e' w7 ⟨rfl, b_⟩
      have bb := bb.thenB' b_
      clear b_
      clear hm
      go_wp2_with fail
      go_ret
      exact ⟨rfl, bb⟩
end Go.Proofs.YthkeoimjjgmppaaDoor
