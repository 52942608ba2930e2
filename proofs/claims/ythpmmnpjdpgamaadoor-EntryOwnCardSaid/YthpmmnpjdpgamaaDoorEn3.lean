/- Entries: Clean by kinds; the document's Clean and Same. -/
import Derived.Test.YthpmmnpjdpgamaaDoorEn2
namespace Go.Proofs.YthpmmnpjdpgamaaDoor
open Go.RowKit
set_option linter.unusedVariables false
set_option maxRecDepth 100000

theorem five_of (k : Int) : Five (decide (k = 1 ∨ k = 2)) (decide (k = 2 ∨ k = 3)) (decide (k = 5 ∨ k = 6)) (decide (k = 1)) := by
  unfold Five
  simp only [decide_eq_true_eq, decide_eq_false_iff_not]
  omega
/-- What Clean tells. -/
def Cleaned (e : E7) (w : World) (r : Ending) (w' : World) : Prop := ∃ A' c', r = .returned (enV (cleanO e) A' c') ∧ OwnB w' w.heap.size (.slice A' (cleanO e).data.length c') (cleanO e).data ∧ Below w.heap.size w w'
theorem Clean_any (e : E7) (D : Nat → Prop) (A : Option Addr) (c : Nat) (w : World) (hr : RdB w D A e.data) (hl : e.data.length ≤ big) (ht : TabE w) :
    Calls Tryd.prog 13 #[enV e A c] w (Cleaned e w) := by
  obtain ⟨s, o, k, f, l, n, d⟩ := e
  obtain ⟨t1, t2, t3, t4⟩ := named_tab k
  refine (Clean_b s o k f l n d _ _ _ _ (five_of k) t1 t2 t3 t4 D A c w hr hl ht).mono ?_
  rintro r w' ⟨v, rfl, ho, hb⟩
  simp only [decide_eq_true_eq] at ho ⊢
  obtain ⟨A9, c9, rfl, _, _⟩ := OwnB.form ho
  exact ⟨A9, c9, rfl, ho, hb⟩
theorem cleanO_k (s o k f l n : Int) (d : List UInt8) :
    (k = 1 → cleanO ⟨s, o, k, f, l, n, d⟩ = ⟨s, o, 1, f, 0, 0, d⟩) ∧ (k = 2 → cleanO ⟨s, o, k, f, l, n, d⟩ = ⟨s, o, 2, f, l, 0, []⟩) ∧ (k = 3 → cleanO ⟨s, o, k, f, l, n, d⟩ = ⟨s, o, 3, 0, l, 0, []⟩) ∧
    (k = 5 ∨ k = 6 → cleanO ⟨s, o, k, f, l, n, d⟩ = ⟨s, o, k, 0, 0, n, []⟩) ∧ (¬ (k = 1 ∨ k = 2 ∨ k = 3 ∨ k = 5 ∨ k = 6) → cleanO ⟨s, o, k, f, l, n, d⟩ = ⟨s, o, k, 0, 0, 0, []⟩) := by
  refine ⟨?_, ?_, ?_, ?_, ?_⟩
  · rintro rfl; rfl
  · rintro rfl; rfl
  · rintro rfl; rfl
  · rintro (rfl | rfl) <;> rfl
  · intro h
    unfold cleanO
    dsimp only
    rw [if_neg (by omega), if_neg (by omega), if_neg (by omega), if_neg (by omega)]
/-- What the document's Clean tells: the same memory. -/
def RCleaned (e : E7) (D : Nat → Prop) (w : World) (r : Ending) (w' : World) : Prop := ∃ A' c', r = .returned (enV (cleanO e) A' c') ∧ RdB w' D A' (cleanO e).data ∧ Below w.heap.size w w' ∧ (cleanO e).data.length ≤ c' ∧ c' ≤ 9223372036854775807
theorem three_r {w : World} {x1 x2 x3 : Array Value} : Blk (((w.alloc (.cells x1 24)).alloc (.cells x2 24)).alloc (.cells x3 24)) (w.heap.size + 1) 24 x2 := by
  have h := (Blk.new (w.alloc (.cells x1 24)) 24 x2).below (below_new _ (.cells x3 24))
  rwa [show (w.alloc (.cells x1 24)).heap.size = w.heap.size + 1 from by show (w.heap.push _).size = _; simp] at h
theorem three_b {w : World} {o1 o2 o3 : Obj} : Below w.heap.size w (((w.alloc o1).alloc o2).alloc o3) := ((below_new w o1).thenB' (below_new _ o2)).thenB' (below_new _ o3)
theorem three_rd {w : World} {D : Nat → Prop} {A : Option Addr} {d : List UInt8} {o1 o2 o3 : Obj} (h : RdB w D A d) : RdB (((w.alloc o1).alloc o2).alloc o3) D A d := ((Rd.alloc h o1).alloc o2).alloc o3
set_option maxHeartbeats 2000000 in
theorem rClean_any (e : E7) (D : Nat → Prop) (A : Option Addr) (c : Nat) (w : World) (hr : RdB w D A e.data) (h1 : e.data.length ≤ c) (h2 : c ≤ 9223372036854775807) :
    Calls Tryd.prog 14 #[enV e A c] w (RCleaned e D w) := by
  obtain ⟨s, o, k, f, l, n, d⟩ := e
  dsimp only at hr h1
  have HR := Lib.hid hr
  have HC1 := Lib.hid h1
  have HC2 := Lib.hid h2
  clear hr h1 h2
  have HK := Lib.hid (cleanO_k s o k f l n d)
  show Calls Tryd.prog 14 #[.agg #[.int .i64 s, .int .i64 o, .int .i64 k, .int .i64 f, .int .i64 l, .int .i64 n, .slice A d.length c]] w _
  by_cases hk1 : k = 1
  · subst hk1
    have HE := Lib.hid (HK.out.1 rfl)
    clear HK
    go_enter Tryd.func14, Tryd.ntmps14
    go_wp2_with fail
    refine bodyPost_ret (results_cell rfl _ _ (w.heap.size + 1) _ _ (0, 0) _ rfl three_r Tryd.underlying24 rfl infoEn7) rfl ?_
    unfold RCleaned
    rw [HE.out]
    exact ⟨A, c, rfl, three_rd HR.out, three_b, HC1.out, HC2.out⟩
  · have hq1 : (k == 1) = false := by simp [hk1]
    by_cases hk2 : k = 2
    · subst hk2
      have HE := Lib.hid (HK.out.2.1 rfl)
      clear HK
      go_enter Tryd.func14, Tryd.ntmps14
      go_wp2_with fail
      refine bodyPost_ret (results_cell rfl _ _ (w.heap.size + 1) _ _ (0, 0) _ rfl three_r Tryd.underlying24 rfl infoEn7) rfl ?_
      unfold RCleaned
      rw [HE.out]
      exact ⟨none, 0, rfl, RdB.nil, three_b, Nat.zero_le _, Nat.zero_le _⟩
    · have hq2 : (k == 2) = false := by simp [hk2]
      by_cases hk3 : k = 3
      · subst hk3
        have HE := Lib.hid (HK.out.2.2.1 rfl)
        clear HK
        go_enter Tryd.func14, Tryd.ntmps14
        go_wp2_with fail
        refine bodyPost_ret (results_cell rfl _ _ (w.heap.size + 1) _ _ (0, 0) _ rfl three_r Tryd.underlying24 rfl infoEn7) rfl ?_
        unfold RCleaned
        rw [HE.out]
        exact ⟨none, 0, rfl, RdB.nil, three_b, Nat.zero_le _, Nat.zero_le _⟩
      · have hq3 : (k == 3) = false := by simp [hk3]
        by_cases hk5 : k = 5
        · subst hk5
          have HE := Lib.hid (HK.out.2.2.2.1 (.inl rfl))
          clear HK
          go_enter Tryd.func14, Tryd.ntmps14
          go_wp2_with fail
          refine bodyPost_ret (results_cell rfl _ _ (w.heap.size + 1) _ _ (0, 0) _ rfl three_r Tryd.underlying24 rfl infoEn7) rfl ?_
          unfold RCleaned
          rw [HE.out]
          exact ⟨none, 0, rfl, RdB.nil, three_b, Nat.zero_le _, Nat.zero_le _⟩
        · have hq5 : (k == 5) = false := by simp [hk5]
          by_cases hk6 : k = 6
          · subst hk6
            have HE := Lib.hid (HK.out.2.2.2.1 (.inr rfl))
            clear HK
            go_enter Tryd.func14, Tryd.ntmps14
            go_wp2_with fail
            refine bodyPost_ret (results_cell rfl _ _ (w.heap.size + 1) _ _ (0, 0) _ rfl three_r Tryd.underlying24 rfl infoEn7) rfl ?_
            unfold RCleaned
            rw [HE.out]
            exact ⟨none, 0, rfl, RdB.nil, three_b, Nat.zero_le _, Nat.zero_le _⟩
          · have hq6 : (k == 6) = false := by simp [hk6]
            have HE := Lib.hid (HK.out.2.2.2.2 (by omega))
            clear hk1 hk2 hk3 hk5 hk6
            clear HK
            go_enter Tryd.func14, Tryd.ntmps14
            go_wp2_with fail
            refine bodyPost_ret (results_cell rfl _ _ (w.heap.size + 1) _ _ (0, 0) _ rfl three_r Tryd.underlying24 rfl infoEn7) rfl ?_
            unfold RCleaned
            rw [HE.out]
            exact ⟨none, 0, rfl, RdB.nil, three_b, Nat.zero_le _, Nat.zero_le _⟩

/-- Are two entries the same? -/
def sameO (a b : E7) : Bool := decide (a.seq = b.seq ∧ a.owner = b.owner ∧ a.kind = b.kind ∧ a.off = b.off ∧ a.len = b.len ∧ a.snap = b.snap ∧ a.data = b.data)
theorem sameO_iff {a b : E7} : sameO a b = true ↔ a = b := by
  unfold sameO
  rw [decide_eq_true_iff]
  cases a; cases b
  simp
theorem str_beq (a b : List UInt8) : (str a == str b) = decide (a = b) := by
  have h : (str a == str b) = (a.toArray == b.toArray) := by
    show ByteArray.instBEq.beq (str a) (str b) = _
    rfl
  rw [h]
  by_cases e : a = b
  · subst e; simp
  · simp [e]

theorem three_rd2 {w : World} {D : Nat → Prop} {A : Option Addr} {d : List UInt8} {o1 o2 : Obj} (h : RdB w D A d) : RdB ((w.alloc o1).alloc o2) D A d := (Rd.alloc h o1).alloc o2
theorem two_al {w : World} {o1 o2 : Obj} : Below w.heap.size w ((w.alloc o1).alloc o2) := (below_new w o1).thenB' (below_new _ o2)
set_option maxHeartbeats 2000000 in
theorem rSame_any (a b : E7) (D D' : Nat → Prop) (A A' : Option Addr) (c c' : Nat) (w : World) (ha : RdB w D A a.data) (hb : RdB w D' A' b.data) :
    Calls Tryd.prog 12 #[enV a A c, enV b A' c'] w fun r w' => r = .returned (.bool (sameO a b)) ∧ Below w.heap.size w w' := by
  obtain ⟨s, o, k, f, l, n, d⟩ := a
  obtain ⟨s2, o2, k2, f2, l2, n2, d2⟩ := b
  dsimp only at ha hb
  have k1 := str_rd (c := c) (three_rd2 (o1 := .cells #[.int .i64 s, .int .i64 o, .int .i64 k, .int .i64 f, .int .i64 l, .int .i64 n, .slice A d.length c] 24) (o2 := .cells #[.int .i64 s2, .int .i64 o2, .int .i64 k2, .int .i64 f2, .int .i64 l2, .int .i64 n2, .slice A' d2.length c'] 24) ha) rfl
  have k2' := str_rd (c := c') (three_rd2 (o1 := .cells #[.int .i64 s, .int .i64 o, .int .i64 k, .int .i64 f, .int .i64 l, .int .i64 n, .slice A d.length c] 24) (o2 := .cells #[.int .i64 s2, .int .i64 o2, .int .i64 k2, .int .i64 f2, .int .i64 l2, .int .i64 n2, .slice A' d2.length c'] 24) hb) rfl
  clear ha hb
  have HS : Hid (∀ y, (sameO ⟨s, o, k, f, l, n, d⟩ ⟨s2, o2, k2, f2, l2, n2, d2⟩ = y) → y = decide (s = s2 ∧ o = o2 ∧ k = k2 ∧ f = f2 ∧ l = l2 ∧ n = n2 ∧ d = d2)) := fun y h => h.symm
  generalize sameO ⟨s, o, k, f, l, n, d⟩ ⟨s2, o2, k2, f2, l2, n2, d2⟩ = y at *
  have HY := Lib.hid (HS.out y rfl)
  clear HS
  show Calls Tryd.prog 12 #[.agg #[.int .i64 s, .int .i64 o, .int .i64 k, .int .i64 f, .int .i64 l, .int .i64 n, .slice A d.length c], .agg #[.int .i64 s2, .int .i64 o2, .int .i64 k2, .int .i64 f2, .int .i64 l2, .int .i64 n2, .slice A' d2.length c']] w _
  by_cases hx0 : s = s2
  case neg =>
    have HV : Hid (y = false) := by have h := HY.out; rw [h]; exact decide_eq_false fun hh => by simp_all
    have hb : (s == s2) = false := by simp [hx0]
    clear hx0
    go_enter Tryd.func12, Tryd.ntmps12
    go_wp2_with fail
    go_ret
    exact ⟨by rw [HV.out] <;> rfl, two_al⟩
  subst hx0
  by_cases hx1 : o = o2
  case neg =>
    have HV : Hid (y = false) := by have h := HY.out; rw [h]; exact decide_eq_false fun hh => by simp_all
    have hb : (o == o2) = false := by simp [hx1]
    clear hx1
    go_enter Tryd.func12, Tryd.ntmps12
    go_wp2_with fail
    go_ret
    exact ⟨by rw [HV.out] <;> rfl, two_al⟩
  subst hx1
  by_cases hx2 : k = k2
  case neg =>
    have HV : Hid (y = false) := by have h := HY.out; rw [h]; exact decide_eq_false fun hh => by simp_all
    have hb : (k == k2) = false := by simp [hx2]
    clear hx2
    go_enter Tryd.func12, Tryd.ntmps12
    go_wp2_with fail
    go_ret
    exact ⟨by rw [HV.out] <;> rfl, two_al⟩
  subst hx2
  by_cases hx3 : f = f2
  case neg =>
    have HV : Hid (y = false) := by have h := HY.out; rw [h]; exact decide_eq_false fun hh => by simp_all
    have hb : (f == f2) = false := by simp [hx3]
    clear hx3
    go_enter Tryd.func12, Tryd.ntmps12
    go_wp2_with fail
    go_ret
    exact ⟨by rw [HV.out] <;> rfl, two_al⟩
  subst hx3
  by_cases hx4 : l = l2
  case neg =>
    have HV : Hid (y = false) := by have h := HY.out; rw [h]; exact decide_eq_false fun hh => by simp_all
    have hb : (l == l2) = false := by simp [hx4]
    clear hx4
    go_enter Tryd.func12, Tryd.ntmps12
    go_wp2_with fail
    go_ret
    exact ⟨by rw [HV.out] <;> rfl, two_al⟩
  subst hx4
  by_cases hx5 : n = n2
  case neg =>
    have HV : Hid (y = false) := by have h := HY.out; rw [h]; exact decide_eq_false fun hh => by simp_all
    have hb : (n == n2) = false := by simp [hx5]
    clear hx5
    go_enter Tryd.func12, Tryd.ntmps12
    go_wp2_with fail
    go_ret
    exact ⟨by rw [HV.out] <;> rfl, two_al⟩
  subst hx5
  have HV : Hid (y = (d == d2)) := by have h := HY.out; unfold Hid; rw [h, Bool.eq_iff_iff, decide_eq_true_iff, beq_iff_eq]; exact ⟨fun h => h.2.2.2.2.2.2, fun h => ⟨rfl, rfl, rfl, rfl, rfl, rfl, h⟩⟩
  go_enter Tryd.func12, Tryd.ntmps12
  go_wp2_with fail
  go_ret
  exact ⟨by rw [HV.out] <;> rfl, two_al⟩
end Go.Proofs.YthpmmnpjdpgamaaDoor
