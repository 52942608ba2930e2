/- Parts of the proof, joined: PsE Ab9 AbF AbG. -/
import Derived.Test.YthkeoimjjgmppaaDoorQd
import Derived.Test.YthkeoimjjgmppaaDoorQf
import Derived.Deep.CutRange
import Derived.Deep.CutBlock
/- Entries: Clean by kinds; the document's Clean and Same. -/
namespace Go.Proofs.YthkeoimjjgmppaaDoor
open Go.RowKit
set_option linter.unusedVariables false
set_option maxRecDepth 100000

theorem five_of (k : Int) : Five (decide (k = 1 ∨ k = 2)) (decide (k = 2 ∨ k = 3)) (decide (k = 5 ∨ k = 6)) (decide (k = 1)) := by
  unfold Five
  simp only [decide_eq_true_eq, decide_eq_false_iff_not]
  omega
/-- What Clean tells. -/
def Cleaned (e : E7) (w : World) (r : Ending) (w' : World) : Prop := ∃ A' c', r = .returned (enV (cleanO e) A' c') ∧ OwnB w' w.heap.size (.slice A' (cleanO e).data.length c') (cleanO e).data ∧ Below w.heap.size w w'
theorem eClean_any (e : E7) (D : Nat → Prop) (A : Option Addr) (c : Nat) (w : World) (hr : RdB w D A e.data) (hl : e.data.length ≤ big) (ht : TabE w) :
    Calls Tryd.prog 47 #[enV e A c] w (Cleaned e w) := by
  obtain ⟨s, o, k, f, l, n, d⟩ := e
  obtain ⟨t1, t2, t3, t4⟩ := named_tab k
  refine (Clean_b s o k f l n d _ _ _ _ (five_of k) t1 t2 t3 t4 D A c w hr hl ht).mono ?_
  rintro r w' ⟨v, rfl, ho, hb⟩
  simp only [decide_eq_true_eq] at ho ⊢
  obtain ⟨A9, c9, rfl, _, _⟩ := OwnB.form ho
  exact ⟨A9, c9, rfl, ho, hb⟩
theorem cleanO_k (s o k f l n : Int) (d : List UInt8) :
    (k = 1 → cleanO ⟨s, o, k, f, l, n, d⟩ = ⟨s, o, 1, f, 0, 0, d⟩) ∧ (k = 2 → cleanO ⟨s, o, k, f, l, n, d⟩ = ⟨s, o, 2, f, l, 0, []⟩) ∧ (k = 3 → cleanO ⟨s, o, k, f, l, n, d⟩ = ⟨s, o, 3, 0, l, 0, []⟩) ∧
    (k = 5 ∨ k = 6 → cleanO ⟨s, o, k, f, l, n, d⟩ = ⟨s, o, k, 0, 0, n, []⟩) ∧ (¬ (k = 1 ∨ k = 2 ∨ k = 3 ∨ k = 5 ∨ k = 6) → cleanO ⟨s, o, k, f, l, n, d⟩ = ⟨s, o, k, 0, 0, 0, []⟩) := by
  refine ⟨?_, ?_, ?_, ?_, ?_⟩
  · rintro rfl; rfl
  · rintro rfl; rfl
  · rintro rfl; rfl
  · rintro (rfl | rfl) <;> rfl
  · intro h
    unfold cleanO
    dsimp only
    rw [if_neg (by omega), if_neg (by omega), if_neg (by omega), if_neg (by omega)]
/-- What the document's Clean tells: the same memory. -/
def RCleaned (e : E7) (D : Nat → Prop) (w : World) (r : Ending) (w' : World) : Prop := ∃ A' c', r = .returned (enV (cleanO e) A' c') ∧ RdB w' D A' (cleanO e).data ∧ Below w.heap.size w w' ∧ (cleanO e).data.length ≤ c' ∧ c' ≤ 9223372036854775807
theorem three_r {w : World} {x1 x2 x3 : Array Value} : Blk (((w.alloc (.cells x1 32)).alloc (.cells x2 32)).alloc (.cells x3 32)) (w.heap.size + 1) 32 x2 := by
  have h := (Blk.new (w.alloc (.cells x1 32)) 32 x2).below (below_new _ (.cells x3 32))
  rwa [show (w.alloc (.cells x1 32)).heap.size = w.heap.size + 1 from by show (w.heap.push _).size = _; simp] at h
theorem three_b {w : World} {o1 o2 o3 : Obj} : Below w.heap.size w (((w.alloc o1).alloc o2).alloc o3) := ((below_new w o1).thenB' (below_new _ o2)).thenB' (below_new _ o3)
theorem three_rd {w : World} {D : Nat → Prop} {A : Option Addr} {d : List UInt8} {o1 o2 o3 : Obj} (h : RdB w D A d) : RdB (((w.alloc o1).alloc o2).alloc o3) D A d := ((Rd.alloc h o1).alloc o2).alloc o3
set_option maxHeartbeats 2000000 in
theorem erClean_any (e : E7) (D : Nat → Prop) (A : Option Addr) (c : Nat) (w : World) (hr : RdB w D A e.data) (h1 : e.data.length ≤ c) (h2 : c ≤ 9223372036854775807) :
    Calls Tryd.prog 49 #[enV e A c] w (RCleaned e D w) := by
  obtain ⟨s, o, k, f, l, n, d⟩ := e
  dsimp only at hr h1
  have HR := Lib.hid hr
  have HC1 := Lib.hid h1
  have HC2 := Lib.hid h2
  clear hr h1 h2
  have HK := Lib.hid (cleanO_k s o k f l n d)
  show Calls Tryd.prog 49 #[.agg #[.int .i64 s, .int .i64 o, .int .i64 k, .int .i64 f, .int .i64 l, .int .i64 n, .slice A d.length c]] w _
  by_cases hk1 : k = 1
  · subst hk1
    have HE := Lib.hid (HK.out.1 rfl)
    clear HK
    go_enter Tryd.func49, Tryd.ntmps49
    go_wp2_with fail
    refine bodyPost_ret (results_cell rfl _ _ (w.heap.size + 1) _ _ (0, 0) _ rfl three_r Tryd.underlying32 rfl infoEn7) rfl ?_
    unfold RCleaned
    rw [HE.out]
    exact ⟨A, c, rfl, three_rd HR.out, three_b, HC1.out, HC2.out⟩
  · have hq1 : (k == 1) = false := by simp [hk1]
    by_cases hk2 : k = 2
    · subst hk2
      have HE := Lib.hid (HK.out.2.1 rfl)
      clear HK
      go_enter Tryd.func49, Tryd.ntmps49
      go_wp2_with fail
      refine bodyPost_ret (results_cell rfl _ _ (w.heap.size + 1) _ _ (0, 0) _ rfl three_r Tryd.underlying32 rfl infoEn7) rfl ?_
      unfold RCleaned
      rw [HE.out]
      exact ⟨none, 0, rfl, RdB.nil, three_b, Nat.zero_le _, Nat.zero_le _⟩
    · have hq2 : (k == 2) = false := by simp [hk2]
      by_cases hk3 : k = 3
      · subst hk3
        have HE := Lib.hid (HK.out.2.2.1 rfl)
        clear HK
        go_enter Tryd.func49, Tryd.ntmps49
        go_wp2_with fail
        refine bodyPost_ret (results_cell rfl _ _ (w.heap.size + 1) _ _ (0, 0) _ rfl three_r Tryd.underlying32 rfl infoEn7) rfl ?_
        unfold RCleaned
        rw [HE.out]
        exact ⟨none, 0, rfl, RdB.nil, three_b, Nat.zero_le _, Nat.zero_le _⟩
      · have hq3 : (k == 3) = false := by simp [hk3]
        by_cases hk5 : k = 5
        · subst hk5
          have HE := Lib.hid (HK.out.2.2.2.1 (.inl rfl))
          clear HK
          go_enter Tryd.func49, Tryd.ntmps49
          go_wp2_with fail
          refine bodyPost_ret (results_cell rfl _ _ (w.heap.size + 1) _ _ (0, 0) _ rfl three_r Tryd.underlying32 rfl infoEn7) rfl ?_
          unfold RCleaned
          rw [HE.out]
          exact ⟨none, 0, rfl, RdB.nil, three_b, Nat.zero_le _, Nat.zero_le _⟩
        · have hq5 : (k == 5) = false := by simp [hk5]
          by_cases hk6 : k = 6
          · subst hk6
            have HE := Lib.hid (HK.out.2.2.2.1 (.inr rfl))
            clear HK
            go_enter Tryd.func49, Tryd.ntmps49
            go_wp2_with fail
            refine bodyPost_ret (results_cell rfl _ _ (w.heap.size + 1) _ _ (0, 0) _ rfl three_r Tryd.underlying32 rfl infoEn7) rfl ?_
            unfold RCleaned
            rw [HE.out]
            exact ⟨none, 0, rfl, RdB.nil, three_b, Nat.zero_le _, Nat.zero_le _⟩
          · have hq6 : (k == 6) = false := by simp [hk6]
            have HE := Lib.hid (HK.out.2.2.2.2 (by omega))
            clear hk1 hk2 hk3 hk5 hk6
            clear HK
            go_enter Tryd.func49, Tryd.ntmps49
            go_wp2_with fail
            refine bodyPost_ret (results_cell rfl _ _ (w.heap.size + 1) _ _ (0, 0) _ rfl three_r Tryd.underlying32 rfl infoEn7) rfl ?_
            unfold RCleaned
            rw [HE.out]
            exact ⟨none, 0, rfl, RdB.nil, three_b, Nat.zero_le _, Nat.zero_le _⟩

/-- Are two entries the same? -/
def sameO (a b : E7) : Bool := decide (a.seq = b.seq ∧ a.owner = b.owner ∧ a.kind = b.kind ∧ a.off = b.off ∧ a.len = b.len ∧ a.snap = b.snap ∧ a.data = b.data)
theorem sameO_iff {a b : E7} : sameO a b = true ↔ a = b := by
  unfold sameO
  rw [decide_eq_true_iff]
  cases a; cases b
  simp
theorem three_rd2 {w : World} {D : Nat → Prop} {A : Option Addr} {d : List UInt8} {o1 o2 : Obj} (h : RdB w D A d) : RdB ((w.alloc o1).alloc o2) D A d := (Rd.alloc h o1).alloc o2
theorem two_al {w : World} {o1 o2 : Obj} : Below w.heap.size w ((w.alloc o1).alloc o2) := (below_new w o1).thenB' (below_new _ o2)
set_option maxHeartbeats 2000000 in
theorem erSame_any (a b : E7) (D D' : Nat → Prop) (A A' : Option Addr) (c c' : Nat) (w : World) (ha : RdB w D A a.data) (hb : RdB w D' A' b.data) :
    Calls Tryd.prog 50 #[enV a A c, enV b A' c'] w fun r w' => r = .returned (.bool (sameO a b)) ∧ Below w.heap.size w w' := by
  obtain ⟨s, o, k, f, l, n, d⟩ := a
  obtain ⟨s2, o2, k2, f2, l2, n2, d2⟩ := b
  dsimp only at ha hb
  have k1 := str_rd (c := c) (three_rd2 (o1 := .cells #[.int .i64 s, .int .i64 o, .int .i64 k, .int .i64 f, .int .i64 l, .int .i64 n, .slice A d.length c] 32) (o2 := .cells #[.int .i64 s2, .int .i64 o2, .int .i64 k2, .int .i64 f2, .int .i64 l2, .int .i64 n2, .slice A' d2.length c'] 32) ha) rfl
  have k2' := str_rd (c := c') (three_rd2 (o1 := .cells #[.int .i64 s, .int .i64 o, .int .i64 k, .int .i64 f, .int .i64 l, .int .i64 n, .slice A d.length c] 32) (o2 := .cells #[.int .i64 s2, .int .i64 o2, .int .i64 k2, .int .i64 f2, .int .i64 l2, .int .i64 n2, .slice A' d2.length c'] 32) hb) rfl
  clear ha hb
  have HS : Hid (∀ y, (sameO ⟨s, o, k, f, l, n, d⟩ ⟨s2, o2, k2, f2, l2, n2, d2⟩ = y) → y = decide (s = s2 ∧ o = o2 ∧ k = k2 ∧ f = f2 ∧ l = l2 ∧ n = n2 ∧ d = d2)) := fun y h => h.symm
  generalize sameO ⟨s, o, k, f, l, n, d⟩ ⟨s2, o2, k2, f2, l2, n2, d2⟩ = y at *
  have HY := Lib.hid (HS.out y rfl)
  clear HS
  show Calls Tryd.prog 50 #[.agg #[.int .i64 s, .int .i64 o, .int .i64 k, .int .i64 f, .int .i64 l, .int .i64 n, .slice A d.length c], .agg #[.int .i64 s2, .int .i64 o2, .int .i64 k2, .int .i64 f2, .int .i64 l2, .int .i64 n2, .slice A' d2.length c']] w _
  by_cases hx0 : s = s2
  case neg =>
    have HV : Hid (y = false) := by have h := HY.out; rw [h]; exact decide_eq_false fun hh => by simp_all
    have hb : (s == s2) = false := by simp [hx0]
    clear hx0
    go_enter Tryd.func50, Tryd.ntmps50
    go_wp2_with fail
    go_ret
    exact ⟨by rw [HV.out] <;> rfl, two_al⟩
  subst hx0
  by_cases hx1 : o = o2
  case neg =>
    have HV : Hid (y = false) := by have h := HY.out; rw [h]; exact decide_eq_false fun hh => by simp_all
    have hb : (o == o2) = false := by simp [hx1]
    clear hx1
    go_enter Tryd.func50, Tryd.ntmps50
    go_wp2_with fail
    go_ret
    exact ⟨by rw [HV.out] <;> rfl, two_al⟩
  subst hx1
  by_cases hx2 : k = k2
  case neg =>
    have HV : Hid (y = false) := by have h := HY.out; rw [h]; exact decide_eq_false fun hh => by simp_all
    have hb : (k == k2) = false := by simp [hx2]
    clear hx2
    go_enter Tryd.func50, Tryd.ntmps50
    go_wp2_with fail
    go_ret
    exact ⟨by rw [HV.out] <;> rfl, two_al⟩
  subst hx2
  by_cases hx3 : f = f2
  case neg =>
    have HV : Hid (y = false) := by have h := HY.out; rw [h]; exact decide_eq_false fun hh => by simp_all
    have hb : (f == f2) = false := by simp [hx3]
    clear hx3
    go_enter Tryd.func50, Tryd.ntmps50
    go_wp2_with fail
    go_ret
    exact ⟨by rw [HV.out] <;> rfl, two_al⟩
  subst hx3
  by_cases hx4 : l = l2
  case neg =>
    have HV : Hid (y = false) := by have h := HY.out; rw [h]; exact decide_eq_false fun hh => by simp_all
    have hb : (l == l2) = false := by simp [hx4]
    clear hx4
    go_enter Tryd.func50, Tryd.ntmps50
    go_wp2_with fail
    go_ret
    exact ⟨by rw [HV.out] <;> rfl, two_al⟩
  subst hx4
  by_cases hx5 : n = n2
  case neg =>
    have HV : Hid (y = false) := by have h := HY.out; rw [h]; exact decide_eq_false fun hh => by simp_all
    have hb : (n == n2) = false := by simp [hx5]
    clear hx5
    go_enter Tryd.func50, Tryd.ntmps50
    go_wp2_with fail
    go_ret
    exact ⟨by rw [HV.out] <;> rfl, two_al⟩
  subst hx5
  have HV : Hid (y = (d == d2)) := by have h := HY.out; unfold Hid; rw [h, Bool.eq_iff_iff, decide_eq_true_iff, beq_iff_eq]; exact ⟨fun h => h.2.2.2.2.2.2, fun h => ⟨rfl, rfl, rfl, rfl, rfl, rfl, h⟩⟩
  go_enter Tryd.func50, Tryd.ntmps50
  go_wp2_with fail
  go_ret
  exact ⟨by rw [HV.out] <;> rfl, two_al⟩
end Go.Proofs.YthkeoimjjgmppaaDoor

/- An image behind an operation, plain; clear and copy in the middle of a row of one's own. -/
namespace Go.Proofs.YthkeoimjjgmppaaDoor
open Go.RowKit
set_option linter.unusedVariables false
set_option maxRecDepth 100000

/-- Bytes with others laid over them. -/
def laidO (d : List UInt8) (off : Nat) (x : List UInt8) : List UInt8 := d.take off ++ x ++ d.drop (off + x.length)
theorem laidO_len (d : List UInt8) (off : Nat) (x : List UInt8) (h : off + x.length ≤ d.length) : (laidO d off x).length = d.length := by
  unfold laidO
  rw [List.length_append, List.length_append, List.length_take, List.length_drop]
  omega
def sizeO (d : List UInt8) (n : Nat) : List UInt8 := d.take n ++ List.replicate (n - d.length) 0
theorem sizeO_len (d : List UInt8) (n : Nat) : (sizeO d n).length = n := by
  unfold sizeO
  rw [List.length_append, List.length_take, List.length_replicate]
  omega
def doP (p : PI) (e : E7) : PI × Int × Int :=
  if mayI p = false then (zeroI, 0, 1) else if mayE e = false then (zeroI, 0, 180)
  else if e.kind = 1 then (if (p.d.length : Int) < e.off + e.data.length then (zeroI, 0, 180) else ({ p with d := laidO p.d e.off.toNat e.data }, 0, 0))
  else if e.kind = 2 then (if (p.d.length : Int) < e.off + e.len then (zeroI, 0, 180) else ({ p with d := laidO p.d e.off.toNat (List.replicate e.len.toNat 0) }, 0, 0))
  else if e.kind = 3 then ({ p with d := sizeO p.d e.len.toNat }, 0, 0)
  else if e.kind = 4 then (if 4 ≤ p.S.length ∨ 100 ≤ p.last then (zeroI, 0, 110) else (⟨p.d, p.S ++ [(p.last + 1, p.d)], p.last + 1⟩, p.last + 1, 0))
  else if findO (idsP p.S) e.snap < 0 then (zeroI, 0, 182)
  else if e.kind = 5 then ({ p with S := p.S.eraseIdx (findO (idsP p.S) e.snap).toNat }, 0, 0)
  else ({ p with d := (p.S.getD (findO (idsP p.S) e.snap).toNat (0, [])).2 }, 0, 0)

theorem mayI_bd {p : PI} (h : mayI p = true) : p.d.length ≤ 512 ∧ p.S.length ≤ 4 ∧ 0 ≤ p.last ∧ p.last ≤ 100 ∧ copiesO p.last 0 p.S = true := by
  unfold mayI at h
  simp only [Bool.and_eq_true, decide_eq_true_eq] at h
  exact ⟨h.1, h.2.1, h.2.2.1, h.2.2.2.1, h.2.2.2.2⟩
theorem copiesO_bd (last : Int) : ∀ (a : Int) (S : List (Int × List UInt8)), copiesO last a S = true → ∀ s ∈ S, s.2.length ≤ 512 ∧ a < s.1 ∧ s.1 ≤ last
  | _, [], _, s, hs => by simp at hs
  | a, x :: r, h, s, hs => by
    rw [copiesO] at h
    simp only [Bool.and_eq_true, decide_eq_true_eq] at h
    rcases List.mem_cons.1 hs with rfl | hs
    · exact ⟨h.2.2.1, h.1, h.2.1⟩
    · have := copiesO_bd last x.1 r h.2.2.2 s hs
      exact ⟨this.1, by omega, this.2.2⟩

/-! ### a segment of a row of one's own -/
theorem laid_row (cur : List Value) (d x : List UInt8) (off c : Nat) (hc : cur.length = c) (ht : cur.take d.length = d.map cB) (hd : d.length ≤ c) (hx : off + x.length ≤ d.length) :
    (cur.take off ++ x.map cB ++ cur.drop (off + x.length)).take d.length = (laidO d off x).map cB := by
  unfold laidO
  rw [List.map_append, List.map_append, List.map_take, List.map_drop, ← ht]
  apply List.ext_getElem?
  intro j
  simp only [List.getElem?_take, List.getElem?_append, List.getElem?_drop, List.length_append, List.length_take, List.length_map]
  by_cases h1 : j < d.length
  · rw [if_pos h1]
    by_cases h2 : j < off
    · rw [if_pos (by omega), if_pos (by omega), if_pos h2, if_pos (by omega), if_pos (by omega), if_pos h2, if_pos h1]
    · by_cases h3 : j < off + x.length
      · rw [if_pos (by omega), if_neg (by omega), if_pos (by omega), if_neg (by omega)]
        congr 1
        omega
      · rw [if_neg (by omega), if_neg (by omega), if_pos (by omega)]
        congr 1
        omega
  · rw [if_neg h1, if_neg (by omega), if_neg (by omega)]
/-- What a segment of a row of one's own is, at a cut of the row. -/
theorem own_seg {w : World} {base c : Nat} {A : Option Addr} {d : List UInt8} (h : OwnB w base (.slice A d.length c) d) (off : Nat) (x : List UInt8) (hx : off + x.length ≤ d.length) (h0 : 0 < x.length) :
    ∃ g cur, A = some ⟨g, 0, none⟩ ∧ cutA A off c 1 = some ⟨g, off, none⟩ ∧ Blk w g 5 cur ∧ off + x.length ≤ cur.size ∧
      (let w' := w.setRow g (cur.toList.take off ++ x.map cB ++ cur.toList.drop (off + x.length)).toArray
       OwnB w' base (.slice A (laidO d off x).length c) (laidO d off x) ∧ Mod (fun b => (Value.slice A d.length c).ownBlock = some b) w w') := by
  have hl := laidO_len d off x hx
  rcases h.2 with ⟨hv, h2⟩ | ⟨g, cap, cur, hv, hb, hg, hnc, hcm, hcs, ht⟩
  · omega
  · injection hv with hA _ hc
    subst hA hc
    have hcs1 : cur.size = c := by simpa using hcs
    have ht1 : cur.toList.take d.length = d.map cB := by simpa using ht
    refine ⟨g, cur, rfl, ?_, hg, by omega, ?_, ?_⟩
    · unfold cutA
      rw [if_neg (by omega)]
      simp only [Nat.mul_one, Option.map_some, add_head]
    · refine ⟨by simp, .inr ⟨g, c, _, rfl, hb, setRow_heap w g cur _ _ _ hg, by rw [hl]; exact hnc, hcm, ?_, ?_⟩⟩
      · simp
        omega
      · rw [hl]
        have := laid_row cur.toList d x off c (by simpa using hcs1) ht1 hnc hx
        simpa using this
    · exact (mod_setRow _).mono fun k _ hk => by rw [hk]; rfl
theorem laidO_nil (d : List UInt8) (off : Nat) : laidO d off [] = d := by unfold laidO; simp
theorem run_clearB (w : World) (ty : TypeId) (base c : Nat) (A : Option Addr) (d : List UInt8) (h : OwnB w base (.slice A d.length c) d) (off n k : Nat) (hx : off + n ≤ d.length) :
    ∃ w', (Builtin.clear_ #[23] ty #[.slice (cutA A off c 1) n k]).run Tryd.prog w = .ok (.tuple #[]) w' ∧ OwnB w' base (.slice A (laidO d off (List.replicate n 0)).length c) (laidO d off (List.replicate n 0)) ∧ Mod (fun b => (Value.slice A d.length c).ownBlock = some b) w w' := by
  rcases Nat.eq_zero_or_pos n with h0 | h0
  · subst h0
    rw [List.replicate_zero, laidO_nil]
    refine ⟨w, ?_, h, Mod.refl _ _⟩
    cases hq : cutA A off c 1 <;> simp [Builtin.clear_, run_underlying Tryd.underlying23]
  · obtain ⟨g, cur, hA, hcut, hB, hsz, hO, hM⟩ := own_seg h off (List.replicate n 0) (by rw [List.length_replicate]; exact hx) (by rw [List.length_replicate]; exact h0)
    refine ⟨_, ?_, hO, hM⟩
    rw [hcut]
    have hz : ∀ w, (zeroValue 5).run Tryd.prog w = .ok (.int .u8 0) w := fun _ => by kernel_rfl
    have hzc : (Builtin.zeroCells (Value.int .u8 0).cells n).toList = (List.replicate n (0 : UInt8)).map cB := by
      rw [show (Value.int .u8 0).cells = #[.int .u8 0] from rfl, List.map_replicate]
      simp [Builtin.zeroCells]
      apply List.ext_getElem
      · simp
      · intro i h1 h2
        simp [Nat.mod_one]
        rfl
    have hst := run_storeCells_at Tryd.prog g off 5 ((List.replicate n (0 : UInt8)).map cB) 0 cur w hB (by simpa using hsz) (cB_one _)
    simp only [Nat.add_zero] at hst
    obtain ⟨m, rfl⟩ : ∃ m, n = m + 1 := ⟨n - 1, by omega⟩
    simp only [Builtin.clear_, List.getElem?_toArray, List.getElem?_cons_zero, run_underlying Tryd.underlying23, Sem.run_bind, Result.andThen_ok, hz, hzc, hst, Sem.run_pure]
    simp
theorem run_copyB (w : World) (ty : TypeId) (base c : Nat) (A : Option Addr) (d : List UInt8) (h : OwnB w base (.slice A d.length c) d) (off k : Nat) (D : Nat → Prop) (X : Option Addr) (cx : Nat) (x : List UInt8) (hr : RdB w D X x) (hx : off + x.length ≤ d.length) :
    ∃ w', (Builtin.copy_ #[23, 23] ty #[.slice (cutA A off c 1) x.length k, .slice X x.length cx]).run Tryd.prog w = .ok (goInt (x.length : Nat)) w' ∧ OwnB w' base (.slice A (laidO d off x).length c) (laidO d off x) ∧ Mod (fun b => (Value.slice A d.length c).ownBlock = some b) w w' := by
  rcases Nat.eq_zero_or_pos x.length with h0 | h0
  · have e : x = [] := List.eq_nil_of_length_eq_zero h0
    subst e
    rw [laidO_nil]
    exact ⟨w, run_copy_none w _ _ ty 5 _ X 0 k 0 cx Tryd.underlying23 (by kernel_rfl) rfl, h, Mod.refl _ _⟩
  · obtain ⟨g, cur, hA, hcut, hB, hsz, hO, hM⟩ := own_seg h off x hx h0
    obtain ⟨ad, rfl, _, hc⟩ := hr.2 h0
    have hrun := run_copy_row (P := Tryd.prog) w 23 23 ty 5 g off x.length k ad x.length cx cur 5 (x.map cB) Tryd.underlying23 (by kernel_rfl) hB (by simp) hc (by simpa using hsz) (cB_one _)
    rw [List.length_map] at hrun
    exact ⟨_, by rw [hcut]; exact hrun, hO, hM⟩
section
variable {w w' : World} {ops : Array Oper} {rest : List Oper} {o : Oper} {a : Act} {Q : Exit → Act → World → Prop}
theorem wpList_clearD (hgd : o.guard = none) (x : Operand) (ho : o.op = .call { callee := .builtin .clear, args := #[x], argTypes := #[23] }) (u : Value) (hx : a.eval x = u)
    (hrun : (Builtin.clear_ #[23] o.type #[u]).run Tryd.prog w = .ok (.tuple #[]) w') (h : wpList Tryd.prog ops Q rest (a.put o.dst (.tuple #[])) w') : wpList Tryd.prog ops Q (o :: rest) a w := by
  refine wpList_plain hgd fun _ hK => ?_
  unfold Oper.wp execOp
  simp only [ho, resolve, invoke, builtin, Sem.run_bind, Sem.run_pure, Result.andThen_ok, List.map_toArray, List.map_cons, List.map_nil, hx, hrun]
  exact hK _ _ h
theorem wpList_copyD (hgd : o.guard = none) (x y : Operand) (ho : o.op = .call { callee := .builtin .copy, args := #[x, y], argTypes := #[23, 23] }) (u v r : Value) (hx : a.eval x = u) (hy : a.eval y = v)
    (hrun : (Builtin.copy_ #[23, 23] o.type #[u, v]).run Tryd.prog w = .ok r w') (h : wpList Tryd.prog ops Q rest (a.put o.dst r) w') : wpList Tryd.prog ops Q (o :: rest) a w := by
  refine wpList_plain hgd fun _ hK => ?_
  unfold Oper.wp execOp
  simp only [ho, resolve, invoke, builtin, Sem.run_bind, Sem.run_pure, Result.andThen_ok, List.map_toArray, List.map_cons, List.map_nil, hx, hy, hrun]
  exact hK _ _ h
end
theorem results_cell_tmp2 {P : Program} {fn : Func} {p t s : Tmp} {ty : TypeId} (h : fn.results = #[.cell p ty, .tmp t, .tmp s]) (tmps : Array Value) (w : World) (g : Nat) (T : TypeId) (cs : Array Value) (fr : Nat × Nat) (d : TypeDesc)
    (hp : tmps.getD p undef = .pointer (some ⟨g, 0, none⟩)) (hg : w.heap[g]? = some (.cells cs T fr))
    (hu : P.underlying ty = some d) (hd : (match d with | .struct _ | .array _ _ => true | _ => false) = true) (hi : (P.info? ty).map (·.size) = some cs.size) :
    (results fn tmps).run P w = .ok (.tuple #[.agg cs, tmps.getD t undef, tmps.getD s undef]) w := by
  have hp' : tmps[p]?.getD undef = .pointer (some ⟨g, 0, none⟩) := by simpa using hp
  simp [results, h, hp', asAddr, run_loadVar_row w g T ty cs fr d hg hu hd hi]
end Go.Proofs.YthkeoimjjgmppaaDoor

/- An image behind an operation: what is refused ahead of the copy. -/
namespace Go.Proofs.YthkeoimjjgmppaaDoor
open Go.RowKit
set_option linter.unusedVariables false
set_option maxRecDepth 100000

theorem infoEy : (Tryd.prog.info? 32).map (·.size) = some 7 := by kernel_rfl
theorem no18_any (z : Int) (w : World) : Calls Tryd.prog 52 #[.int .i64 z] w fun e w' => e = .returned (.tuple #[.agg zI3, .int .i64 0, .int .i64 z]) ∧ Below w.heap.size w w' := by
  have bb := below_new w (.cells zI3 35)
  have hQ := Blk.new w 35 zI3
  unfold zI3 at *
  go_enter Tryd.func52, Tryd.ntmps52
  go_wp2_with first
    | (with_reducible show wpList _ _ _ _ _ _
       refine wpList_rowB rfl 35 (.tmp 2) (.tmp 5) rfl w.heap.size 35 _ #[.slice none 0 0, .slice none 0 0, .int .i64 0] rfl rfl hQ infoIm rfl (imA_ok ⟨none, [], 0, none, [], 0, 0⟩) ?_
       intro w3 hq m3)
  (try simp only [Exit.inBlock, Exit.then])
  refine bodyPost_ret (results_cell_tmp2 rfl _ _ w.heap.size _ _ (0, 0) _ rfl hq Tryd.underlying35 rfl infoIm) rfl ?_
  exact ⟨rfl, bb.thenM m3 bb.size fun i hi e => by omega⟩
theorem do_pre (i : ImV) (e : E7) (A : Option Addr) (c : Nat) (w : World) :
    let w0 := ((w.alloc (.cells (imA i) 35)).alloc (.cells (enA e A c) 32)).alloc (.cells zI3 35)
    Blk w0 w.heap.size 35 (imA i) ∧ Blk w0 (w.heap.size + 1) 32 (enA e A c) ∧ Blk w0 (w.heap.size + 2) 35 zI3 ∧ Below w.heap.size w w0 ∧ w0.heap.size = w.heap.size + 3 := by
  intro w0
  have b1 := below_new w (.cells (imA i) 35)
  have hB := Blk.new w 35 (imA i)
  have s1 : (w.alloc (.cells (imA i) 35)).heap.size = w.heap.size + 1 := Array.size_push ..
  generalize hw1 : w.alloc (.cells (imA i) 35) = w1 at *
  have b2 := below_new w1 (.cells (enA e A c) 32)
  have hE := Blk.new w1 32 (enA e A c)
  have s2 : (w1.alloc (.cells (enA e A c) 32)).heap.size = w1.heap.size + 1 := Array.size_push ..
  generalize hw2 : w1.alloc (.cells (enA e A c) 32) = w2 at *
  have b3 := below_new w2 (.cells zI3 35)
  have hQ := Blk.new w2 35 zI3
  have s3 : (w2.alloc (.cells zI3 35)).heap.size = w2.heap.size + 1 := Array.size_push ..
  have e0 : w0 = w2.alloc (.cells zI3 35) := by show ((w.alloc _).alloc _).alloc _ = _; rw [hw1, hw2]
  rw [e0]
  rw [s1] at hE s2
  rw [s2] at hQ s3
  exact ⟨(hB.below b2).below b3, hE.below b3, hQ, (b1.thenB' b2).thenB' b3, s3⟩
theorem doP_a {p : PI} {e : E7} (h : mayI p = false) : doP p e = (zeroI, 0, 1) := by unfold doP; rw [if_pos h]
theorem doP_b {p : PI} {e : E7} (h : mayI p = true) (h' : mayE e = false) : doP p e = (zeroI, 0, 180) := by unfold doP; rw [if_neg (by rw [h]; decide), if_pos h']
theorem doP_c {p : PI} {e : E7} (h : mayI p = true) (h' : mayE e = true) : doP p e = if e.kind = 1 then (if (p.d.length : Int) < e.off + e.data.length then (zeroI, 0, 180) else ({ p with d := laidO p.d e.off.toNat e.data }, 0, 0))
  else if e.kind = 2 then (if (p.d.length : Int) < e.off + e.len then (zeroI, 0, 180) else ({ p with d := laidO p.d e.off.toNat (List.replicate e.len.toNat 0) }, 0, 0))
  else if e.kind = 3 then ({ p with d := sizeO p.d e.len.toNat }, 0, 0)
  else if e.kind = 4 then (if 4 ≤ p.S.length ∨ 100 ≤ p.last then (zeroI, 0, 110) else (⟨p.d, p.S ++ [(p.last + 1, p.d)], p.last + 1⟩, p.last + 1, 0))
  else if findO (idsP p.S) e.snap < 0 then (zeroI, 0, 182)
  else if e.kind = 5 then ({ p with S := p.S.eraseIdx (findO (idsP p.S) e.snap).toNat }, 0, 0)
  else ({ p with d := (p.S.getD (findO (idsP p.S) e.snap).toNat (0, [])).2 }, 0, 0) := by
  unfold doP
  rw [if_neg (by rw [h]; decide), if_neg (by rw [h']; decide)]

set_option maxHeartbeats 8000000 in
set_option maxRecDepth 100000 in
theorem Do_a (D De : Nat → Prop) (i : ImV) (e : E7) (A : Option Addr) (c : Nat) (w : World) (hr : ImR w D i) (hrd : RdB w De A e.data) (hdc : e.data.length ≤ c) (hcm : c ≤ 9223372036854775807) (hm : mayI i.p = false) :
    Calls Tryd.prog 30 #[.agg (imA i), enV e A c] w fun x w' => ∃ j : ImV, x = .returned (.tuple #[.agg (imA j), .int .i64 (doP i.p e).2.1, .int .i64 (doP i.p e).2.2]) ∧ j.p = (doP i.p e).1 ∧ OwnIm w' w.heap.size j ∧ Below w.heap.size w w' := by
  obtain ⟨hB, hE, hQ, bb, hs0⟩ := do_pre i e A c w
  have hr0 := hr.below bb
  have hck := Check18_any D i _ hr0
  have hce := fun w => Check_any e A c w
  have hent : ∀ (args : Array Value) (w : World), (callFunc 52 args).run Tryd.prog w = .ok (.enter 52 args) w := Go.Proofs.enters_of Tryd.func52 (by kernel_rfl) rfl
  have E := Lib.hid (doP_a (e := e) hm)
  rw [hm, show eno false 1 = 1 from rfl] at hck
  clear hm hr0 hce
  unfold enV
  unfold imA enA zI3 at *
  generalize hw0 : ((w.alloc (.cells #[.slice i.DA i.d.length i.dc, .slice i.CA i.S.length i.cc, .int .i64 i.last] 35)).alloc (.cells #[.int .i64 e.seq, .int .i64 e.owner, .int .i64 e.kind, .int .i64 e.off, .int .i64 e.len, .int .i64 e.snap, .slice A e.data.length c] 32)).alloc (.cells #[.slice none 0 0, .slice none 0 0, .int .i64 0] 35) = w0 at *
  go_enter Tryd.func30, Tryd.ntmps30
  go_wp2_with first
    | (with_reducible show wpList _ _ _ _ _ _
       refine wpList_load_row rfl 35 (.tmp 2) rfl w.heap.size rfl 35 _ (0, 0) _ hB Tryd.underlying35 rfl infoIm ?_)
  refine hck.mono ?_
  clear hck hw0
  rintro e w2 ⟨rfl, b2⟩
  have hQ := hQ.below b2
  have bb := bb.thenB' b2
  go_wp2_with fail
  refine (no18_any _ _).mono ?_
  rintro e w8 ⟨rfl, b8⟩
  have hQ := hQ.below b8
  have bb := bb.thenB' b8
  unfold zI3
  go_wp2_with first
    | (with_reducible show wpList _ _ _ _ _ _
       refine wpList_rowB rfl 35 (.tmp 4) (.tmp 18) rfl (w.heap.size + 2) 35 _ zI3 rfl rfl hQ infoIm rfl (imA_ok ⟨none, [], 0, none, [], 0, 0⟩) ?_
       intro w4 hq4 m4)
  (try simp only [Exit.inBlock, Exit.then])
  refine bodyPost_ret (results_cell_tmp2 rfl _ _ (w.heap.size + 2) _ _ (0, 0) _ rfl hq4 Tryd.underlying35 rfl infoIm) rfl ?_
  rw [E.out]
  exact ⟨⟨none, [], 0, none, [], 0, 0⟩, rfl, rfl, OwnIm.zero, bb.thenM m4 bb.size (fun i hi e => by omega)⟩

set_option maxHeartbeats 8000000 in
set_option maxRecDepth 100000 in
theorem Do_b (D De : Nat → Prop) (i : ImV) (e : E7) (A : Option Addr) (c : Nat) (w : World) (hr : ImR w D i) (hrd : RdB w De A e.data) (hdc : e.data.length ≤ c) (hcm : c ≤ 9223372036854775807) (hm : mayI i.p = true) (hme : mayE e = false) :
    Calls Tryd.prog 30 #[.agg (imA i), enV e A c] w fun x w' => ∃ j : ImV, x = .returned (.tuple #[.agg (imA j), .int .i64 (doP i.p e).2.1, .int .i64 (doP i.p e).2.2]) ∧ j.p = (doP i.p e).1 ∧ OwnIm w' w.heap.size j ∧ Below w.heap.size w w' := by
  obtain ⟨hB, hE, hQ, bb, hs0⟩ := do_pre i e A c w
  have hr0 := hr.below bb
  have hck := Check18_any D i _ hr0
  have hce := fun w => Check_any e A c w
  have hent : ∀ (args : Array Value) (w : World), (callFunc 52 args).run Tryd.prog w = .ok (.enter 52 args) w := Go.Proofs.enters_of Tryd.func52 (by kernel_rfl) rfl
  have E := Lib.hid (doP_b hm hme)
  rw [hm, show eno true 1 = 0 from rfl] at hck
  rw [hme, show errE false = 70 from rfl] at hce
  clear hm hme hr0
  unfold enV at *
  unfold imA enA zI3 at *
  generalize hw0 : ((w.alloc (.cells #[.slice i.DA i.d.length i.dc, .slice i.CA i.S.length i.cc, .int .i64 i.last] 35)).alloc (.cells #[.int .i64 e.seq, .int .i64 e.owner, .int .i64 e.kind, .int .i64 e.off, .int .i64 e.len, .int .i64 e.snap, .slice A e.data.length c] 32)).alloc (.cells #[.slice none 0 0, .slice none 0 0, .int .i64 0] 35) = w0 at *
  go_enter Tryd.func30, Tryd.ntmps30
  go_wp2_with first
    | (with_reducible show wpList _ _ _ _ _ _
       refine wpList_load_row rfl 35 (.tmp 2) rfl w.heap.size rfl 35 _ (0, 0) _ hB Tryd.underlying35 rfl infoIm ?_)
  refine hck.mono ?_
  clear hck hw0
  rintro e w2 ⟨rfl, b2⟩
  have hB := hB.below b2
  have hE := hE.below b2
  have hQ := hQ.below b2
  have bb := bb.thenB' b2
  have hs2 : w.heap.size + 3 ≤ w2.heap.size := by have := b2.size; omega
  clear b2
  go_wp2_with first
    | (with_reducible show wpList _ _ _ _ _ _
       refine wpList_load_row rfl 32 (.tmp 3) rfl (w.heap.size + 1) rfl 32 _ (0, 0) _ hE Tryd.underlying32 rfl infoEy ?_)
  refine (hce w2).mono ?_
  clear hce
  rintro e w3 ⟨rfl, b3⟩
  have hQ := hQ.below b3
  have bb := bb.thenB' b3
  go_wp2_with fail
  refine (no18_any _ _).mono ?_
  rintro e w8 ⟨rfl, b8⟩
  have hQ := hQ.below b8
  have bb := bb.thenB' b8
  unfold zI3
  go_wp2_with first
    | (with_reducible show wpList _ _ _ _ _ _
       refine wpList_rowB rfl 35 (.tmp 4) (.tmp 26) rfl (w.heap.size + 2) 35 _ zI3 rfl rfl hQ infoIm rfl (imA_ok ⟨none, [], 0, none, [], 0, 0⟩) ?_
       intro w4 hq4 m4)
  (try simp only [Exit.inBlock, Exit.then])
  refine bodyPost_ret (results_cell_tmp2 rfl _ _ (w.heap.size + 2) _ _ (0, 0) _ rfl hq4 Tryd.underlying35 rfl infoIm) rfl ?_
  rw [E.out]
  exact ⟨⟨none, [], 0, none, [], 0, 0⟩, rfl, rfl, OwnIm.zero, bb.thenM m4 bb.size (fun i hi e => by omega)⟩
end Go.Proofs.YthkeoimjjgmppaaDoor

/- An image behind an operation: a write. -/
namespace Go.Proofs.YthkeoimjjgmppaaDoor
open Go.RowKit
set_option linter.unusedVariables false
set_option maxRecDepth 100000

theorem OwnIm.setD {w w' : World} {B : Nat} {i : ImV} (k : OwnIm w B i) (m : Mod (fun b => (Value.slice i.DA i.d.length i.dc).ownBlock = some b) w w') (d' : List UInt8) (hl : d'.length = i.d.length) (o : OwnB w' B (.slice i.DA d'.length i.dc) d') : OwnIm w' B ⟨i.DA, d', i.dc, i.CA, i.S, i.cc, i.last⟩ :=
  ⟨OwnC.mod k.own m fun j hj hx => k.ne j hj hx, o, by dsimp only; rw [hl]; exact k.ne, fun s hs => by dsimp only; rw [hl]; exact (k.cp s hs).mod m fun j hj hx => hj.2.2 hx⟩
theorem laidO_over (d x y : List UInt8) (off : Nat) (h : x.length = y.length) (hx : off + x.length ≤ d.length) : laidO (laidO d off y) off x = laidO d off x := by
  unfold laidO
  have h1 : (d.take off).length = off := by rw [List.length_take]; omega
  rw [List.append_assoc, List.append_assoc, List.append_assoc, List.take_left' h1, ← List.append_assoc (d.take off) y, List.drop_left' (by rw [List.length_append, h1, h]), h]

set_option maxHeartbeats 8000000 in
set_option maxRecDepth 100000 in
theorem Do_w (D De : Nat → Prop) (i : ImV) (e : E7) (A : Option Addr) (c : Nat) (w : World) (hr : ImR w D i) (hrd : RdB w De A e.data) (hdc : e.data.length ≤ c) (hcm : c ≤ 9223372036854775807) (hm : mayI i.p = true) (hme : mayE e = true) (hk : e.kind = 1) :
    Calls Tryd.prog 30 #[.agg (imA i), enV e A c] w fun x w' => ∃ j : ImV, x = .returned (.tuple #[.agg (imA j), .int .i64 (doP i.p e).2.1, .int .i64 (doP i.p e).2.2]) ∧ j.p = (doP i.p e).1 ∧ OwnIm w' w.heap.size j ∧ Below w.heap.size w w' := by
  obtain ⟨hB, hE, hQ, bb, hs0⟩ := do_pre i e A c w
  have hr0 := hr.below bb
  have hck := Check18_any D i _ hr0
  have hce := fun w => Check_any e A c w
  have hent : ∀ (args : Array Value) (w : World), (callFunc 52 args).run Tryd.prog w = .ok (.enter 52 args) w := Go.Proofs.enters_of Tryd.func52 (by kernel_rfl) rfl
  have hbd := mayI_bd hm
  have hcb := copiesO_bd _ _ _ hbd.2.2.2.2
  have hp := of_decide_eq_true (show decide (mayP e) = true from hme)
  have hown := fun W (hr : ImR W D i) => own18_any D i W hr (by have := hbd.1; show i.p.d.length ≤ 1000; omega) (by have := hbd.2.1; unfold ImV.p at this; rw [pureC_len] at this; omega) (fun s hs => by
    have := (hcb (s.id, s.m) (List.mem_map.2 ⟨s, hs, rfl⟩)).1
    dsimp only at this
    omega)
  have E0 := doP_c hm hme
  rw [hm, show eno true 1 = 0 from rfl] at hck
  rw [hme, show errE true = 0 from rfl] at hce
  clear hm hme hcb
  obtain ⟨sq, ow, kd, off, len, sn, data⟩ := e
  dsimp only at *
  have hl0 : i.p.d.length ≤ 512 := hbd.1
  have hS0 : i.p.S.length ≤ 4 := hbd.2.1
  have hla0 : 0 ≤ i.p.last ∧ i.p.last ≤ 100 := ⟨hbd.2.2.1, hbd.2.2.2.1⟩
  clear hbd
  unfold mayP at hp
  dsimp only at hp
  subst hk
  replace hp : 0 ≤ off ∧ off ≤ 512 ∧ 1 ≤ data.length ∧ data.length ≤ 128 := by omega
  obtain ⟨o, rfl⟩ : ∃ o : Nat, off = o := ⟨off.toNat, by omega⟩
  rw [if_pos rfl, Int.toNat_natCast] at E0
  unfold enV at *
  unfold imA enA zI3 at *
  dsimp only at *
  generalize hw0 : ((w.alloc (.cells #[.slice i.DA i.d.length i.dc, .slice i.CA i.S.length i.cc, .int .i64 i.last] 35)).alloc (.cells #[.int .i64 sq, .int .i64 ow, .int .i64 1, .int .i64 (o : Int), .int .i64 len, .int .i64 sn, .slice A data.length c] 32)).alloc (.cells #[.slice none 0 0, .slice none 0 0, .int .i64 0] 35) = w0 at *
  go_enter Tryd.func30, Tryd.ntmps30
  go_wp2_with first
    | (with_reducible show wpList _ _ _ _ _ _
       refine wpList_load_row rfl 35 (.tmp 2) rfl w.heap.size rfl 35 _ (0, 0) _ hB Tryd.underlying35 rfl infoIm ?_)
  refine hck.mono ?_
  clear hck hw0
  rintro e w2 ⟨rfl, b2⟩
  replace hB := hB.below b2
  replace hE := hE.below b2
  replace hQ := hQ.below b2
  replace hr0 := hr0.below b2
  replace bb := bb.thenB' b2
  have hs2 : w.heap.size + 3 ≤ w2.heap.size := by have := b2.size; omega
  clear b2
  go_wp2_with first
    | (with_reducible show wpList _ _ _ _ _ _
       refine wpList_load_row rfl 32 (.tmp 3) rfl (w.heap.size + 1) rfl 32 _ (0, 0) _ hE Tryd.underlying32 rfl infoEy ?_)
  refine (hce w2).mono ?_
  clear hce
  rintro e w3 ⟨rfl, b3⟩
  replace hB := hB.below b3
  replace hE := hE.below b3
  replace hQ := hQ.below b3
  replace hr0 := hr0.below b3
  replace bb := bb.thenB' b3
  have hs3 : w.heap.size + 3 ≤ w3.heap.size := by have := b3.size; omega
  clear b3
  have hown := hown w3 hr0
  go_wp2_with first
    | (with_reducible show wpList _ _ _ _ _ _
       refine wpList_load_row rfl 35 (.tmp 2) rfl w.heap.size rfl 35 _ (0, 0) _ hB Tryd.underlying35 rfl infoIm ?_)
  refine hown.mono ?_
  clear hown
  rintro e w4 ⟨j, rfl, hjp, hO, b4⟩
  replace hB := hB.below b4
  replace hE := hE.below b4
  replace hQ := hQ.below b4
  replace bb := bb.thenB' b4
  replace hO := hO.low hs3
  have hs4 : w.heap.size + 3 ≤ w4.heap.size := by have := b4.size; omega
  clear b4 hr0
  rw [← hjp] at E0 hl0 hS0 hla0
  obtain ⟨A1, d, dc, C1, S, cc, la⟩ := j
  have HJP : Hid ((⟨d, pureC S, la⟩ : PI) = i.p) := hjp
  clear hjp
  unfold ImV.p at E0 hl0 hS0 hla0
  dsimp only at E0 hl0 hS0 hla0
  dsimp only
  obtain ⟨A9, c9, e1, hdl, hdm⟩ := OwnB.form hO.dat
  injection e1 with e8 e9 e1
  subst e1
  clear e8 e9 A9
  dsimp only at hdl hdm
  unfold maxLen at hdm
  by_cases h1 : (d.length : Int) < (o : Int) + (data.length : Int)
  focus
    rw [if_pos h1] at E0
    have E := Lib.hid E0
    clear E0
    go_upto_region 8 with first
      | (with_reducible show wpList _ _ _ _ _ _
         refine wpList_rowB rfl 35 (.tmp 2) (.tmp 30) rfl w.heap.size 35 _ (imA ⟨A1, d, dc, C1, S, cc, la⟩) rfl rfl hB infoIm rfl (imA_ok _) ?_
         intro w5 hB5 m5
         replace hB5 : Blk w5 w.heap.size 35 #[.slice A1 d.length dc, .slice C1 S.length cc, .int .i64 la] := hB5
         have hE5 := hE.mod m5 (by omega)
         have c1 := hB5.cell 0
         have c2 := hB5.cell 1
         have c3 := hB5.cell 2
         have k1 := hE5.cell 2
         have k2 := hE5.cell 3
         have k3 := hE5.cell 4
         have k4 := hE5.cell 5
         have k5 := hE5.cell 6
         simp at c1 c2 c3 k1 k2 k3 k4 k5)
    have hQ5 := hQ.mod m5 (by omega)
    replace bb := bb.thenM m5 bb.size (fun i hi e => by omega)
    replace hO := hO.mod m5 (fun i e => by omega)
    have hs5 : w.heap.size + 3 ≤ w5.heap.size := by have := m5.size; omega
    clear hB hE hQ m5 c1 c2 c3 k1 k2 k3 k4 k5
    have c1 := hB5.cell 0
    have c2 := hB5.cell 1
    have c3 := hB5.cell 2
    have k1 := hE5.cell 2
    have k2 := hE5.cell 3
    have k3 := hE5.cell 4
    have k4 := hE5.cell 5
    have k5 := hE5.cell 6
    simp at c1 c2 c3 k1 k2 k3 k4 k5

    go_wp2_with fail
    refine (no18_any _ _).mono ?_
    rintro e w8 ⟨rfl, b8⟩
    have hQ := hQ5.below b8
    have bb := bb.thenB' b8
    unfold zI3
    go_wp2_with first
      | (with_reducible show wpList _ _ _ _ _ _
         refine wpList_rowB rfl 35 (.tmp 4) (.tmp 62) rfl (w.heap.size + 2) 35 _ zI3 rfl rfl hQ infoIm rfl (imA_ok ⟨none, [], 0, none, [], 0, 0⟩) ?_
         intro w4 hq4 m4)
    (try simp only [Exit.inBlock, Exit.then])
    refine bodyPost_ret (results_cell_tmp2 rfl _ _ (w.heap.size + 2) _ _ (0, 0) _ rfl hq4 Tryd.underlying35 rfl infoIm) rfl ?_
    rw [← HJP.out, E.out]
    exact ⟨⟨none, [], 0, none, [], 0, 0⟩, rfl, rfl, OwnIm.zero, bb.thenM m4 bb.size (fun i hi e => by omega)⟩
  rw [if_neg h1] at E0
  have E := Lib.hid E0
  clear E0
  have i1 : (o : Int) + (data.length : Int) ≤ (dc : Int) := by omega
  have i2 : (o : Int) ≤ (o : Int) + (data.length : Int) := by omega
  have i3 : (o : Int) ≤ 512 := by omega
  have i4 : (data.length : Int) ≤ 128 := by omega
  go_upto_region 8 with first
    | (with_reducible show wpList _ _ _ _ _ _
       refine wpList_rowB rfl 35 (.tmp 2) (.tmp 30) rfl w.heap.size 35 _ (imA ⟨A1, d, dc, C1, S, cc, la⟩) rfl rfl hB infoIm rfl (imA_ok _) ?_
       intro w5 hB5 m5
       replace hB5 : Blk w5 w.heap.size 35 #[.slice A1 d.length dc, .slice C1 S.length cc, .int .i64 la] := hB5
       have hE5 := hE.mod m5 (by omega)
       have c1 := hB5.cell 0
       have c2 := hB5.cell 1
       have c3 := hB5.cell 2
       have k1 := hE5.cell 2
       have k2 := hE5.cell 3
       have k3 := hE5.cell 4
       have k4 := hE5.cell 5
       have k5 := hE5.cell 6
       simp at c1 c2 c3 k1 k2 k3 k4 k5)
  have hQ5 := hQ.mod m5 (by omega)
  replace bb := bb.thenM m5 bb.size (fun i hi e => by omega)
  replace hO := hO.mod m5 (fun i e => by omega)
  have hs5 : w.heap.size + 3 ≤ w5.heap.size := by have := m5.size; omega
  clear hB hE hQ m5 c1 c2 c3 k1 k2 k3 k4 k5
  have c1 := hB5.cell 0
  have c2 := hB5.cell 1
  have c3 := hB5.cell 2
  have k1 := hE5.cell 2
  have k2 := hE5.cell 3
  have k3 := hE5.cell 4
  have k4 := hE5.cell 5
  have k5 := hE5.cell 6
  simp at c1 c2 c3 k1 k2 k3 k4 k5
  go_upto_region 15 with fail
  go_upto_region 20 with fail
  go_upto_region 21 with fail
  rw [show o + data.length - o = data.length from by omega]
  obtain ⟨w6, hcl, o6, m6⟩ := run_clearB w5 0 (w.heap.size + 3) dc A1 d hO.dat o data.length (dc - o) (by omega)
  have hl6 := laidO_len d o (List.replicate data.length 0) (by rw [List.length_replicate]; omega)
  have hob := fun i e => (World.ownsRow.lt hO.dat i e).1
  dsimp only at hob
  clear c1 c2 c3 k1 k2 k3 k4 k5
  go_upto_region 22 with first
    | (with_reducible show wpList _ _ _ _ _ _
       refine wpList_clearD rfl (.tmp 74) rfl _ rfl hcl ?_)
  have hB6 := hB5.mod m6 (fun e => by have := hob _ e; omega)
  have hE6 := hE5.mod m6 (fun e => by have := hob _ e; omega)
  have hQ6 := hQ5.mod m6 (fun e => by have := hob _ e; omega)
  have hO6 := hO.setD m6 _ hl6 o6
  have bb6 := bb.thenM m6 bb.size (fun i hi e => by have := hob i e; omega)
  dsimp only at hO6
  clear hcl hB5 hE5 hQ5
  obtain ⟨w7, hcp, o7, m7⟩ := run_copyB w6 3 (w.heap.size + 3) dc A1 _ o6 o (dc - o) De A c data (hrd.below bb6) (by rw [hl6]; omega)
  have hl7 := laidO_len _ o data (by rw [hl6]; omega)
  have hO7 := hO6.setD m7 _ hl7 o7
  have hob6 := fun i e => (World.ownsRow.lt o6 i e).1
  have hB7 := hB6.mod m7 (fun e => by have := hob6 _ e; omega)
  have hQ7 := hQ6.mod m7 (fun e => by have := hob6 _ e; omega)
  have bb7 := bb6.thenM m7 bb6.size (fun i hi e => by have := hob6 i e; omega)
  dsimp only at hO7
  have hlo := laidO_over d data (List.replicate data.length 0) o (by rw [List.length_replicate]) (by omega)
  rw [hlo] at hO7 hl7
  have hl8 : (laidO d o data).length = d.length := by rw [hl7, hl6]
  rw [← hl8] at hB7
  clear hl8 hlo hl7 hl6 o7 m7 m6 o6 hO hO6
  have c1 := hB6.cell 0
  have c2 := hB6.cell 1
  have c3 := hB6.cell 2
  have k1 := hE6.cell 2
  have k2 := hE6.cell 3
  have k3 := hE6.cell 4
  have k4 := hE6.cell 5
  have k5 := hE6.cell 6
  simp at c1 c2 c3 k1 k2 k3 k4 k5
  go_upto_region 23 with fail
  clear c1 c2 c3 k1 k2 k3 k4
  go_wp2_with first
    | (with_reducible show wpList _ _ _ _ _ _
       refine wpList_copyD rfl (.tmp 78) (.tmp 80) rfl _ _ _ rfl rfl hcp ?_)
    | (with_reducible show wpList _ _ _ _ _ _
       refine wpList_load_row rfl 35 (.tmp 2) rfl w.heap.size rfl 35 _ (0, 0) _ hB7 Tryd.underlying35 rfl infoIm ?_)
    | (with_reducible show wpList _ _ _ _ _ _
       refine wpList_rowB rfl 35 (.tmp 4) (.tmp 150) rfl (w.heap.size + 2) 35 _ (imA ⟨A1, laidO d o data, dc, C1, S, cc, la⟩) rfl rfl hQ7 infoIm rfl (imA_ok _) ?_
       intro w9 hq9 m9)
  (try simp only [Exit.inBlock, Exit.then])
  refine bodyPost_ret (results_cell_tmp2 rfl _ _ (w.heap.size + 2) _ _ (0, 0) _ rfl hq9 Tryd.underlying35 rfl infoIm) rfl ?_
  rw [← HJP.out, E.out]
  exact ⟨⟨A1, laidO d o data, dc, C1, S, cc, la⟩, rfl, rfl, (hO7.mod m9 (fun i e => by omega)).low (by omega), bb7.thenM m9 bb7.size (fun i hi e => by omega)⟩
end Go.Proofs.YthkeoimjjgmppaaDoor
