/- Parts of the proof, joined: PtF PuC. -/
import Derived.Test.YthkeoimjjgmppaaDoorQs
/- The past: stores into records, rows that are cut, appends of rows. -/
namespace Go.Proofs.YthkeoimjjgmppaaDoor
open Go.RowKit
set_option linter.unusedVariables false
set_option maxRecDepth 100000

section
variable {α : Type} {C : α → List Value} {k : Nat} {T : TypeId} {w : World} {ops : Array Oper} {rest : List Oper} {o : Oper} {a : Act} {Q : Exit → Act → World → Prop}
/-- One cell of an element of one's own row is stored. -/
theorem wpList_updC1 (hgd : o.guard = none) (ty : TypeId) (x y : Operand) (ho : o.op = .store ty x y) (hi1 : (Tryd.prog.info? ty).map (·.size) = some 1) (hk : ∀ x, (C x).length = k)
    {base n c : Nat} {A : Option Addr} {L : List α} (h : OwnC T k C w base (.slice A n c) L) {i : Nat} {si : α} (hi : L[i]? = some si) (j : Nat) (u : Value) (s : α) (hj : j + 1 ≤ k) (hs : C s = (C si).take j ++ [u] ++ (C si).drop (j + 1))
    (ad : Addr) (hA : A = some ad) (hx : a.eval x = .pointer (some ⟨(ad.add (i * k)).block, (ad.add (i * k)).off + j, none⟩)) (hy : a.eval y = u) (h1 : u.oneCell' = true)
    (hgo : ∀ w', OwnC T k C w' base (.slice A n c) (L.set i s) → Mod (fun b => (Value.slice A n c).ownBlock = some b) w w' → wpList Tryd.prog ops Q rest (a.put o.dst undef) w') : wpList Tryd.prog ops Q (o :: rest) a w := by
  obtain ⟨hil, hie⟩ := List.getElem?_eq_some_iff.1 hi
  subst hie
  obtain ⟨g, rfl, hg, hth, ho', hm⟩ := OwnC.upd hk h hil j [u] s hj hs
  injection hA with hA
  subst hA hy
  have hlt : i * k + j < c * k := by
    obtain ⟨_, c', e, h2, _⟩ := OwnC.form h
    injection e with _ e2 e3
    subst e3
    have : i * k + k ≤ c * k := by rw [← Nat.succ_mul]; exact Nat.mul_le_mul_right k (by omega)
    omega
  rcases h.2 with ⟨e, _⟩ | ⟨g', cap, cur, hv, hg', hh, hnc, hcm, hcs, _⟩
  · injection e with e; cases e
  · injection hv with e1 e2 e3
    injection e1 with e1
    injection e1 with e1
    subst e1 e3
    have hB : Blk w g T cur := hh
    rw [add_head] at hx
    refine wpList_plain hgd fun _ hK => ?_
    unfold Oper.wp execOp
    simp only [ho, hx, Instr.storeAt, Instr.sureAddr, Sem.run_bind, Sem.run_pure, Result.andThen_ok, one_size hi1 w g (i * k + j) T cur _ h1 hB (by omega)]
    exact hK _ _ (hgo _ ho' (hm.mono fun b _ e => by rw [e]; rfl))
/-- Cells of an element of one's own row are stored. -/
theorem wpList_updCn (hgd : o.guard = none) (ty : TypeId) (x y : Operand) (ho : o.op = .store ty x y) (hk : ∀ x, (C x).length = k)
    {base n c : Nat} {A : Option Addr} {L : List α} (h : OwnC T k C w base (.slice A n c) L) {i : Nat} {si : α} (hi : L[i]? = some si) (j : Nat) (cells : Array Value) (s : α) (hj : j + cells.size ≤ k) (hs : C s = (C si).take j ++ cells.toList ++ (C si).drop (j + cells.toList.length))
    (hsz : (Tryd.prog.info? ty).map (·.size) = some cells.size) (h1 : cells.all (·.oneCell') = true)
    (ad : Addr) (hA : A = some ad) (hx : a.eval x = .pointer (some ⟨(ad.add (i * k)).block, (ad.add (i * k)).off + j, none⟩)) (hy : a.eval y = .agg cells)
    (hgo : ∀ w', OwnC T k C w' base (.slice A n c) (L.set i s) → Mod (fun b => (Value.slice A n c).ownBlock = some b) w w' → wpList Tryd.prog ops Q rest (a.put o.dst undef) w') : wpList Tryd.prog ops Q (o :: rest) a w := by
  obtain ⟨hil, hie⟩ := List.getElem?_eq_some_iff.1 hi
  subst hie
  obtain ⟨g, rfl, hg, hth, ho', hm⟩ := OwnC.upd hk h hil j cells.toList s (by rw [Array.length_toList]; exact hj) hs
  injection hA with hA
  subst hA
  rw [add_head] at hx
  rw [Array.length_toList] at hth
  exact wpList_store_mid hgd ty x y ho g (i * k + j) cells hx hy hth hsz h1 (hgo _ ho' (hm.mono fun b _ e => by rw [e]; rfl))
end
section
variable {w w' : World} {base g : Nat} {vc vr : Value} {L : List CmV} {R : List RcV}
theorem Hon.setR (h : Hon w base g vc vr L R) {i : Nat} {s : RcV} (ho : OwnRc w' base vr (R.set i s)) (m : Mod (fun b => vr.ownBlock = some b) w w') (hs : RcR w (Off3 g vc vr) s) : Hon w' base g vc vr L (R.set i s) :=
  ⟨OwnC.mod h.oc m fun j hj e => h.apt j hj e, ho, h.apt, fun s' hs' => RdC.mod (h.al s' hs') m fun b hb e => hb.2.2 e, fun s' hs' => (show RcR w (Off3 g vc vr) s' by
    rcases List.mem_or_eq_of_mem_set hs' with h1 | h1
    · exact h.ar s' h1
    · rw [h1]; exact hs).mod m fun b hb e => hb.2.2 e⟩
end
theorem RdL.take {α : Type} {C : α → List Value} {k : Nat} {w : World} {D : Nat → Prop} {A : Option Addr} {L : List α} (h : RdL w D k C A L) (m : Nat) : RdL w D k C A (L.take m) := fun hn => by
  rw [List.length_take] at hn
  obtain ⟨ad, e, hd, hc⟩ := h (by omega)
  exact ⟨ad, e, hd, fun i s hs j v hv => hc i s (by
    rw [List.getElem?_take] at hs
    split at hs
    · exact hs
    · cases hs) j v hv⟩
theorem RcsR.take {w : World} {D : Nat → Prop} {A : Option Addr} {c : Nat} {R : List RcV} (h : RcsR w D A c R) (m : Nat) : RcsR w D A c (R.take m) := ⟨h.rd.take m, by have := h.cap; rw [List.length_take]; omega, h.max, fun s hs => h.all s (List.mem_of_mem_take hs)⟩
theorem CmsR.take {w : World} {D : Nat → Prop} {A : Option Addr} {c : Nat} {R : List CmV} (h : CmsR w D A c R) (m : Nat) : CmsR w D A c (R.take m) := ⟨h.rd.take m, by have := h.cap; rw [List.length_take]; omega, h.max, fun s hs => h.all s (List.mem_of_mem_take hs)⟩
theorem prs_take (R : List RcV) (m : Nat) : prs (R.take m) = (prs R).take m := by unfold prs; rw [List.map_take]
theorem pcs_take (R : List CmV) (m : Nat) : pcs (R.take m) = (pcs R).take m := by unfold pcs; rw [List.map_take]
theorem prs_set (R : List RcV) (i : Nat) (s : RcV) : prs (R.set i s) = (prs R).set i s.p := by unfold prs; rw [List.map_set]
theorem prs_at {R : List RcV} {i : Nat} {s : RcV} (h : R[i]? = some s) : (prs R)[i]? = some s.p := by unfold prs; rw [List.getElem?_map, h]; rfl
theorem set_end {α : Type} (l : List α) (a b : α) {n : Nat} (h : l.length = n) : (l ++ [a]).set n b = l ++ [b] := by
  subst h
  rw [List.set_append_right _ _ (Nat.le_refl _), Nat.sub_self]; rfl
theorem take_end {α : Type} (l : List α) (a : α) {n : Nat} (h : l.length = n) : (l ++ [a]).take n = l := by
  subst h
  exact List.take_left
/-- A row that reads, appended to one's own: its run. -/
theorem run_appRc (w : World) (base : Nat) (ty : TypeId) (v : Value) (L : List RcV) (h : OwnRc w base v L) {D : Nat → Prop} {A : Option Addr} {n c : Nat} {news : List RcV} (hr : Rd w D 14 A n (flC rcC news)) (hn : n = news.length) (hl : L.length + news.length ≤ 100000) (hb : base ≤ w.heap.size) :
    ∃ v' w', (Builtin.append_ #[28, 28] ty #[v, .slice A n c]).run Tryd.prog w = .ok v' w' ∧ OwnRc w' base v' (L ++ news) ∧ Below base w w' ∧ Mod (fun b => v.ownBlock = some b) w w' := by
  subst hn
  obtain ⟨v', w', h1, h2, h3, h4⟩ := run_app w base 28 ty 44 _ 14 144 Tryd.underlying28 infoRc14 rfl (by decide) v _ _ h D A _ c _ hr (flC_one rcC_one news) (by unfold maxLen; omega) (by omega) hb
  refine ⟨v', w', h1, ?_, below_app (Below.refl _ _) h h3 (Nat.le_refl _) hb, Mod.of_grown h3 fun k hk => .inl hk⟩
  unfold OwnRc OwnC
  rw [List.length_append, flC_app]
  exact h2
theorem own_litRc (w : World) (base : Nat) (hb : base ≤ w.heap.size) : OwnRc (w.alloc (.cells #[] 44)) base (.slice (some ⟨w.heap.size, 0, none⟩) 0 0) [] :=
  World.ownsRow_lit (base := base) (e := 44) (size := 14) w #[] 0 hb (by simp) (by simp)
theorem infoBo1 : (Tryd.prog.info? 4).map (·.size) = some 1 := by kernel_rfl
theorem infoErr1 : (Tryd.prog.info? 38).map (·.size) = some 1 := by kernel_rfl
theorem not_ok {m : PI} {k : Nat} {x : PL} (h : x.kind = 0 ∨ (recK k m x).E ≠ 0) : okH k m x = false := by
  cases ho : okH k m x with
  | false => rfl
  | true =>
    rcases h with h | h
    · exact absurd h (ok_parts ho).1
    · rw [recK_ok ho] at h; exact absurd rfl h
theorem recK_kind (m : PI) (k : Nat) (x : PL) : (recK k m x).call.kind = x.kind := by rw [(recK_done k m x).2.2.2.1]; rfl
theorem undone {m : PI} {k : Nat} {x : PL} {s : RcV} (h : s.p = recK k m x) (ho : okH k m x = true) (tt E N rx : Int) (rd : List UInt8) : matchP ⟨s.cl, s.call, s.fr, tt, false, E, rd, N, rx⟩ (comK k x) = true ∧ 2 * (k : Int) ≤ s.fr ∧ s.call = callH x := by
  rw [recK_ok ho] at h
  have e1 : s.cl = 3 := congrArg PR.cl h
  have e2 : s.call = callH x := congrArg PR.call h
  have e3 : s.fr = 2 * (k : Int) + 1 := congrArg PR.fr h
  rw [e1, e2, e3]
  refine ⟨match_of (ok_mut (k := k) (m := m) ho) rfl ?_ (.inl rfl) rfl, by omega, rfl⟩
  show 2 * (k : Int) + 1 < 2 * (k : Int) + 2
  omega
/-- A record of a call that wasn't answered. -/
theorem rcR_open {w : World} {D : Nat → Prop} {s : CaV} (h : RdC w D s.A s.x.data s.c) (cl : Int) (img : Int) (fr tt : Int) (d : Bool) (E N rx : Int) : RcR w D ⟨cl, ⟨img, s.x.kind, s.x.off, s.x.len, s.x.snap, s.x.data⟩, s.A, s.c, fr, tt, d, E, none, [], 0, N, rx⟩ := ⟨h, RdC.nil⟩
end Go.Proofs.YthkeoimjjgmppaaDoor

/- PastCuts: the walk. -/
namespace Go.Proofs.YthkeoimjjgmppaaDoor
open Go.RowKit
set_option linter.unusedVariables false
set_option maxRecDepth 100000

theorem infoCa6 : (Tryd.prog.info? 25).map (·.size) = some 6 := by kernel_rfl
set_option maxHeartbeats 8000000 in
theorem cuts_walk (W : World) (ht : TabE W) (a0 : Int) (i0 : I64 a0) (A : Option Addr) (X : List CaV) (c : Nat) (hX : CasR W (Old W) A c X) (iX : ∀ s ∈ X, CaI s.x) (x : CaV) (rx : RdC W (Old W) x.A x.x.data x.c) (sx : CaI x.x) :
    Calls Tryd.prog 4 #[.int .i64 a0, .slice A X.length c, .agg #[.int .i64 x.x.image, .int .i64 x.x.kind, .int .i64 x.x.off, .int .i64 x.x.len, .int .i64 x.x.snap, .slice x.A x.x.data.length x.c]] W fun e w' => e = .returned (.bool true) ∧ Below W.heap.size W w' := by
  have b0 := below_new W (.cells #[.int .i64 x.x.image, .int .i64 x.x.kind, .int .i64 x.x.off, .int .i64 x.x.len, .int .i64 x.x.snap, .slice x.A x.x.data.length x.c] 25)
  have hB0 := Blk.new W 25 #[.int .i64 x.x.image, .int .i64 x.x.kind, .int .i64 x.x.off, .int .i64 x.x.len, .int .i64 x.x.snap, .slice x.A x.x.data.length x.c]
  generalize hw0 : W.alloc (.cells #[.int .i64 x.x.image, .int .i64 x.x.kind, .int .i64 x.x.off, .int .i64 x.x.len, .int .i64 x.x.snap, .slice x.A x.x.data.length x.c] 25) = w0 at *
  have haw := awake23 w0 (ht.below b0)
  have hc := hX.cap
  have hm := hX.max
  have hg0 := hB0.lt
  have hX0 : CasR w0 (Old w0) A c X := (hX.below b0).imp fun b hb _ => hb
  have rx0 := rx.below b0
  have ht0 := ht.below b0
  go_enter Tryd.func4, Tryd.ntmps4
  go_wp2_with fail
  refine haw.mono ?_
  clear haw hw0
  rintro e w1 ⟨rfl, bb⟩
  obtain ⟨g5, hg5⟩ : ∃ g, W.heap.size = g := ⟨_, rfl⟩
  rw [hg5] at hB0 hg0
  rw [hg5]
  have l5 : w1.cell? ⟨g5, 5, none⟩ = some (.slice x.A x.x.data.length x.c) := ((hB0.below bb).cell 5).trans rfl
  by_cases hn0 : X.length = 0
  focus
    have h0 : ((X.length : Int) == 0) = true := by simp [hn0]
    go_wp2_with fail
    go_ret
    exact ⟨rfl, b0.thenB' bb⟩
  have h0 : ((X.length : Int) == 0) = false := by simp only [beq_eq_false_iff_ne, ne_eq]; omega
  by_cases hn : X.length ≤ 15
  rotate_left
  focus
    have hg : (15 : Int) < (X.length : Int) := by omega
    go_wp2_with fail
    go_ret
    exact ⟨rfl, b0.thenB' bb⟩
  have hg : ¬ (15 : Int) < (X.length : Int) := by omega
  by_cases hd : x.x.data.length ≤ 200
  rotate_left
  focus
    have hgd : (200 : Int) < (x.x.data.length : Int) := by omega
    go_wp2_with fail
    go_ret
    exact ⟨rfl, b0.thenB' bb⟩
  have hgd : ¬ (200 : Int) < (x.x.data.length : Int) := by omega
  go_wp2_with fail
  clear l5 hgd hg h0
  go_loopw [8] (fun sk wr => ∃ k : Nat, sk = .int .i64 (k : Int) ∧ k ≤ X.length ∧ Hid (∀ s ∈ X.take k, s.x.data.length ≤ 200) ∧ Below w0.heap.size w0 wr) (fun sk _ => X.length - (intOf sk).toNat)
  case atStart => exact ⟨0, rfl, Nat.zero_le _, Lib.hid (fun s hs => absurd hs (by simp)), bb⟩
  case round =>
    clear bb
    obtain ⟨k, rfl, hk, HB, bb⟩ := hrel
    by_cases hlt : k < X.length
    · obtain ⟨ad, hA, _, _, _, _, _, c5⟩ := (hX0.below bb).at2 hlt
      subst hA
      have HS := Lib.hid (fun h => take_step hlt HB.out h)
      generalize X[k] = s at *
      by_cases hs : s.x.data.length ≤ 200
      · have hs' : ¬ (200 : Int) < (s.x.data.length : Int) := by omega
        have H2 := Lib.hid (HS.out hs)
        clear HB HS
        go_wp2_with fail
        go_roundw
        case rel => exact ⟨k + 1, by go_num, hlt, H2, bb⟩
        case measure => simp only [intOf]; omega
      · have hs' : (200 : Int) < (s.x.data.length : Int) := by omega
        clear HB HS
        go_wp2_with fail
        go_ret
        exact ⟨rfl, b0.thenB' bb⟩
    · obtain rfl : k = X.length := by omega
      have HX := Lib.hid (all_LBd HB.out iX)
      clear HB
      have hon := honest_any a0 A c X wr ((hX0.below bb).imp fun b hb h => by have : b < w0.heap.size := h; have := bb.size; show b < wr.heap.size; omega) hn
      go_wp2_with fail
      refine hon.mono ?_
      clear hon
      rintro e w3 ⟨g, vc, vr, L, R, rfl, hH, eL, eR, b3⟩
      have HEL := Lib.hid eL
      have HER := Lib.hid eR
      have hwb := bb.size
      have bb := bb.thenB' b3
      clear b3 eL eR
      have hB3 : Blk w3 g5 25 #[.int .i64 x.x.image, .int .i64 x.x.kind, .int .i64 x.x.off, .int .i64 x.x.len, .int .i64 x.x.snap, .slice x.A x.x.data.length x.c] := hB0.below bb
      have hg3 := hB3.lt
      have rx3 := rx0.below bb
      obtain ⟨A1, c1, A2, c2, rfl, rfl, hL, hR⟩ := hH.form
      have HLR : Hid (R.length = X.length) := Lib.hid (by rw [← prs_len, HER.out, rsK_len _ (map_le X)])
      have hlR : R.length ≤ 15 := by rw [HLR.out]; exact hn
      obtain ⟨m, hm1⟩ : ∃ m, X.length = m + 1 := ⟨X.length - 1, by omega⟩
      have HM1 := Lib.hid hm1
      clear hm1
      go_upto_region 12 with fail
      go_cut [11] from 49 to 55 (fun s11 wx => ∃ v, v = s11 ∧ OwnRc wx w3.heap.size v (R ++ [(⟨5, x.x, x.A, x.c, 1000, 0, false, 0, none, [], 0, 0, 0⟩ : RcV)]) ∧ Below w3.heap.size w3 wx)
      case first =>
        go_wp2_with fail
        refine r_start (R := RW w3.heap.size) (by rfl) (n := 8) (L := #[false, false, false, false, false, false, false, false]) rfl rfl ?_
        have bd : Below w3.heap.size w3 w3.drew := (Below.refl _ _).drew
        have hRl := hR.rd.below bd
        have hBx := hB3.below bd
        have bz := bd
        have hsz := bd.size
        clear bd
        generalize w3.drew = wc at *
        have hBx0 := hBx
        refine r_flt (RW_refl _) 1 50 #[false, true, false, false, false, false, false, false] (by simp only [List.getElem?_toArray, List.getElem?_cons_succ, List.getElem?_cons_zero]; rfl) (by rfl) (by kernel_rfl) (by kernel_rfl) (by kernel_rfl) (fun _ _ _ _ h => h) rfl (by rfl) ?_
        apply Exists.intro
        apply And.intro
        · intro W hW
          first | (go_simp; with_reducible rfl) | go_simp
        (try simp only [Act.put, List.setIfInBounds_toArray]); (try simp only [List.set_cons_succ]); (try simp only [List.set_cons_zero])
        refine r_flt (RW_refl _) 3 52 #[false, true, false, true, false, false, false, false] (by simp only [List.getElem?_toArray, List.getElem?_cons_succ, List.getElem?_cons_zero]; rfl) (by rfl) (by kernel_rfl) (by kernel_rfl) (by kernel_rfl) (fun _ _ _ _ h => h) rfl (by rfl) ?_
        apply Exists.intro
        apply And.intro
        · intro W hW
          exact exec_load_row rfl rfl (hBx0.mod (modOf (show Below w3.heap.size _ W from hW)) (by omega)) Tryd.underlying25 infoCa6
        (try simp only [Act.put, List.setIfInBounds_toArray]); (try simp only [List.set_cons_succ]); (try simp only [List.set_cons_zero])
        refine r_flt (RW_refl _) 4 53 #[false, true, false, true, true, false, false, false] (by simp only [List.getElem?_toArray, List.getElem?_cons_succ, List.getElem?_cons_zero]; rfl) (by rfl) (by kernel_rfl) (by kernel_rfl) (by kernel_rfl) (fun _ _ _ _ h => h) rfl (by rfl) ?_
        apply Exists.intro
        apply And.intro
        · intro W hW
          first | (go_simp; with_reducible rfl) | go_simp
        (try simp only [Act.put, List.setIfInBounds_toArray]); (try simp only [List.set_cons_succ]); (try simp only [List.set_cons_zero])
        refine r_two (RW_trans _) 0 5 (by kernel_rfl) ?_ ?_
        ·
          refine alt_val 49 #[true, true, false, true, true, false, false, false] (by simp only [List.getElem?_toArray, List.getElem?_cons_zero]; rfl) (by rfl) rfl (by rfl) (by go_simp; first | exact ⟨rfl, rfl⟩ | rfl) ?_ ?_
          · exact RW_new _ _ _ hsz
          have bn := below_new wc (.cells #[] 44)
          have oE := own_litRc wc w3.heap.size hsz
          have hgE : wc.heap.size < (wc.alloc (.cells #[] 44)).heap.size := (OwnC.lt oE _ rfl).2
          have hRl := hRl.below bn
          have bz := bz.thenB bn hsz
          have hsz := Nat.le_trans hsz bn.size
          clear bn
          generalize wc.heap.size = gE at *
          generalize wc.alloc (.cells #[] 44) = wc at *
          (try simp only [Act.put, List.setIfInBounds_toArray]); (try simp only [List.set_cons_succ]); (try simp only [List.set_cons_zero])
          refine r_two (RW_trans _) 2 5 (by kernel_rfl) ?_ ?_
          ·
            obtain ⟨v1, wc, hrA, o1, bA, mA⟩ := run_appRc wc w3.heap.size 28 _ [] oE (RdL.flatC rcC_len hRl) rfl (by simp only [List.length_nil]; omega) hsz
            refine alt_val 51 #[true, true, true, true, true, false, false, false] (by simp only [List.getElem?_toArray, List.getElem?_cons_succ, List.getElem?_cons_zero]; rfl) (by rfl) rfl (by rfl) (exec_app1 rfl rfl rfl hrA) ?_ ?_
            · exact bA
            have bz := bz.trans bA
            have hsz := Nat.le_trans hsz mA.size
            have o1 : OwnRc _ w3.heap.size v1 R := o1
            clear hRl oE mA bA hrA
            (try simp only [Act.put, List.setIfInBounds_toArray]); (try simp only [List.set_cons_succ]); (try simp only [List.set_cons_zero])
            refine r_one (RW_trans _) 5 (by kernel_rfl) ?_
            refine alt_val 54 #[true, true, true, true, true, true, false, false] (by simp only [List.getElem?_toArray, List.getElem?_cons_succ, List.getElem?_cons_zero]; rfl) (by rfl) rfl (by rfl) (by go_simp; first | exact ⟨rfl, rfl⟩ | rfl) ?_ ?_
            · exact RW_new _ _ _ hsz
            have bn := below_new wc (.cells #[.int .i64 5, .int .i64 x.x.image, .int .i64 x.x.kind, .int .i64 x.x.off, .int .i64 x.x.len, .int .i64 x.x.snap, .slice x.A x.x.data.length x.c, .int .i64 1000, .int .i64 0, .bool false, .int .i64 0, .slice none 0 0, .int .i64 0, .int .i64 0] 44)
            have rL : Rd (wc.alloc (.cells #[.int .i64 5, .int .i64 x.x.image, .int .i64 x.x.kind, .int .i64 x.x.off, .int .i64 x.x.len, .int .i64 x.x.snap, .slice x.A x.x.data.length x.c, .int .i64 1000, .int .i64 0, .bool false, .int .i64 0, .slice none 0 0, .int .i64 0, .int .i64 0] 44)) (· = wc.heap.size) 14 (some ⟨wc.heap.size, 0, none⟩) 1 (flC rcC [(⟨5, x.x, x.A, x.c, 1000, 0, false, 0, none, [], 0, 0, 0⟩ : RcV)]) := rd_newC (⟨5, x.x, x.A, x.c, 1000, 0, false, 0, none, [], 0, 0, 0⟩ : RcV) rfl
            have hgL : wc.heap.size < (wc.alloc (.cells #[.int .i64 5, .int .i64 x.x.image, .int .i64 x.x.kind, .int .i64 x.x.off, .int .i64 x.x.len, .int .i64 x.x.snap, .slice x.A x.x.data.length x.c, .int .i64 1000, .int .i64 0, .bool false, .int .i64 0, .slice none 0 0, .int .i64 0, .int .i64 0] 44)).heap.size := (Blk.new wc 44 #[.int .i64 5, .int .i64 x.x.image, .int .i64 x.x.kind, .int .i64 x.x.off, .int .i64 x.x.len, .int .i64 x.x.snap, .slice x.A x.x.data.length x.c, .int .i64 1000, .int .i64 0, .bool false, .int .i64 0, .slice none 0 0, .int .i64 0, .int .i64 0]).lt
            have o1 := OwnC.below o1 bn
            have bz := bz.thenB bn hsz
            have hsz := Nat.le_trans hsz bn.size
            clear bn
            generalize wc.heap.size = gL at *
            generalize wc.alloc (.cells #[.int .i64 5, .int .i64 x.x.image, .int .i64 x.x.kind, .int .i64 x.x.off, .int .i64 x.x.len, .int .i64 x.x.snap, .slice x.A x.x.data.length x.c, .int .i64 1000, .int .i64 0, .bool false, .int .i64 0, .slice none 0 0, .int .i64 0, .int .i64 0] 44) = wc at *
            (try simp only [Act.put, List.setIfInBounds_toArray]); (try simp only [List.set_cons_succ]); (try simp only [List.set_cons_zero])
            refine r_one (RW_trans _) 6 (by kernel_rfl) ?_
            obtain ⟨v2, wc, hrZ, o2, bZ, mZ⟩ := run_appRc wc w3.heap.size 28 v1 R o1 rL rfl (by simp only [List.length_singleton]; omega) hsz
            refine alt_val 55 #[true, true, true, true, true, true, true, false] (by simp only [List.getElem?_toArray, List.getElem?_cons_succ, List.getElem?_cons_zero]; rfl) (by rfl) rfl (by rfl) (exec_app1 rfl rfl rfl hrZ) ?_ ?_
            · exact bZ
            have bz := bz.trans bZ
            clear hrZ
            (try simp only [Act.put, List.setIfInBounds_toArray]); (try simp only [List.set_cons_succ]); (try simp only [List.set_cons_zero])
            refine r_flt (RW_refl _) 7 11 #[true, true, true, true, true, true, true, true] (by simp only [List.getElem?_toArray, List.getElem?_cons_succ, List.getElem?_cons_zero]; rfl) (by rfl) (by kernel_rfl) (by kernel_rfl) (by kernel_rfl) (fun _ _ _ _ h => h) rfl (by rfl) ?_
            apply Exists.intro
            apply And.intro
            · intro W hW
              first | (go_simp; with_reducible rfl) | go_simp
            (try simp only [Act.put, List.setIfInBounds_toArray]); (try simp only [List.set_cons_succ]); (try simp only [List.set_cons_zero])
            refine r_done (by kernel_rfl) ?_
            go_wp2_with fail
            go_meet
            case rel => exact ⟨v2, rfl, o2, bz⟩
          ·
            refine alt_val 54 #[true, true, false, true, true, true, false, false] (by simp only [List.getElem?_toArray, List.getElem?_cons_succ, List.getElem?_cons_zero]; rfl) (by rfl) rfl (by rfl) (by go_simp; first | exact ⟨rfl, rfl⟩ | rfl) ?_ ?_
            · exact RW_new _ _ _ hsz
            have bn := below_new wc (.cells #[.int .i64 5, .int .i64 x.x.image, .int .i64 x.x.kind, .int .i64 x.x.off, .int .i64 x.x.len, .int .i64 x.x.snap, .slice x.A x.x.data.length x.c, .int .i64 1000, .int .i64 0, .bool false, .int .i64 0, .slice none 0 0, .int .i64 0, .int .i64 0] 44)
            have rL : Rd (wc.alloc (.cells #[.int .i64 5, .int .i64 x.x.image, .int .i64 x.x.kind, .int .i64 x.x.off, .int .i64 x.x.len, .int .i64 x.x.snap, .slice x.A x.x.data.length x.c, .int .i64 1000, .int .i64 0, .bool false, .int .i64 0, .slice none 0 0, .int .i64 0, .int .i64 0] 44)) (· = wc.heap.size) 14 (some ⟨wc.heap.size, 0, none⟩) 1 (flC rcC [(⟨5, x.x, x.A, x.c, 1000, 0, false, 0, none, [], 0, 0, 0⟩ : RcV)]) := rd_newC (⟨5, x.x, x.A, x.c, 1000, 0, false, 0, none, [], 0, 0, 0⟩ : RcV) rfl
            have hgL : wc.heap.size < (wc.alloc (.cells #[.int .i64 5, .int .i64 x.x.image, .int .i64 x.x.kind, .int .i64 x.x.off, .int .i64 x.x.len, .int .i64 x.x.snap, .slice x.A x.x.data.length x.c, .int .i64 1000, .int .i64 0, .bool false, .int .i64 0, .slice none 0 0, .int .i64 0, .int .i64 0] 44)).heap.size := (Blk.new wc 44 #[.int .i64 5, .int .i64 x.x.image, .int .i64 x.x.kind, .int .i64 x.x.off, .int .i64 x.x.len, .int .i64 x.x.snap, .slice x.A x.x.data.length x.c, .int .i64 1000, .int .i64 0, .bool false, .int .i64 0, .slice none 0 0, .int .i64 0, .int .i64 0]).lt
            have hRl := hRl.below bn
            have oE := OwnC.below oE bn
            have hne : wc.heap.size ≠ gE := by omega
            have bz := bz.thenB bn hsz
            have hsz := Nat.le_trans hsz bn.size
            clear bn
            generalize wc.heap.size = gL at *
            generalize wc.alloc (.cells #[.int .i64 5, .int .i64 x.x.image, .int .i64 x.x.kind, .int .i64 x.x.off, .int .i64 x.x.len, .int .i64 x.x.snap, .slice x.A x.x.data.length x.c, .int .i64 1000, .int .i64 0, .bool false, .int .i64 0, .slice none 0 0, .int .i64 0, .int .i64 0] 44) = wc at *
            (try simp only [Act.put, List.setIfInBounds_toArray]); (try simp only [List.set_cons_succ]); (try simp only [List.set_cons_zero])
            refine r_one (RW_trans _) 2 (by kernel_rfl) ?_
            obtain ⟨v1, wc, hrA, o1, bA, mA⟩ := run_appRc wc w3.heap.size 28 _ [] oE (RdL.flatC rcC_len hRl) rfl (by simp only [List.length_nil]; omega) hsz
            refine alt_val 51 #[true, true, true, true, true, true, false, false] (by simp only [List.getElem?_toArray, List.getElem?_cons_succ, List.getElem?_cons_zero]; rfl) (by rfl) rfl (by rfl) (exec_app1 rfl rfl rfl hrA) ?_ ?_
            · exact bA
            have bz := bz.trans bA
            have hsz := Nat.le_trans hsz mA.size
            have o1 : OwnRc _ w3.heap.size v1 R := o1
            have rL := Rd.mod rL mA fun b hb e => by simp [Value.ownBlock] at e; omega
            clear hRl oE mA bA hrA
            (try simp only [Act.put, List.setIfInBounds_toArray]); (try simp only [List.set_cons_succ]); (try simp only [List.set_cons_zero])
            refine r_one (RW_trans _) 6 (by kernel_rfl) ?_
            obtain ⟨v2, wc, hrZ, o2, bZ, mZ⟩ := run_appRc wc w3.heap.size 28 v1 R o1 rL rfl (by simp only [List.length_singleton]; omega) hsz
            refine alt_val 55 #[true, true, true, true, true, true, true, false] (by simp only [List.getElem?_toArray, List.getElem?_cons_succ, List.getElem?_cons_zero]; rfl) (by rfl) rfl (by rfl) (exec_app1 rfl rfl rfl hrZ) ?_ ?_
            · exact bZ
            have bz := bz.trans bZ
            clear hrZ
            (try simp only [Act.put, List.setIfInBounds_toArray]); (try simp only [List.set_cons_succ]); (try simp only [List.set_cons_zero])
            refine r_flt (RW_refl _) 7 11 #[true, true, true, true, true, true, true, true] (by simp only [List.getElem?_toArray, List.getElem?_cons_succ, List.getElem?_cons_zero]; rfl) (by rfl) (by kernel_rfl) (by kernel_rfl) (by kernel_rfl) (fun _ _ _ _ h => h) rfl (by rfl) ?_
            apply Exists.intro
            apply And.intro
            · intro W hW
              first | (go_simp; with_reducible rfl) | go_simp
            (try simp only [Act.put, List.setIfInBounds_toArray]); (try simp only [List.set_cons_succ]); (try simp only [List.set_cons_zero])
            refine r_done (by kernel_rfl) ?_
            go_wp2_with fail
            go_meet
            case rel => exact ⟨v2, rfl, o2, bz⟩
        ·
          refine alt_val 54 #[false, true, false, true, true, true, false, false] (by simp only [List.getElem?_toArray, List.getElem?_cons_succ, List.getElem?_cons_zero]; rfl) (by rfl) rfl (by rfl) (by go_simp; first | exact ⟨rfl, rfl⟩ | rfl) ?_ ?_
          · exact RW_new _ _ _ hsz
          have bn := below_new wc (.cells #[.int .i64 5, .int .i64 x.x.image, .int .i64 x.x.kind, .int .i64 x.x.off, .int .i64 x.x.len, .int .i64 x.x.snap, .slice x.A x.x.data.length x.c, .int .i64 1000, .int .i64 0, .bool false, .int .i64 0, .slice none 0 0, .int .i64 0, .int .i64 0] 44)
          have rL : Rd (wc.alloc (.cells #[.int .i64 5, .int .i64 x.x.image, .int .i64 x.x.kind, .int .i64 x.x.off, .int .i64 x.x.len, .int .i64 x.x.snap, .slice x.A x.x.data.length x.c, .int .i64 1000, .int .i64 0, .bool false, .int .i64 0, .slice none 0 0, .int .i64 0, .int .i64 0] 44)) (· = wc.heap.size) 14 (some ⟨wc.heap.size, 0, none⟩) 1 (flC rcC [(⟨5, x.x, x.A, x.c, 1000, 0, false, 0, none, [], 0, 0, 0⟩ : RcV)]) := rd_newC (⟨5, x.x, x.A, x.c, 1000, 0, false, 0, none, [], 0, 0, 0⟩ : RcV) rfl
          have hgL : wc.heap.size < (wc.alloc (.cells #[.int .i64 5, .int .i64 x.x.image, .int .i64 x.x.kind, .int .i64 x.x.off, .int .i64 x.x.len, .int .i64 x.x.snap, .slice x.A x.x.data.length x.c, .int .i64 1000, .int .i64 0, .bool false, .int .i64 0, .slice none 0 0, .int .i64 0, .int .i64 0] 44)).heap.size := (Blk.new wc 44 #[.int .i64 5, .int .i64 x.x.image, .int .i64 x.x.kind, .int .i64 x.x.off, .int .i64 x.x.len, .int .i64 x.x.snap, .slice x.A x.x.data.length x.c, .int .i64 1000, .int .i64 0, .bool false, .int .i64 0, .slice none 0 0, .int .i64 0, .int .i64 0]).lt
          have hRl := hRl.below bn
          have bz := bz.thenB bn hsz
          have hsz := Nat.le_trans hsz bn.size
          clear bn
          generalize wc.heap.size = gL at *
          generalize wc.alloc (.cells #[.int .i64 5, .int .i64 x.x.image, .int .i64 x.x.kind, .int .i64 x.x.off, .int .i64 x.x.len, .int .i64 x.x.snap, .slice x.A x.x.data.length x.c, .int .i64 1000, .int .i64 0, .bool false, .int .i64 0, .slice none 0 0, .int .i64 0, .int .i64 0] 44) = wc at *
          (try simp only [Act.put, List.setIfInBounds_toArray]); (try simp only [List.set_cons_succ]); (try simp only [List.set_cons_zero])
          refine r_one (RW_trans _) 0 (by kernel_rfl) ?_
          refine alt_val 49 #[true, true, false, true, true, true, false, false] (by simp only [List.getElem?_toArray, List.getElem?_cons_zero]; rfl) (by rfl) rfl (by rfl) (by go_simp; first | exact ⟨rfl, rfl⟩ | rfl) ?_ ?_
          · exact RW_new _ _ _ hsz
          have bn := below_new wc (.cells #[] 44)
          have oE := own_litRc wc w3.heap.size hsz
          have hgE : wc.heap.size < (wc.alloc (.cells #[] 44)).heap.size := (OwnC.lt oE _ rfl).2
          have hRl := hRl.below bn
          have rL := Rd.below rL bn
          have hne : gL ≠ wc.heap.size := by omega
          have hgL := Nat.lt_of_lt_of_le hgL bn.size
          have bz := bz.thenB bn hsz
          have hsz := Nat.le_trans hsz bn.size
          clear bn
          generalize wc.heap.size = gE at *
          generalize wc.alloc (.cells #[] 44) = wc at *
          (try simp only [Act.put, List.setIfInBounds_toArray]); (try simp only [List.set_cons_succ]); (try simp only [List.set_cons_zero])
          refine r_one (RW_trans _) 2 (by kernel_rfl) ?_
          obtain ⟨v1, wc, hrA, o1, bA, mA⟩ := run_appRc wc w3.heap.size 28 _ [] oE (RdL.flatC rcC_len hRl) rfl (by simp only [List.length_nil]; omega) hsz
          refine alt_val 51 #[true, true, true, true, true, true, false, false] (by simp only [List.getElem?_toArray, List.getElem?_cons_succ, List.getElem?_cons_zero]; rfl) (by rfl) rfl (by rfl) (exec_app1 rfl rfl rfl hrA) ?_ ?_
          · exact bA
          have bz := bz.trans bA
          have hsz := Nat.le_trans hsz mA.size
          have o1 : OwnRc _ w3.heap.size v1 R := o1
          have rL := Rd.mod rL mA fun b hb e => by simp [Value.ownBlock] at e; omega
          clear hRl oE mA bA hrA
          (try simp only [Act.put, List.setIfInBounds_toArray]); (try simp only [List.set_cons_succ]); (try simp only [List.set_cons_zero])
          refine r_one (RW_trans _) 6 (by kernel_rfl) ?_
          obtain ⟨v2, wc, hrZ, o2, bZ, mZ⟩ := run_appRc wc w3.heap.size 28 v1 R o1 rL rfl (by simp only [List.length_singleton]; omega) hsz
          refine alt_val 55 #[true, true, true, true, true, true, true, false] (by simp only [List.getElem?_toArray, List.getElem?_cons_succ, List.getElem?_cons_zero]; rfl) (by rfl) rfl (by rfl) (exec_app1 rfl rfl rfl hrZ) ?_ ?_
          · exact bZ
          have bz := bz.trans bZ
          clear hrZ
          (try simp only [Act.put, List.setIfInBounds_toArray]); (try simp only [List.set_cons_succ]); (try simp only [List.set_cons_zero])
          refine r_flt (RW_refl _) 7 11 #[true, true, true, true, true, true, true, true] (by simp only [List.getElem?_toArray, List.getElem?_cons_succ, List.getElem?_cons_zero]; rfl) (by rfl) (by kernel_rfl) (by kernel_rfl) (by kernel_rfl) (fun _ _ _ _ h => h) rfl (by rfl) ?_
          apply Exists.intro
          apply And.intro
          · intro W hW
            first | (go_simp; with_reducible rfl) | go_simp
          (try simp only [Act.put, List.setIfInBounds_toArray]); (try simp only [List.set_cons_succ]); (try simp only [List.set_cons_zero])
          refine r_done (by kernel_rfl) ?_
          go_wp2_with fail
          go_meet
          case rel => exact ⟨v2, rfl, o2, bz⟩
      case rest =>
        obtain ⟨vm, rfl, oM, bM⟩ := hcut
        obtain ⟨A3, n3, c3, rfl, HN3, _, _⟩ := OwnC.form' oM
        have hM : RcsR wc (fun _ => True) A3 c3 (R ++ [(⟨5, x.x, x.A, x.c, 1000, 0, false, 0, none, [], 0, 0, 0⟩ : RcV)]) := own_rcs (D := fun _ => True) oM HN3.out fun s hs => by
          rcases List.mem_append.1 hs with h | h
          · exact ((hH.ar s h).below bM).imp fun _ _ _ => trivial
          · obtain rfl := List.mem_singleton.1 h
            exact ⟨RdC.imp (rx3.below bM) fun _ _ _ => trivial, RdC.nil⟩
        have bbc := bb.thenB' bM
        clear oM
        go_wp2_with fail
        refine (layout_any _).mono ?_
        rintro e w4 ⟨rfl, b4⟩
        have bb4 := bbc.thenB' b4
        have n4 := bM.thenB b4 bM.size
        have hr := right_of2 (size := a0) (hL.below n4) (hM.below b4) rfl HN3.out (ht0.below bb4) HEL.out (show prs (R ++ [(⟨5, x.x, x.A, x.c, 1000, 0, false, 0, none, [], 0, 0, 0⟩ : RcV)]) = rsK (newP a0) (X.map CaV.x) X.length ++ [(⟨5, x.x, x.A, x.c, 1000, 0, false, 0, none, [], 0, 0, 0⟩ : RcV).p] by rw [prs_app, HER.out]) true (right_K (map_le X) (by omega) [(⟨5, x.x, x.A, x.c, 1000, 0, false, 0, none, [], 0, 0, 0⟩ : RcV).p] (fun z hz => by obtain rfl := List.mem_singleton.1 hz; exact ⟨rfl, by show 2 * (X.length : Int) ≤ 1000; omega⟩)) (fun r hr => by
          rcases List.mem_append.1 hr with h | h
          · exact rsK_bd (map_le X) HX.out r h
          · obtain rfl := List.mem_singleton.1 h
            exact ⟨big_of hd, sx.2.2.2.1.2⟩) (csK_bd (map_le X) HX.out) (by rw [List.length_append, rsK_len _ (map_le X), List.length_singleton]; omega)
        go_wp2_with fail
        refine hr.mono ?_
        clear hr hM bM b4
        rintro e w5 ⟨rfl, b5⟩
        have bb5 := bb4.thenB' b5
        have n5 := n4.thenB b5 n4.size
        have hH5 := hH.below n5
        have hmR : m < R.length := by rw [HLR.out, HM1.out]; omega
        obtain ⟨s, hsR⟩ : ∃ s, R[m]? = some s := ⟨R[m], List.getElem?_eq_getElem hmR⟩
        obtain ⟨xm, hxm⟩ := some_at (map_le X) (k := m) (by rw [HM1.out]; omega)
        have HSP : Hid (s.p = recK m (stK (newP a0) (X.map CaV.x) m) xm) := Lib.hid (by
          have h1 := prs_at hsR
          rw [HER.out, rsK_get _ (map_le X) m xm (by rw [HM1.out]; omega) hxm] at h1
          exact (Option.some.inj h1).symm)
        have HXM := Lib.hid hxm
        have hml : m ≤ (X.map CaV.x).length := by rw [map_len, HM1.out]; omega
        obtain ⟨ad2, hA2, _⟩ := hR.at_ hmR
        subst hA2
        have hse : R[m] = s := by rw [List.getElem?_eq_getElem hmR] at hsR; exact Option.some.inj hsR
        have HCR : Hid (∀ V, Below w3.heap.size w3 V → _) := Lib.hid (hse ▸ fun V (hV : Below w3.heap.size w3 V) => (hR.below hV).at2 hmR)
        have HSR := Lib.hid hsR
        have hmc : (m : Int) ≤ (c2 : Int) := by have := hR.cap; omega
        have HSUB : Hid (((R.length : Int) - 1) = (m : Int)) := Lib.hid (by rw [HLR.out, HM1.out]; omega)
        have hmI : (m : Int) < (R.length : Int) := by omega
        clear hse hsR hxm bb bbc bb4 n4 b5
        obtain ⟨c0, c1', c2', c3', c4', c5', c6', c7', c8', c9', c10', c11', c12', c13'⟩ := HCR.out w5 n5
        have hsub := HSUB.out
        have hEK : s.E = (recK m (stK (newP a0) (X.map CaV.x) m) xm).E := congrArg PR.E HSP.out
        have hKK : s.call.kind = xm.kind := (congrArg (fun r => r.call.kind) HSP.out).trans (recK_kind _ _ _)
        have HEK := Lib.hid hEK
        have HKK := Lib.hid hKK
        clear hEK hKK
        by_cases hk0 : s.call.kind = 0
        · have HOK : Hid (okH m (stK (newP a0) (X.map CaV.x) m) xm = false) := Lib.hid (not_ok (.inl (by rw [← HKK.out]; exact hk0)))
          have hkb : (s.call.kind == 0) = true := by simp [hk0]
          clear hk0
          go_upto_region 17 with fail
          have bn := below_new w5 (.cells #[.int .i64 s.cl, .int .i64 s.call.image, .int .i64 s.call.kind, .int .i64 s.call.off, .int .i64 s.call.len, .int .i64 s.call.snap, .slice s.A s.call.data.length s.c, .int .i64 s.fr, .int .i64 s.tt, .bool s.done, .int .i64 s.E, .slice s.rA s.rd.length s.rc, .int .i64 s.N, .int .i64 s.rx] 44)
          have n6 := n5.thenB bn n5.size
          have bb6 := bb5.thenB' bn
          have hwm : IntKind.i64.wrap (m : Int) = (m : Int) := by rw [IntKind.wrap_i64]; omega
          clear c0 c1' c2' c3' c4' c5' c6' c7' c8' c9' c10' c11' c12' c13' bn
          generalize w5.alloc (.cells #[.int .i64 s.cl, .int .i64 s.call.image, .int .i64 s.call.kind, .int .i64 s.call.off, .int .i64 s.call.len, .int .i64 s.call.snap, .slice s.A s.call.data.length s.c, .int .i64 s.fr, .int .i64 s.tt, .bool s.done, .int .i64 s.E, .slice s.rA s.rd.length s.rc, .int .i64 s.N, .int .i64 s.rx] 44) = w6 at *
          go_wp2_with fail
          refine r_start (R := RB) (by rfl) (n := 10) (L := #[false, false, false, false, false, false, false, false, false, false]) rfl rfl ?_
          have bd : Below w6.heap.size w6 w6.drew := (Below.refl _ _).drew
          have n7 := n6.thenB bd n6.size
          have bb7 := bb6.thenB' bd
          clear bd
          generalize w6.drew = w7 at *
          refine r_flt RB_refl 1 79 #[false, true, false, false, false, false, false, false, false, false] (by simp only [List.getElem?_toArray, List.getElem?_cons_succ, List.getElem?_cons_zero]; rfl) (by rfl) (by kernel_rfl) (by kernel_rfl) (by kernel_rfl) (fun _ _ _ _ h => h) rfl (by rfl) ?_
          apply Exists.intro
          apply And.intro
          · intro W hW
            first | (go_simp; with_reducible rfl) | go_simp
          (try simp only [Act.put, List.setIfInBounds_toArray]); (try simp only [List.set_cons_succ]); (try simp only [List.set_cons_zero])
          refine r_flt RB_refl 2 80 #[false, true, true, false, false, false, false, false, false, false] (by simp only [List.getElem?_toArray, List.getElem?_cons_succ, List.getElem?_cons_zero]; rfl) (by rfl) (by kernel_rfl) (by kernel_rfl) (by kernel_rfl) (fun _ _ _ _ h => h) rfl (by rfl) ?_
          apply Exists.intro
          apply And.intro
          · intro W hW
            first | (go_simp; with_reducible rfl) | go_simp
          (try simp only [Act.put, List.setIfInBounds_toArray]); (try simp only [List.set_cons_succ]); (try simp only [List.set_cons_zero])
          refine r_flt RB_refl 3 81 #[false, true, true, true, false, false, false, false, false, false] (by simp only [List.getElem?_toArray, List.getElem?_cons_succ, List.getElem?_cons_zero]; rfl) (by rfl) (by kernel_rfl) (by kernel_rfl) (by kernel_rfl) (fun _ _ _ _ h => h) rfl (by rfl) ?_
          apply Exists.intro
          apply And.intro
          · intro W hW
            first | (go_simp; with_reducible rfl) | go_simp
          (try simp only [Act.put, List.setIfInBounds_toArray]); (try simp only [List.set_cons_succ]); (try simp only [List.set_cons_zero])
          refine r_flt RB_refl 4 82 #[false, true, true, true, true, false, false, false, false, false] (by simp only [List.getElem?_toArray, List.getElem?_cons_succ, List.getElem?_cons_zero]; rfl) (by rfl) (by kernel_rfl) (by kernel_rfl) (by kernel_rfl) (fun _ _ _ _ h => h) rfl (by rfl) ?_
          apply Exists.intro
          apply And.intro
          · intro W hW
            first | (go_simp; with_reducible rfl) | go_simp
          (try simp only [Act.put, List.setIfInBounds_toArray]); (try simp only [List.set_cons_succ]); (try simp only [List.set_cons_zero])
          refine r_flt RB_refl 5 83 #[false, true, true, true, true, true, false, false, false, false] (by simp only [List.getElem?_toArray, List.getElem?_cons_succ, List.getElem?_cons_zero]; rfl) (by rfl) (by kernel_rfl) (by kernel_rfl) (by kernel_rfl) (fun _ _ _ _ h => h) rfl (by rfl) ?_
          apply Exists.intro
          apply And.intro
          · intro W hW
            first | (go_simp; with_reducible rfl) | go_simp
          (try simp only [Act.put, List.setIfInBounds_toArray]); (try simp only [List.set_cons_succ]); (try simp only [List.set_cons_zero])
          refine r_flt RB_refl 6 84 #[false, true, true, true, true, true, true, false, false, false] (by simp only [List.getElem?_toArray, List.getElem?_cons_succ, List.getElem?_cons_zero]; rfl) (by rfl) (by kernel_rfl) (by kernel_rfl) (by kernel_rfl) (fun _ _ _ _ h => h) rfl (by rfl) ?_
          apply Exists.intro
          apply And.intro
          · intro W hW
            first | (go_simp; with_reducible rfl) | go_simp
          (try simp only [Act.put, List.setIfInBounds_toArray]); (try simp only [List.set_cons_succ]); (try simp only [List.set_cons_zero])
          refine r_flt RB_refl 7 85 #[false, true, true, true, true, true, true, true, false, false] (by simp only [List.getElem?_toArray, List.getElem?_cons_succ, List.getElem?_cons_zero]; rfl) (by rfl) (by kernel_rfl) (by kernel_rfl) (by kernel_rfl) (fun _ _ _ _ h => h) rfl (by rfl) ?_
          apply Exists.intro
          apply And.intro
          · intro W hW
            first | (go_simp; with_reducible rfl) | go_simp
          (try simp only [Act.put, List.setIfInBounds_toArray]); (try simp only [List.set_cons_succ]); (try simp only [List.set_cons_zero])
          refine r_one RB_trans 0 (by kernel_rfl) ?_
          refine alt_call 78 #[true, true, true, true, true, true, true, true, false, false] (by simp only [List.getElem?_toArray, List.getElem?_cons_zero]; rfl) (by rfl) rfl (by rfl) (by go_simp; first | exact ⟨rfl, rfl⟩ | rfl) ?_
          with_reducible refine (layout_any _).mono ?_
          rintro e' w8 ⟨rfl, b_⟩
          refine ⟨_, rfl, b_, ?_⟩
          have n8 := n7.thenB b_ n7.size
          have bb8 := bb7.thenB' b_
          clear b_
          have hr := right_of2 (size := a0) (hL.below n8) ((hR.below n8).take m) rfl (show m = (R.take m).length by rw [List.length_take]; omega) (ht0.below bb8) (show pcs L = csK (newP a0) (X.map CaV.x) m by rw [HEL.out, HM1.out, csK_at HXM.out, HOK.out]; simp) (show prs (R.take m) = rsK (newP a0) (X.map CaV.x) m by rw [prs_take, HER.out, HM1.out, rsK_at HXM.out, take_end _ _ (rsK_len _ hml)]) true (by have := right_K (size := a0) hml (by omega) [] (fun z hz => absurd hz (by simp)); rw [List.append_nil] at this; exact this) (rsK_bd hml HX.out) (csK_bd hml HX.out) (by rw [rsK_len _ hml]; omega)
          (try simp only [Act.put, List.setIfInBounds_toArray]); (try simp only [List.set_cons_succ]); (try simp only [List.set_cons_zero])
          refine r_one RB_trans 8 (by kernel_rfl) ?_
          refine alt_call 86 #[true, true, true, true, true, true, true, true, true, false] (by simp only [List.getElem?_toArray, List.getElem?_cons_succ, List.getElem?_cons_zero]; rfl) (by rfl) rfl (by rfl) (by go_simp; first | exact ⟨rfl, rfl⟩ | rfl) ?_
          with_reducible refine hr.mono ?_
          clear hr
          rintro e' w9 ⟨rfl, b_⟩
          refine ⟨_, rfl, b_, ?_⟩
          have bb9 := bb8.thenB' b_
          clear b_
          (try simp only [Act.put, List.setIfInBounds_toArray]); (try simp only [List.set_cons_succ]); (try simp only [List.set_cons_zero])
          refine r_flt RB_refl 9 6 #[true, true, true, true, true, true, true, true, true, true] (by simp only [List.getElem?_toArray, List.getElem?_cons_succ, List.getElem?_cons_zero]; rfl) (by rfl) (by kernel_rfl) (by kernel_rfl) (by kernel_rfl) (fun _ _ _ _ h => h) rfl (by rfl) ?_
          apply Exists.intro
          apply And.intro
          · intro W hW
            first | (go_simp; with_reducible rfl) | go_simp
          (try simp only [Act.put, List.setIfInBounds_toArray]); (try simp only [List.set_cons_succ]); (try simp only [List.set_cons_zero])
          refine r_done (by kernel_rfl) ?_
          go_wp2_with fail
          (try simp only [Exit.inBlock, Exit.then])
          go_ret
          exact ⟨rfl, b0.thenB' bb9⟩
        by_cases hE0 : s.E = 0
        rotate_left
        focus
          have HOK : Hid (okH m (stK (newP a0) (X.map CaV.x) m) xm = false) := Lib.hid (not_ok (.inr (by rw [← HEK.out]; exact hE0)))
          have hkb : (s.call.kind == 0) = false := by simp [hk0]
          have heb : (s.E != 0) = true := by simp [hE0]
          clear hk0 hE0
          go_upto_region 17 with fail
          have bn := below_new w5 (.cells #[.int .i64 s.cl, .int .i64 s.call.image, .int .i64 s.call.kind, .int .i64 s.call.off, .int .i64 s.call.len, .int .i64 s.call.snap, .slice s.A s.call.data.length s.c, .int .i64 s.fr, .int .i64 s.tt, .bool s.done, .int .i64 s.E, .slice s.rA s.rd.length s.rc, .int .i64 s.N, .int .i64 s.rx] 44)
          have n6 := n5.thenB bn n5.size
          have bb6 := bb5.thenB' bn
          have hwm : IntKind.i64.wrap (m : Int) = (m : Int) := by rw [IntKind.wrap_i64]; omega
          clear c0 c1' c2' c3' c4' c5' c6' c7' c8' c9' c10' c11' c12' c13' bn
          generalize w5.alloc (.cells #[.int .i64 s.cl, .int .i64 s.call.image, .int .i64 s.call.kind, .int .i64 s.call.off, .int .i64 s.call.len, .int .i64 s.call.snap, .slice s.A s.call.data.length s.c, .int .i64 s.fr, .int .i64 s.tt, .bool s.done, .int .i64 s.E, .slice s.rA s.rd.length s.rc, .int .i64 s.N, .int .i64 s.rx] 44) = w6 at *
          go_wp2_with fail
          refine r_start (R := RB) (by rfl) (n := 10) (L := #[false, false, false, false, false, false, false, false, false, false]) rfl rfl ?_
          have bd : Below w6.heap.size w6 w6.drew := (Below.refl _ _).drew
          have n7 := n6.thenB bd n6.size
          have bb7 := bb6.thenB' bd
          clear bd
          generalize w6.drew = w7 at *
          refine r_flt RB_refl 1 79 #[false, true, false, false, false, false, false, false, false, false] (by simp only [List.getElem?_toArray, List.getElem?_cons_succ, List.getElem?_cons_zero]; rfl) (by rfl) (by kernel_rfl) (by kernel_rfl) (by kernel_rfl) (fun _ _ _ _ h => h) rfl (by rfl) ?_
          apply Exists.intro
          apply And.intro
          · intro W hW
            first | (go_simp; with_reducible rfl) | go_simp
          (try simp only [Act.put, List.setIfInBounds_toArray]); (try simp only [List.set_cons_succ]); (try simp only [List.set_cons_zero])
          refine r_flt RB_refl 2 80 #[false, true, true, false, false, false, false, false, false, false] (by simp only [List.getElem?_toArray, List.getElem?_cons_succ, List.getElem?_cons_zero]; rfl) (by rfl) (by kernel_rfl) (by kernel_rfl) (by kernel_rfl) (fun _ _ _ _ h => h) rfl (by rfl) ?_
          apply Exists.intro
          apply And.intro
          · intro W hW
            first | (go_simp; with_reducible rfl) | go_simp
          (try simp only [Act.put, List.setIfInBounds_toArray]); (try simp only [List.set_cons_succ]); (try simp only [List.set_cons_zero])
          refine r_flt RB_refl 3 81 #[false, true, true, true, false, false, false, false, false, false] (by simp only [List.getElem?_toArray, List.getElem?_cons_succ, List.getElem?_cons_zero]; rfl) (by rfl) (by kernel_rfl) (by kernel_rfl) (by kernel_rfl) (fun _ _ _ _ h => h) rfl (by rfl) ?_
          apply Exists.intro
          apply And.intro
          · intro W hW
            first | (go_simp; with_reducible rfl) | go_simp
          (try simp only [Act.put, List.setIfInBounds_toArray]); (try simp only [List.set_cons_succ]); (try simp only [List.set_cons_zero])
          refine r_flt RB_refl 4 82 #[false, true, true, true, true, false, false, false, false, false] (by simp only [List.getElem?_toArray, List.getElem?_cons_succ, List.getElem?_cons_zero]; rfl) (by rfl) (by kernel_rfl) (by kernel_rfl) (by kernel_rfl) (fun _ _ _ _ h => h) rfl (by rfl) ?_
          apply Exists.intro
          apply And.intro
          · intro W hW
            first | (go_simp; with_reducible rfl) | go_simp
          (try simp only [Act.put, List.setIfInBounds_toArray]); (try simp only [List.set_cons_succ]); (try simp only [List.set_cons_zero])
          refine r_flt RB_refl 5 83 #[false, true, true, true, true, true, false, false, false, false] (by simp only [List.getElem?_toArray, List.getElem?_cons_succ, List.getElem?_cons_zero]; rfl) (by rfl) (by kernel_rfl) (by kernel_rfl) (by kernel_rfl) (fun _ _ _ _ h => h) rfl (by rfl) ?_
          apply Exists.intro
          apply And.intro
          · intro W hW
            first | (go_simp; with_reducible rfl) | go_simp
          (try simp only [Act.put, List.setIfInBounds_toArray]); (try simp only [List.set_cons_succ]); (try simp only [List.set_cons_zero])
          refine r_flt RB_refl 6 84 #[false, true, true, true, true, true, true, false, false, false] (by simp only [List.getElem?_toArray, List.getElem?_cons_succ, List.getElem?_cons_zero]; rfl) (by rfl) (by kernel_rfl) (by kernel_rfl) (by kernel_rfl) (fun _ _ _ _ h => h) rfl (by rfl) ?_
          apply Exists.intro
          apply And.intro
          · intro W hW
            first | (go_simp; with_reducible rfl) | go_simp
          (try simp only [Act.put, List.setIfInBounds_toArray]); (try simp only [List.set_cons_succ]); (try simp only [List.set_cons_zero])
          refine r_flt RB_refl 7 85 #[false, true, true, true, true, true, true, true, false, false] (by simp only [List.getElem?_toArray, List.getElem?_cons_succ, List.getElem?_cons_zero]; rfl) (by rfl) (by kernel_rfl) (by kernel_rfl) (by kernel_rfl) (fun _ _ _ _ h => h) rfl (by rfl) ?_
          apply Exists.intro
          apply And.intro
          · intro W hW
            first | (go_simp; with_reducible rfl) | go_simp
          (try simp only [Act.put, List.setIfInBounds_toArray]); (try simp only [List.set_cons_succ]); (try simp only [List.set_cons_zero])
          refine r_one RB_trans 0 (by kernel_rfl) ?_
          refine alt_call 78 #[true, true, true, true, true, true, true, true, false, false] (by simp only [List.getElem?_toArray, List.getElem?_cons_zero]; rfl) (by rfl) rfl (by rfl) (by go_simp; first | exact ⟨rfl, rfl⟩ | rfl) ?_
          with_reducible refine (layout_any _).mono ?_
          rintro e' w8 ⟨rfl, b_⟩
          refine ⟨_, rfl, b_, ?_⟩
          have n8 := n7.thenB b_ n7.size
          have bb8 := bb7.thenB' b_
          clear b_
          have hr := right_of2 (size := a0) (hL.below n8) ((hR.below n8).take m) rfl (show m = (R.take m).length by rw [List.length_take]; omega) (ht0.below bb8) (show pcs L = csK (newP a0) (X.map CaV.x) m by rw [HEL.out, HM1.out, csK_at HXM.out, HOK.out]; simp) (show prs (R.take m) = rsK (newP a0) (X.map CaV.x) m by rw [prs_take, HER.out, HM1.out, rsK_at HXM.out, take_end _ _ (rsK_len _ hml)]) true (by have := right_K (size := a0) hml (by omega) [] (fun z hz => absurd hz (by simp)); rw [List.append_nil] at this; exact this) (rsK_bd hml HX.out) (csK_bd hml HX.out) (by rw [rsK_len _ hml]; omega)
          (try simp only [Act.put, List.setIfInBounds_toArray]); (try simp only [List.set_cons_succ]); (try simp only [List.set_cons_zero])
          refine r_one RB_trans 8 (by kernel_rfl) ?_
          refine alt_call 86 #[true, true, true, true, true, true, true, true, true, false] (by simp only [List.getElem?_toArray, List.getElem?_cons_succ, List.getElem?_cons_zero]; rfl) (by rfl) rfl (by rfl) (by go_simp; first | exact ⟨rfl, rfl⟩ | rfl) ?_
          with_reducible refine hr.mono ?_
          clear hr
          rintro e' w9 ⟨rfl, b_⟩
          refine ⟨_, rfl, b_, ?_⟩
          have bb9 := bb8.thenB' b_
          clear b_
          (try simp only [Act.put, List.setIfInBounds_toArray]); (try simp only [List.set_cons_succ]); (try simp only [List.set_cons_zero])
          refine r_flt RB_refl 9 6 #[true, true, true, true, true, true, true, true, true, true] (by simp only [List.getElem?_toArray, List.getElem?_cons_succ, List.getElem?_cons_zero]; rfl) (by rfl) (by kernel_rfl) (by kernel_rfl) (by kernel_rfl) (fun _ _ _ _ h => h) rfl (by rfl) ?_
          apply Exists.intro
          apply And.intro
          · intro W hW
            first | (go_simp; with_reducible rfl) | go_simp
          (try simp only [Act.put, List.setIfInBounds_toArray]); (try simp only [List.set_cons_succ]); (try simp only [List.set_cons_zero])
          refine r_done (by kernel_rfl) ?_
          go_wp2_with fail
          (try simp only [Exit.inBlock, Exit.then])
          go_ret
          exact ⟨rfl, b0.thenB' bb9⟩
        have HOK : Hid (okH m (stK (newP a0) (X.map CaV.x) m) xm = true) := Lib.hid (recK_mut (by rw [← HKK.out]; exact hk0) (by rw [← HEK.out]; exact hE0)).1
        have hkb : (s.call.kind == 0) = false := by simp [hk0]
        have heb : (s.E != 0) = false := by simp [hE0]
        clear hk0 hE0
        go_upto_region 18 with fail
        have bn := below_new w5 (.cells #[.int .i64 s.cl, .int .i64 s.call.image, .int .i64 s.call.kind, .int .i64 s.call.off, .int .i64 s.call.len, .int .i64 s.call.snap, .slice s.A s.call.data.length s.c, .int .i64 s.fr, .int .i64 s.tt, .bool s.done, .int .i64 s.E, .slice s.rA s.rd.length s.rc, .int .i64 s.N, .int .i64 s.rx] 44)
        have bb6 := bb5.thenB' bn
        have hH6 := hH5.below bn
        clear c0 c1' c2' c3' c4' c5' c6' c7' c8' c9' c10' c11' c12' c13' bn
        generalize w5.alloc (.cells #[.int .i64 s.cl, .int .i64 s.call.image, .int .i64 s.call.kind, .int .i64 s.call.off, .int .i64 s.call.len, .int .i64 s.call.snap, .slice s.A s.call.data.length s.c, .int .i64 s.fr, .int .i64 s.tt, .bool s.done, .int .i64 s.E, .slice s.rA s.rd.length s.rc, .int .i64 s.N, .int .i64 s.rx] 44) = w6 at *
        have h6R := HSR.out
        have hl6 := hmR
        have hs6 := hH6.ar s (List.mem_of_getElem? h6R)
        go_wp2_with first
          | (with_reducible show wpList _ _ _ _ _ _
             refine wpList_updC1 rfl 4 (.tmp 92) _ rfl infoBo1 rcC_len hH6.ow h6R 9 (.bool false) (⟨s.cl, s.call, s.A, s.c, s.fr, s.tt, false, s.E, s.rA, s.rd, s.rc, s.N, s.rx⟩ : RcV) (by decide) rfl ad2 rfl rfl rfl rfl ?_
             intro w7 o7 m7
             have hH7 := hH6.setR o7 m7 (show RcR w6 (Off3 g (.slice A1 L.length c1) (.slice (some ad2) R.length c2)) (⟨s.cl, s.call, s.A, s.c, s.fr, s.tt, false, s.E, s.rA, s.rd, s.rc, s.N, s.rx⟩ : RcV) from ⟨hs6.1, hs6.2⟩)
             have hl7 : m < (R.set m (⟨s.cl, s.call, s.A, s.c, s.fr, s.tt, false, s.E, s.rA, s.rd, s.rc, s.N, s.rx⟩ : RcV)).length := by rw [List.length_set]; exact hl6
             have h7R : (R.set m (⟨s.cl, s.call, s.A, s.c, s.fr, s.tt, false, s.E, s.rA, s.rd, s.rc, s.N, s.rx⟩ : RcV))[m]? = some (⟨s.cl, s.call, s.A, s.c, s.fr, s.tt, false, s.E, s.rA, s.rd, s.rc, s.N, s.rx⟩ : RcV) := List.getElem?_set_self hl6
             have hs7 := hH7.ar (⟨s.cl, s.call, s.A, s.c, s.fr, s.tt, false, s.E, s.rA, s.rd, s.rc, s.N, s.rx⟩ : RcV) (List.mem_of_getElem? h7R)
             have bb7 := bb6.thenM m7 bb6.size (fun b hb e => by have := (OwnC.lt hH6.ow b e).1; omega))
          | (with_reducible show wpList _ _ _ _ _ _
             refine wpList_updC1 rfl 3 (.tmp 98) _ rfl infoN1 rcC_len hH7.ow h7R 8 (.int .i64 0) (⟨s.cl, s.call, s.A, s.c, s.fr, 0, false, s.E, s.rA, s.rd, s.rc, s.N, s.rx⟩ : RcV) (by decide) rfl ad2 rfl rfl rfl rfl ?_
             intro w8 o8 m8
             have hH8 := hH7.setR o8 m8 (show RcR w7 (Off3 g (.slice A1 L.length c1) (.slice (some ad2) R.length c2)) (⟨s.cl, s.call, s.A, s.c, s.fr, 0, false, s.E, s.rA, s.rd, s.rc, s.N, s.rx⟩ : RcV) from ⟨hs7.1, hs7.2⟩)
             have hl8 : m < ((R.set m (⟨s.cl, s.call, s.A, s.c, s.fr, s.tt, false, s.E, s.rA, s.rd, s.rc, s.N, s.rx⟩ : RcV)).set m (⟨s.cl, s.call, s.A, s.c, s.fr, 0, false, s.E, s.rA, s.rd, s.rc, s.N, s.rx⟩ : RcV)).length := by rw [List.length_set]; exact hl7
             have h8R : ((R.set m (⟨s.cl, s.call, s.A, s.c, s.fr, s.tt, false, s.E, s.rA, s.rd, s.rc, s.N, s.rx⟩ : RcV)).set m (⟨s.cl, s.call, s.A, s.c, s.fr, 0, false, s.E, s.rA, s.rd, s.rc, s.N, s.rx⟩ : RcV))[m]? = some (⟨s.cl, s.call, s.A, s.c, s.fr, 0, false, s.E, s.rA, s.rd, s.rc, s.N, s.rx⟩ : RcV) := List.getElem?_set_self hl7
             have hs8 := hH8.ar (⟨s.cl, s.call, s.A, s.c, s.fr, 0, false, s.E, s.rA, s.rd, s.rc, s.N, s.rx⟩ : RcV) (List.mem_of_getElem? h8R)
             have bb8 := bb7.thenM m8 bb7.size (fun b hb e => by have := (OwnC.lt hH7.ow b e).1; omega))
          | (with_reducible show wpList _ _ _ _ _ _
             refine wpList_updCn rfl 42 (.tmp 105) (.tmp 103) rfl rcC_len hH8.ow h8R 10 #[.int .i64 0, .slice none 0 0, .int .i64 0, .int .i64 0] (⟨s.cl, s.call, s.A, s.c, s.fr, 0, false, 0, none, [], 0, 0, 0⟩ : RcV) (show 10 + 4 ≤ 14 by decide) rfl infoRe4 (by simp [Value.oneCell']) ad2 rfl rfl rfl ?_
             intro w9 o9 m9
             have hH9 := hH8.setR o9 m9 (show RcR w8 (Off3 g (.slice A1 L.length c1) (.slice (some ad2) R.length c2)) (⟨s.cl, s.call, s.A, s.c, s.fr, 0, false, 0, none, [], 0, 0, 0⟩ : RcV) from ⟨hs8.1, RdC.nil⟩)
             have hl9 : m < (((R.set m (⟨s.cl, s.call, s.A, s.c, s.fr, s.tt, false, s.E, s.rA, s.rd, s.rc, s.N, s.rx⟩ : RcV)).set m (⟨s.cl, s.call, s.A, s.c, s.fr, 0, false, s.E, s.rA, s.rd, s.rc, s.N, s.rx⟩ : RcV)).set m (⟨s.cl, s.call, s.A, s.c, s.fr, 0, false, 0, none, [], 0, 0, 0⟩ : RcV)).length := by rw [List.length_set]; exact hl8
             have h9R : (((R.set m (⟨s.cl, s.call, s.A, s.c, s.fr, s.tt, false, s.E, s.rA, s.rd, s.rc, s.N, s.rx⟩ : RcV)).set m (⟨s.cl, s.call, s.A, s.c, s.fr, 0, false, s.E, s.rA, s.rd, s.rc, s.N, s.rx⟩ : RcV)).set m (⟨s.cl, s.call, s.A, s.c, s.fr, 0, false, 0, none, [], 0, 0, 0⟩ : RcV))[m]? = some (⟨s.cl, s.call, s.A, s.c, s.fr, 0, false, 0, none, [], 0, 0, 0⟩ : RcV) := List.getElem?_set_self hl8
             have hs9 := hH9.ar (⟨s.cl, s.call, s.A, s.c, s.fr, 0, false, 0, none, [], 0, 0, 0⟩ : RcV) (List.mem_of_getElem? h9R)
             have bb9 := bb8.thenM m9 bb8.size (fun b hb e => by have := (OwnC.lt hH8.ow b e).1; omega))
        have HU := Lib.hid (undone HSP.out HOK.out 0 0 0 0 [])
        have HL1 : Hid (csK (newP a0) (X.map CaV.x) X.length = csK (newP a0) (X.map CaV.x) m ++ [comK m xm]) := Lib.hid (by rw [HM1.out, csK_at HXM.out, HOK.out]; rfl)
        have HR1 : Hid (prs (((R.set m (⟨s.cl, s.call, s.A, s.c, s.fr, s.tt, false, s.E, s.rA, s.rd, s.rc, s.N, s.rx⟩ : RcV)).set m (⟨s.cl, s.call, s.A, s.c, s.fr, 0, false, s.E, s.rA, s.rd, s.rc, s.N, s.rx⟩ : RcV)).set m (⟨s.cl, s.call, s.A, s.c, s.fr, 0, false, 0, none, [], 0, 0, 0⟩ : RcV)) = rsK (newP a0) (X.map CaV.x) m ++ [(⟨s.cl, s.call, s.A, s.c, s.fr, 0, false, 0, none, [], 0, 0, 0⟩ : RcV).p]) := Lib.hid (by rw [prs_set, prs_set, prs_set, List.set_set, List.set_set, HER.out, HM1.out, rsK_at HXM.out, set_end _ _ _ (rsK_len _ hml)])
        have hn9 : R.length = ((((R.set m (⟨s.cl, s.call, s.A, s.c, s.fr, s.tt, false, s.E, s.rA, s.rd, s.rc, s.N, s.rx⟩ : RcV)).set m (⟨s.cl, s.call, s.A, s.c, s.fr, 0, false, s.E, s.rA, s.rd, s.rc, s.N, s.rx⟩ : RcV)).set m (⟨s.cl, s.call, s.A, s.c, s.fr, 0, false, 0, none, [], 0, 0, 0⟩ : RcV))).length := by simp only [List.length_set]
        have HN9 := Lib.hid hn9
        have hL9 := own_cms hH9.oc rfl hH9.al
        have hR9 := own_rcs hH9.ow hn9 hH9.ar
        obtain ⟨mL, hmL⟩ : ∃ mL, (csK (newP a0) (X.map CaV.x) m).length = mL := ⟨_, rfl⟩
        have HML := Lib.hid hmL
        have HLL : Hid (L.length = mL + 1) := Lib.hid (by rw [← pcs_len, HEL.out, HL1.out, List.length_append, hmL]; rfl)
        have hsubL : ((L.length : Int) - 1) = (mL : Int) := by rw [HLL.out]; omega
        have hml15 : mL ≤ 15 := by have := csK_len (m := newP a0) (xs := X.map CaV.x) m; omega
        have hwm : IntKind.i64.wrap (mL : Int) = (mL : Int) := by rw [IntKind.wrap_i64]; omega
        have hmc1 : (mL : Int) ≤ (c1 : Int) := by have := hL9.cap; rw [HLL.out] at this; omega
        have HXL : Hid (LBd xm) := Lib.hid (HX.out xm (List.mem_of_getElem? HXM.out))
        have HRB : Hid (∀ r ∈ rsK (newP a0) (X.map CaV.x) m ++ [(⟨s.cl, s.call, s.A, s.c, s.fr, 0, false, 0, none, [], 0, 0, 0⟩ : RcV).p], RBd r) := Lib.hid (fun r hr => by
          rcases List.mem_append.1 hr with h | h
          · exact rsK_bd hml HX.out r h
          · obtain rfl := List.mem_singleton.1 h
            show s.call.data.length ≤ big ∧ s.call.len ≤ 9223372036854775807
            rw [HU.out.2.2]
            exact ⟨big_of HXL.out.1, HXL.out.2⟩)
        clear hmL hn9 hsub hs6 hs7 hs8 hH6 hH7 hH8 h6R h7R h8R hl6 hl7 hl8 o7 o8 o9 m7 m8 m9 bb6 bb7 bb8 hH9 hs9 h9R hl9
        go_wp2_with fail
        refine r_start (R := RB) (by rfl) (n := 17) (L := #[false, false, false, false, false, false, false, false, false, false, false, false, false, false, false, false, false]) rfl rfl ?_
        have bd : Below w9.heap.size w9 w9.drew := (Below.refl _ _).drew
        have hL10 := hL9.below bd
        have hR10 := hR9.below bd
        have bb10 := bb9.thenB' bd
        clear bd
        generalize w9.drew = w10 at *
        refine r_flt RB_refl 1 107 #[false, true, false, false, false, false, false, false, false, false, false, false, false, false, false, false, false] (by simp only [List.getElem?_toArray, List.getElem?_cons_succ, List.getElem?_cons_zero]; rfl) (by rfl) (by kernel_rfl) (by kernel_rfl) (by kernel_rfl) (fun _ _ _ _ h => h) rfl (by rfl) ?_
        apply Exists.intro
        apply And.intro
        · intro W hW
          first | (go_simp; with_reducible rfl) | go_simp
        (try simp only [Act.put, List.setIfInBounds_toArray]); (try simp only [List.set_cons_succ]); (try simp only [List.set_cons_zero])
        refine r_flt RB_refl 2 108 #[false, true, true, false, false, false, false, false, false, false, false, false, false, false, false, false, false] (by simp only [List.getElem?_toArray, List.getElem?_cons_succ, List.getElem?_cons_zero]; rfl) (by rfl) (by kernel_rfl) (by kernel_rfl) (by kernel_rfl) (fun _ _ _ _ h => h) rfl (by rfl) ?_
        apply Exists.intro
        apply And.intro
        · intro W hW
          first | (go_simp; with_reducible rfl) | go_simp
        (try simp only [Act.put, List.setIfInBounds_toArray]); (try simp only [List.set_cons_succ]); (try simp only [List.set_cons_zero])
        refine r_flt RB_refl 3 109 #[false, true, true, true, false, false, false, false, false, false, false, false, false, false, false, false, false] (by simp only [List.getElem?_toArray, List.getElem?_cons_succ, List.getElem?_cons_zero]; rfl) (by rfl) (by kernel_rfl) (by kernel_rfl) (by kernel_rfl) (fun _ _ _ _ h => h) rfl (by rfl) ?_
        apply Exists.intro
        apply And.intro
        · intro W hW
          first | (go_simp; with_reducible rfl) | go_simp
        (try simp only [Act.put, List.setIfInBounds_toArray]); (try simp only [List.set_cons_succ]); (try simp only [List.set_cons_zero])
        refine r_one RB_trans 0 (by kernel_rfl) ?_
        refine alt_call 106 #[true, true, true, true, false, false, false, false, false, false, false, false, false, false, false, false, false] (by simp only [List.getElem?_toArray, List.getElem?_cons_zero]; rfl) (by rfl) rfl (by rfl) (by go_simp; first | exact ⟨rfl, rfl⟩ | rfl) ?_
        with_reducible refine (layout_any _).mono ?_
        rintro e' w11 ⟨rfl, b_⟩
        refine ⟨_, rfl, b_, ?_⟩
        have hL11 := hL10.below b_
        have hR11 := hR10.below b_
        have bb11 := bb10.thenB' b_
        clear b_
        have hr := right_of2 (size := a0) hL11 hR11 rfl HN9.out (ht0.below bb11) HEL.out HR1.out true (by rw [HL1.out]; exact (right_K1 (z := (⟨s.cl, s.call, s.A, s.c, s.fr, 0, false, 0, none, [], 0, 0, 0⟩ : RcV).p) hml (by omega) (show 2 * (m : Int) + 2 ≤ 2 * (m : Int) + 2 by omega) rfl rfl HU.out.2.1 HU.out.1).trans (decide_eq_true (ok_parts HOK.out).2)) HRB.out (csK_bd (map_le X) HX.out) (by rw [List.length_append, rsK_len _ hml, List.length_singleton]; omega)
        (try simp only [Act.put, List.setIfInBounds_toArray]); (try simp only [List.set_cons_succ]); (try simp only [List.set_cons_zero])
        refine r_one RB_trans 4 (by kernel_rfl) ?_
        refine alt_call 110 #[true, true, true, true, true, false, false, false, false, false, false, false, false, false, false, false, false] (by simp only [List.getElem?_toArray, List.getElem?_cons_succ, List.getElem?_cons_zero]; rfl) (by rfl) rfl (by rfl) (by go_simp; first | exact ⟨rfl, rfl⟩ | rfl) ?_
        with_reducible refine hr.mono ?_
        clear hr
        rintro e' w12 ⟨rfl, b_⟩
        refine ⟨_, rfl, b_, ?_⟩
        have hL12 := hL11.below b_
        have hR12 := hR11.below b_
        have bb12 := bb11.thenB' b_
        clear b_
        (try simp only [Act.put, List.setIfInBounds_toArray]); (try simp only [List.set_cons_succ]); (try simp only [List.set_cons_zero])
        refine r_flt RB_refl 5 111 #[true, true, true, true, true, true, false, false, false, false, false, false, false, false, false, false, false] (by simp only [List.getElem?_toArray, List.getElem?_cons_succ, List.getElem?_cons_zero]; rfl) (by rfl) (by kernel_rfl) (by kernel_rfl) (by kernel_rfl) (fun _ _ _ _ h => h) rfl (by rfl) ?_
        apply Exists.intro
        apply And.intro
        · intro W hW
          first | (go_simp; with_reducible rfl) | go_simp
        (try simp only [Act.put, List.setIfInBounds_toArray]); (try simp only [List.set_cons_succ]); (try simp only [List.set_cons_zero])
        refine r_flt RB_refl 7 113 #[true, true, true, true, true, true, false, true, false, false, false, false, false, false, false, false, false] (by simp only [List.getElem?_toArray, List.getElem?_cons_succ, List.getElem?_cons_zero]; rfl) (by rfl) (by kernel_rfl) (by kernel_rfl) (by kernel_rfl) (fun _ _ _ _ h => h) rfl (by rfl) ?_
        apply Exists.intro
        apply And.intro
        · intro W hW
          first | (go_simp; with_reducible rfl) | go_simp
        (try simp only [Act.put, List.setIfInBounds_toArray]); (try simp only [List.set_cons_succ]); (try simp only [List.set_cons_zero])
        refine r_flt RB_refl 8 114 #[true, true, true, true, true, true, false, true, true, false, false, false, false, false, false, false, false] (by simp only [List.getElem?_toArray, List.getElem?_cons_succ, List.getElem?_cons_zero]; rfl) (by rfl) (by kernel_rfl) (by kernel_rfl) (by kernel_rfl) (fun _ _ _ _ h => h) rfl (by rfl) ?_
        apply Exists.intro
        apply And.intro
        · intro W hW
          first | (go_simp; with_reducible rfl) | go_simp
        (try simp only [Act.put, List.setIfInBounds_toArray]); (try simp only [List.set_cons_succ]); (try simp only [List.set_cons_zero])
        refine r_flt RB_refl 9 115 #[true, true, true, true, true, true, false, true, true, true, false, false, false, false, false, false, false] (by simp only [List.getElem?_toArray, List.getElem?_cons_succ, List.getElem?_cons_zero]; rfl) (by rfl) (by kernel_rfl) (by kernel_rfl) (by kernel_rfl) (fun _ _ _ _ h => h) rfl (by rfl) ?_
        apply Exists.intro
        apply And.intro
        · intro W hW
          first | (go_simp; with_reducible rfl) | go_simp
        (try simp only [Act.put, List.setIfInBounds_toArray]); (try simp only [List.set_cons_succ]); (try simp only [List.set_cons_zero])
        refine r_flt RB_refl 10 116 #[true, true, true, true, true, true, false, true, true, true, true, false, false, false, false, false, false] (by simp only [List.getElem?_toArray, List.getElem?_cons_succ, List.getElem?_cons_zero]; rfl) (by rfl) (by kernel_rfl) (by kernel_rfl) (by kernel_rfl) (fun _ _ _ _ h => h) rfl (by rfl) ?_
        apply Exists.intro
        apply And.intro
        · intro W hW
          first | (go_simp; with_reducible rfl) | go_simp
        (try simp only [Act.put, List.setIfInBounds_toArray]); (try simp only [List.set_cons_succ]); (try simp only [List.set_cons_zero])
        refine r_flt RB_refl 11 117 #[true, true, true, true, true, true, false, true, true, true, true, true, false, false, false, false, false] (by simp only [List.getElem?_toArray, List.getElem?_cons_succ, List.getElem?_cons_zero]; rfl) (by rfl) (by kernel_rfl) (by kernel_rfl) (by kernel_rfl) (fun _ _ _ _ h => h) rfl (by rfl) ?_
        apply Exists.intro
        apply And.intro
        · intro W hW
          first | (go_simp; with_reducible rfl) | go_simp
        (try simp only [Act.put, List.setIfInBounds_toArray]); (try simp only [List.set_cons_succ]); (try simp only [List.set_cons_zero])
        refine r_flt RB_refl 12 118 #[true, true, true, true, true, true, false, true, true, true, true, true, true, false, false, false, false] (by simp only [List.getElem?_toArray, List.getElem?_cons_succ, List.getElem?_cons_zero]; rfl) (by rfl) (by kernel_rfl) (by kernel_rfl) (by kernel_rfl) (fun _ _ _ _ h => h) rfl (by rfl) ?_
        apply Exists.intro
        apply And.intro
        · intro W hW
          first | (go_simp; with_reducible rfl) | go_simp
        (try simp only [Act.put, List.setIfInBounds_toArray]); (try simp only [List.set_cons_succ]); (try simp only [List.set_cons_zero])
        refine r_flt RB_refl 13 119 #[true, true, true, true, true, true, false, true, true, true, true, true, true, true, false, false, false] (by simp only [List.getElem?_toArray, List.getElem?_cons_succ, List.getElem?_cons_zero]; rfl) (by rfl) (by kernel_rfl) (by kernel_rfl) (by kernel_rfl) (fun _ _ _ _ h => h) rfl (by rfl) ?_
        apply Exists.intro
        apply And.intro
        · intro W hW
          first | (go_simp; with_reducible rfl) | go_simp
        (try simp only [Act.put, List.setIfInBounds_toArray]); (try simp only [List.set_cons_succ]); (try simp only [List.set_cons_zero])
        refine r_one RB_trans 6 (by kernel_rfl) ?_
        refine alt_call 112 #[true, true, true, true, true, true, true, true, true, true, true, true, true, true, false, false, false] (by simp only [List.getElem?_toArray, List.getElem?_cons_succ, List.getElem?_cons_zero]; rfl) (by rfl) rfl (by rfl) (by go_simp; first | exact ⟨rfl, rfl⟩ | rfl) ?_
        with_reducible refine (layout_any _).mono ?_
        rintro e' w13 ⟨rfl, b_⟩
        refine ⟨_, rfl, b_, ?_⟩
        have hL13 := hL12.below b_
        have hR13 := hR12.below b_
        have bb13 := bb12.thenB' b_
        clear b_
        have hr := right_of2 (size := a0) (hL13.take mL) hR13 (show mL = (L.take mL).length by rw [List.length_take, HLL.out]; omega) HN9.out (ht0.below bb13) (show pcs (L.take mL) = csK (newP a0) (X.map CaV.x) m by rw [pcs_take, HEL.out, HL1.out, take_end _ _ HML.out]) HR1.out true (right_K hml (by omega) [(⟨s.cl, s.call, s.A, s.c, s.fr, 0, false, 0, none, [], 0, 0, 0⟩ : RcV).p] (fun z hz => by obtain rfl := List.mem_singleton.1 hz; exact ⟨rfl, HU.out.2.1⟩)) HRB.out (csK_bd hml HX.out) (by rw [List.length_append, rsK_len _ hml, List.length_singleton]; omega)
        (try simp only [Act.put, List.setIfInBounds_toArray]); (try simp only [List.set_cons_succ]); (try simp only [List.set_cons_zero])
        refine r_one RB_trans 14 (by kernel_rfl) ?_
        refine alt_call 120 #[true, true, true, true, true, true, true, true, true, true, true, true, true, true, true, false, false] (by simp only [List.getElem?_toArray, List.getElem?_cons_succ, List.getElem?_cons_zero]; rfl) (by rfl) rfl (by rfl) (by go_simp; first | exact ⟨rfl, rfl⟩ | rfl) ?_
        with_reducible refine hr.mono ?_
        clear hr
        rintro e' w14 ⟨rfl, b_⟩
        refine ⟨_, rfl, b_, ?_⟩
        have hL14 := hL13.below b_
        have hR14 := hR13.below b_
        have bb14 := bb13.thenB' b_
        clear b_
        (try simp only [Act.put, List.setIfInBounds_toArray]); (try simp only [List.set_cons_succ]); (try simp only [List.set_cons_zero])
        refine r_flt RB_refl 15 121 #[true, true, true, true, true, true, true, true, true, true, true, true, true, true, true, true, false] (by simp only [List.getElem?_toArray, List.getElem?_cons_succ, List.getElem?_cons_zero]; rfl) (by rfl) (by kernel_rfl) (by kernel_rfl) (by kernel_rfl) (fun _ _ _ _ h => h) rfl (by rfl) ?_
        apply Exists.intro
        apply And.intro
        · intro W hW
          first | (go_simp; with_reducible rfl) | go_simp
        (try simp only [Act.put, List.setIfInBounds_toArray]); (try simp only [List.set_cons_succ]); (try simp only [List.set_cons_zero])
        refine r_flt RB_refl 16 6 #[true, true, true, true, true, true, true, true, true, true, true, true, true, true, true, true, true] (by simp only [List.getElem?_toArray, List.getElem?_cons_succ, List.getElem?_cons_zero]; rfl) (by rfl) (by kernel_rfl) (by kernel_rfl) (by kernel_rfl) (fun _ _ _ _ h => h) rfl (by rfl) ?_
        apply Exists.intro
        apply And.intro
        · intro W hW
          first | (go_simp; with_reducible rfl) | go_simp
        (try simp only [Act.put, List.setIfInBounds_toArray]); (try simp only [List.set_cons_succ]); (try simp only [List.set_cons_zero])
        refine r_done (by kernel_rfl) ?_
        go_wp2_with fail
        (try simp only [Exit.inBlock, Exit.then])
        go_ret
        exact ⟨rfl, b0.thenB' bb14⟩
end Go.Proofs.YthkeoimjjgmppaaDoor
