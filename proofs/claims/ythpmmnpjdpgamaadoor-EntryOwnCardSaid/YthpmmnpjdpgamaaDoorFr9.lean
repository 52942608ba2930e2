/- Next: what it answers (no program), and the code's walk. -/
import Derived.Test.YthpmmnpjdpgamaaDoorFr8
namespace Go.Proofs.YthpmmnpjdpgamaaDoor
open Go.RowKit
set_option linter.unusedVariables false

structure Nx where
  k : Int
  body : List UInt8
  rest : List UInt8
  fin : Nat
  e : Int
def Nx.bad (e : Int) : Nx := ⟨0, [], [], 0, e⟩
def lenF (b : List UInt8) : Nat := (b.getD 2 0).toNat * 256 + (b.getD 3 0).toNat
def bodyF (b : List UInt8) (n : Nat) : List UInt8 := (b.take (8 + n)).drop 8
def footF (b : List UInt8) (n : Nat) : List UInt8 := (b.take (12 + n)).drop (8 + n)
def nextO (b : List UInt8) : Nx :=
  if b.length < 8 then .bad 10 else if b.getD 0 0 ≠ 90 then .bad 11 else if tailO (b.take 4) ≠ (b.take 8).drop 4 then .bad 20
  else if 8192 < lenF b then .bad 11 else if b.length < lenF b + 12 then .bad 10 else if tailO (bodyF b (lenF b)) ≠ footF b (lenF b) then .bad 20
  else ⟨((b.getD 1 0).toNat : Int), bodyF b (lenF b), b.drop (12 + lenF b), 12 + lenF b, 0⟩
theorem ok8 (b : List UInt8) (h : 8 ≤ b.length) : okS (b.take 8) = decide (tailO (b.take 4) = (b.take 8).drop 4) := by
  have : (b.take 8).length = 8 := by rw [List.length_take]; omega
  unfold okS
  rw [this, List.take_take]
  rfl
theorem okB (b : List UInt8) (n : Nat) (h : 12 + n ≤ b.length) : okS ((b.take (12 + n)).drop 8) = decide (tailO (bodyF b n) = footF b n) := by
  have : ((b.take (12 + n)).drop 8).length - 4 = n := by rw [List.length_drop, List.length_take]; omega
  unfold okS bodyF footF
  rw [this, List.drop_drop, List.take_drop, List.take_take, Nat.min_eq_left (by omega)]
theorem bodyF_len (b : List UInt8) (n : Nat) (h : 12 + n ≤ b.length) : (bodyF b n).length = n := by
  unfold bodyF; rw [List.length_drop, List.length_take]; omega
theorem footF_len (b : List UInt8) (n : Nat) (h : 12 + n ≤ b.length) : (footF b n).length = 4 := by
  unfold footF; rw [List.length_drop, List.length_take]; omega

theorem results_tmp4 {fn : Func} {t u v x : Tmp} (h : fn.results = #[.tmp t, .tmp u, .tmp v, .tmp x]) (tmps : Array Value) (P : Program) (w : World) :
    (results fn tmps).run P w = .ok (.tuple #[tmps.getD t undef, tmps.getD u undef, tmps.getD v undef, tmps.getD x undef]) w := by
  simp [results, h]

theorem toNat64 (n : Nat) (h : n < 9223372036854775808) : (BitVec.ofInt 64 (n : Int)).toNat = n := by
  rw [BitVec.toNat_ofInt]; omega
theorem or256 (x y : Nat) (hx : x < 256) (hy : y < 256) : bits .or .i64 ((x : Int) * 256) (y : Int) = ((x * 256 + y : Nat) : Int) := by
  show IntKind.i64.wrap (((BitVec.ofInt 64 ((x * 256 : Nat) : Int) ||| BitVec.ofInt 64 ((y : Nat) : Int)).toNat : Nat) : Int) = _
  have h := Nat.shiftLeft_add_eq_or_of_lt (i := 8) (show y < 2 ^ 8 from hy) x
  rw [Nat.shiftLeft_eq] at h
  rw [BitVec.toNat_or, toNat64 _ (by omega), toNat64 _ (by omega), ← h, IntKind.wrap_i64]
  omega
theorem none_any (e : Int) (w : World) : Calls Tryd.prog 41 #[.int .i64 e] w fun r w' => r = .returned (.tuple #[.int .i64 0, .slice none 0 0, .slice none 0 0, .int .i64 e]) ∧ w = w' := by
  go_enter Tryd.func41, Tryd.ntmps41
  go_wp2_with fail
  ((try simp only [Exit.inBlock, Exit.then]); refine bodyPost_ret (results_tmp4 rfl _ _ _) rfl ?_)
  exact ⟨rfl, rfl⟩

set_option maxHeartbeats 2000000 in
set_option maxRecDepth 100000 in
theorem Next_any (D : Nat → Prop) (A : Option Addr) (c : Nat) (b : List UInt8) (w : World) (h : RdB w D A b) (hl : b.length ≤ 1000000) (hc : b.length ≤ c) (hm : c ≤ 9223372036854775807) (ht : Tab w) :
    Calls Tryd.prog 24 #[.slice A b.length c] w fun e w' => ∃ v1 v2, e = .returned (.tuple #[.int .i64 (nextO b).k, v1, v2, .int .i64 (nextO b).e]) ∧ OwnB w' w.heap.size v1 (nextO b).body ∧ OwnB w' w.heap.size v2 (nextO b).rest ∧ Below w.heap.size w w' := by
  by_cases h8 : b.length < 8
  · have e : Hid (nextO b = .bad 10) := by unfold Hid nextO; rw [if_pos h8]
    go_enter Tryd.func24, Tryd.ntmps24
    go_wp2_with fail
    refine (none_any 10 w).mono ?_
    rintro r w1 ⟨rfl, rfl⟩
    go_wp2_with fail
    ((try simp only [Exit.inBlock, Exit.then]); refine bodyPost_ret (results_tmp4 rfl _ _ _) rfl ?_)
    exact ⟨_, _, by rw [e.out] <;> rfl, by rw [e.out]; exact OwnB.nil, by rw [e.out]; exact OwnB.nil, Below.refl _ _⟩
  · obtain ⟨ad, rfl, _, p0⟩ := h.at_ (k := 0) (by omega)
    by_cases h90 : b.getD 0 0 = 90
    · have hb0 : b[0] = 90 := by rw [List.getD_eq_getElem?_getD, List.getElem?_eq_getElem (by omega : 0 < b.length)] at h90; exact h90
      rw [hb0] at p0
      have p0' : w.cell? ad = some (.int .u8 90) := p0
      have hl0 : 0 < b.length := by omega
      have hl8 : 8 ≤ b.length := by omega
      have hl8c : 8 ≤ c := by omega
      have H90 := Lib.hid h90
      have r8 : RdB w D (some ad) (b.take 8) := h.take hl8
      have l8 : (b.take 8).length = 8 := by rw [List.length_take]; omega
      have L8 := Lib.hid l8
      have hcall := sealed_any D (some ad) c (b.take 8) w r8 (by omega) (by omega) (by omega) hm ht
      rw [l8, ok8 b hl8] at hcall
      clear hb0 h90 l8
      cases hs : decide (tailO (b.take 4) = (b.take 8).drop 4)
      · have e : Hid (nextO b = .bad 20) := by unfold Hid nextO; rw [if_neg h8, if_neg (fun h => h H90.out), if_pos (by simpa using hs)]
        rw [hs] at hcall
        clear hs
        go_enter Tryd.func24, Tryd.ntmps24
        go_wp2_with fail
        refine hcall.mono ?_
        rintro r w1 ⟨rfl, b1⟩
        go_wp2_with fail
        refine (none_any 20 w1).mono ?_
        rintro r w2 ⟨rfl, rfl⟩
        go_wp2_with fail
        ((try simp only [Exit.inBlock, Exit.then]); refine bodyPost_ret (results_tmp4 rfl _ _ _) rfl ?_)
        exact ⟨_, _, by rw [e.out] <;> rfl, by rw [e.out]; exact OwnB.nil, by rw [e.out]; exact OwnB.nil, b1⟩
      · rw [hs] at hcall
        have HS := Lib.hid hs
        clear hs
        go_enter Tryd.func24, Tryd.ntmps24
        go_wp2_with fail
        refine hcall.mono ?_
        rintro r w1 ⟨rfl, b1⟩
        have h := h.below b1
        have ht := ht.below b1
        obtain ⟨ad', e0, _, p2⟩ := h.at_ (k := 2) (by omega)
        injection e0 with e0
        subst e0
        obtain ⟨ad', e0, _, p3⟩ := h.at_ (k := 3) (by omega)
        injection e0 with e0
        subst e0
        obtain ⟨ad', e0, _, p1⟩ := h.at_ (k := 1) (by omega)
        injection e0 with e0
        subst e0
        have hx := b[2].toNat_lt
        have hy := b[3].toNat_lt
        have hz := b[1].toNat_lt
        have HN : Hid (lenF b = b[2].toNat * 256 + b[3].toNat) := by
          unfold Hid lenF
          rw [List.getD_eq_getElem?_getD, List.getElem?_eq_getElem (by omega : 2 < b.length), List.getD_eq_getElem?_getD, List.getElem?_eq_getElem (by omega : 3 < b.length)]; rfl
        have HK : Hid (((b.getD 1 0).toNat : Int) = (b[1].toNat : Int)) := by
          unfold Hid
          rw [List.getD_eq_getElem?_getD, List.getElem?_eq_getElem (by omega : 1 < b.length)]; rfl
        generalize b[2].toNat = x at *
        generalize b[3].toNat = y at *
        generalize b[1].toNat = z at *
        have hor := or256 x y hx hy
        obtain ⟨n, hn⟩ : ∃ n, n = x * 256 + y := ⟨_, rfl⟩
        rw [← hn] at hor HN
        have hn6 : n ≤ 65535 := by omega
        clear hn
        have hwx : IntKind.i64.wrap (x : Int) = (x : Int) := by rw [IntKind.wrap_i64]; omega
        have hwy : IntKind.i64.wrap (y : Int) = (y : Int) := by rw [IntKind.wrap_i64]; omega
        have hwz : IntKind.i64.wrap (z : Int) = (z : Int) := by rw [IntKind.wrap_i64]; omega
        have hwx2 : IntKind.i64.wrap ((x : Int) * 256) = (x : Int) * 256 := by rw [IntKind.wrap_i64]; omega
        have p2' : w1.cell? ⟨ad.block, ad.off + 2, none⟩ = some (.int .u8 (x : Int)) := p2
        have p3' : w1.cell? ⟨ad.block, ad.off + 3, none⟩ = some (.int .u8 (y : Int)) := p3
        have g2 : (2 : Int) < (b.length : Int) := by omega
        have g3 : (3 : Int) < (b.length : Int) := by omega
        have g2n : 2 < b.length := by omega
        have g3n : 3 < b.length := by omega
        go_wp2_with fail
        go_quiet (fail)
        have bd := below_drewN (Below.refl w1.heap.size w1) nq
        have h := h.below bd
        have ht := ht.below bd
        have b1 := b1.thenB' bd
        have p1 : (w1.drewN nq).cell? ⟨ad.block, ad.off + 1, none⟩ = some (.int .u8 (z : Int)) := p1
        generalize w1.drewN nq = w2 at *
        clear p2 p3 p2' p3' bd
        have EN : Hid (nextO b = if 8192 < n then .bad 11 else if b.length < n + 12 then .bad 10 else if tailO (bodyF b n) ≠ footF b n then .bad 20 else ⟨(z : Int), bodyF b n, b.drop (12 + n), 12 + n, 0⟩) := by
          unfold Hid nextO
          rw [if_neg h8, if_neg (fun h => h H90.out), if_neg (fun h => h (of_decide_eq_true HS.out)), HN.out, HK.out]
        by_cases hA : 8192 < n
        · have e : Hid (nextO b = .bad 11) := by unfold Hid; rw [EN.out, if_pos hA]
          go_wp2_with fail
          refine (none_any 11 w2).mono ?_
          rintro r w3 ⟨rfl, rfl⟩
          go_wp2_with fail
          ((try simp only [Exit.inBlock, Exit.then]); refine bodyPost_ret (results_tmp4 rfl _ _ _) rfl ?_)
          exact ⟨_, _, by rw [e.out] <;> rfl, by rw [e.out]; exact OwnB.nil, by rw [e.out]; exact OwnB.nil, b1⟩
        · by_cases hB : b.length < n + 12
          · have e : Hid (nextO b = .bad 10) := by unfold Hid; rw [EN.out, if_neg hA, if_pos hB]
            have hBi : (b.length : Int) < 8 + (n : Int) + 4 := by omega
            go_wp2_with fail
            refine (none_any 10 w2).mono ?_
            rintro r w3 ⟨rfl, rfl⟩
            go_wp2_with fail
            ((try simp only [Exit.inBlock, Exit.then]); refine bodyPost_ret (results_tmp4 rfl _ _ _) rfl ?_)
            exact ⟨_, _, by rw [e.out] <;> rfl, by rw [e.out]; exact OwnB.nil, by rw [e.out]; exact OwnB.nil, b1⟩
          · have hBi : ¬ (b.length : Int) < 8 + (n : Int) + 4 := by omega
            have hEc : 8 + n + 4 ≤ c := by omega
            have r12 : RdB w2 D (some ad) (b.take (12 + n)) := h.take (by omega)
            have l12 : (b.take (12 + n)).length = 12 + n := by rw [List.length_take]; omega
            have rb : RdB w2 D (cutA (some ad) 8 c 1) ((b.take (12 + n)).drop 8) := r12.drop (by omega) (by omega)
            have lb : ((b.take (12 + n)).drop 8).length = 8 + n - 4 := by rw [List.length_drop, l12]; omega
            have hcall := sealed_any D (cutA (some ad) 8 c 1) (c - 8) _ w2 rb (by omega) (by omega) (by omega) (by omega) ht
            rw [lb, okB b n (by omega)] at hcall
            have r8 : RdB w2 D (some ad) (b.take (8 + n)) := h.take (by omega)
            have l8' : (b.take (8 + n)).length = 8 + n := by rw [List.length_take]; omega
            have ry : RdB w2 D (cutA (some ad) 8 c 1) (bodyF b n) := r8.drop (by omega) (by omega)
            have LY := Lib.hid (bodyF_len b n (by omega))
            have rz : RdB w2 D (cutA (some ad) (12 + n) c 1) (b.drop (12 + n)) := h.drop (by omega) (by omega)
            have LZ : Hid ((b.drop (12 + n)).length = b.length - (12 + n)) := by unfold Hid; rw [List.length_drop]
            clear r12 l12 rb lb r8 l8'
            cases hs : decide (tailO (bodyF b n) = footF b n)
            · have e : Hid (nextO b = .bad 20) := by unfold Hid; rw [EN.out, if_neg hA, if_neg hB, if_pos (by simpa using hs)]
              rw [hs] at hcall
              clear hs
              go_wp2_with fail
              refine hcall.mono ?_
              rintro r w3 ⟨rfl, b3⟩
              have b1 := b1.thenB' b3
              go_wp2_with fail
              refine (none_any 20 w3).mono ?_
              rintro r w4 ⟨rfl, rfl⟩
              go_wp2_with fail
              ((try simp only [Exit.inBlock, Exit.then]); refine bodyPost_ret (results_tmp4 rfl _ _ _) rfl ?_)
              exact ⟨_, _, by rw [e.out] <;> rfl, by rw [e.out]; exact OwnB.nil, by rw [e.out]; exact OwnB.nil, b1⟩
            · have e : Hid (nextO b = ⟨(z : Int), bodyF b n, b.drop (12 + n), 12 + n, 0⟩) := by unfold Hid; rw [EN.out, if_neg hA, if_neg hB, if_neg (fun h => h (of_decide_eq_true hs))]
              rw [hs] at hcall
              clear hs
              generalize bodyF b n = Y at *
              generalize b.drop (12 + n) = Z at *
              have hg8 : (8 : Int) + (n : Int) ≤ (b.length : Int) := by omega
              have hg12 : (8 : Int) + (n : Int) + 4 ≤ (b.length : Int) := by omega
              have g1 : (1 : Int) < (b.length : Int) := by omega
              have g1n : 1 < b.length := by omega
              have hwz : IntKind.i64.wrap (z : Int) = (z : Int) := by rw [IntKind.wrap_i64]; omega
              go_wp2_with fail
              refine hcall.mono ?_
              rintro r w3 ⟨rfl, b3⟩
              have ry := ry.below b3
              have rz := rz.below b3
              have p1 : w3.cell? ⟨ad.block, ad.off + 1, none⟩ = some (.int .u8 (z : Int)) := by
                have hh := World.block_lt_of_cell? w2 _ p1
                have e3 := b3.block _ hh
                unfold World.cell? at p1 ⊢
                rw [e3]; exact p1
              have b1 := b1.thenB' b3
              go_wp2_with fail
              obtain ⟨m, hm8⟩ : ∃ m, m = 8 + n := ⟨_, rfl⟩
              obtain ⟨q, hq⟩ : ∃ q, q = 12 + n := ⟨_, rfl⟩
              rw [← hq] at e rz LZ
              have HQ := Lib.hid hq
              have HM8 : Hid (m - 8 = n) := by unfold Hid; omega
              have hwm : IntKind.i64.wrap (8 + (n : Int)) = (m : Int) := by rw [IntKind.wrap_i64]; omega
              have hqi : (8 : Int) + (n : Int) + 4 = (q : Int) := by omega
              have hmb : m ≤ c := by omega
              have hqb : q ≤ b.length := by omega
              have h8m : 8 ≤ m := by omega
              have h8mi : (8 : Int) ≤ (m : Int) := by omega
              clear hm8 hq
              refine r_start (R := RB) (by rfl) (n := 17) (L := #[false, false, false, false, false, false, false, false, false, false, false, false, false, false, false, false, false]) rfl rfl ?_
              have bd : Below w3.heap.size w3 w3.drew := (Below.refl _ _).drew
              have p1 : w3.drew.cell? ⟨ad.block, ad.off + 1, none⟩ = some (.int .u8 (z : Int)) := p1
              have ry := ry.below bd
              have rz := rz.below bd
              try have oy := OwnB.below oy bd
              try have oz := OwnB.below oz bd
              have b1 := b1.thenB' bd
              generalize w3.drew = wd1 at *
              clear bd
              refine r_flt RB_refl 0 86 #[true, false, false, false, false, false, false, false, false, false, false, false, false, false, false, false, false] (by simp only [List.getElem?_toArray, List.getElem?_cons_zero]; rfl) (by rfl) (by kernel_rfl) (by kernel_rfl) (by kernel_rfl) (fun _ _ _ _ h => h) rfl (by rfl) ?_
              apply Exists.intro
              apply And.intro
              · intro W hW
                first | (go_simp; with_reducible rfl) | go_simp
              (try simp only [Act.put, List.setIfInBounds_toArray]); (try simp only [List.set_cons_succ]); (try simp only [List.set_cons_zero])
              refine r_flt RB_refl 1 87 #[true, true, false, false, false, false, false, false, false, false, false, false, false, false, false, false, false] (by simp only [List.getElem?_toArray, List.getElem?_cons_succ, List.getElem?_cons_zero]; rfl) (by rfl) (by kernel_rfl) (by kernel_rfl) (by kernel_rfl) (fun _ _ _ _ h => h) rfl (by rfl) ?_
              apply Exists.intro
              apply And.intro
              · intro W hW
                go_simp; rfl
              (try simp only [Act.put, List.setIfInBounds_toArray]); (try simp only [List.set_cons_succ]); (try simp only [List.set_cons_zero])
              refine r_flt RB_refl 2 88 #[true, true, true, false, false, false, false, false, false, false, false, false, false, false, false, false, false] (by simp only [List.getElem?_toArray, List.getElem?_cons_succ, List.getElem?_cons_zero]; rfl) (by rfl) (by kernel_rfl) (by kernel_rfl) (by kernel_rfl) (fun _ _ _ _ h => h) rfl (by rfl) ?_
              apply Exists.intro
              apply And.intro
              · intro W hW
                have p1' : W.cell? ⟨ad.block, ad.off + 1, none⟩ = some (.int .u8 (z : Int)) := by
                  have hh := World.block_lt_of_cell? _ _ p1
                  have e3 := hW.block _ hh
                  unfold World.cell? at p1 ⊢
                  rw [e3]; exact p1
                go_simp; rfl
              (try simp only [Act.put, List.setIfInBounds_toArray]); (try simp only [List.set_cons_succ]); (try simp only [List.set_cons_zero])
              refine r_flt RB_refl 3 89 #[true, true, true, true, false, false, false, false, false, false, false, false, false, false, false, false, false] (by simp only [List.getElem?_toArray, List.getElem?_cons_succ, List.getElem?_cons_zero]; rfl) (by rfl) (by kernel_rfl) (by kernel_rfl) (by kernel_rfl) (fun _ _ _ _ h => h) rfl (by rfl) ?_
              apply Exists.intro
              apply And.intro
              · intro W hW
                first | (go_simp; with_reducible rfl) | go_simp
              (try simp only [Act.put, List.setIfInBounds_toArray]); (try simp only [List.set_cons_succ]); (try simp only [List.set_cons_zero])
              refine r_flt RB_refl 4 90 #[true, true, true, true, true, false, false, false, false, false, false, false, false, false, false, false, false] (by simp only [List.getElem?_toArray, List.getElem?_cons_succ, List.getElem?_cons_zero]; rfl) (by rfl) (by kernel_rfl) (by kernel_rfl) (by kernel_rfl) (fun _ _ _ _ h => h) rfl (by rfl) ?_
              apply Exists.intro
              apply And.intro
              · intro W hW
                first | (go_simp; with_reducible rfl) | go_simp
              (try simp only [Act.put, List.setIfInBounds_toArray]); (try simp only [List.set_cons_succ]); (try simp only [List.set_cons_zero])
              refine r_flt RB_refl 5 91 #[true, true, true, true, true, true, false, false, false, false, false, false, false, false, false, false, false] (by simp only [List.getElem?_toArray, List.getElem?_cons_succ, List.getElem?_cons_zero]; rfl) (by rfl) (by kernel_rfl) (by kernel_rfl) (by kernel_rfl) (fun _ _ _ _ h => h) rfl (by rfl) ?_
              apply Exists.intro
              apply And.intro
              · intro W hW
                first | (go_simp; with_reducible rfl) | go_simp
              (try simp only [Act.put, List.setIfInBounds_toArray]); (try simp only [List.set_cons_succ]); (try simp only [List.set_cons_zero])
              refine r_flt RB_refl 6 92 #[true, true, true, true, true, true, true, false, false, false, false, false, false, false, false, false, false] (by simp only [List.getElem?_toArray, List.getElem?_cons_succ, List.getElem?_cons_zero]; rfl) (by rfl) (by kernel_rfl) (by kernel_rfl) (by kernel_rfl) (fun _ _ _ _ h => h) rfl (by rfl) ?_
              apply Exists.intro
              apply And.intro
              · intro W hW
                first | (go_simp; with_reducible rfl) | go_simp
              (try simp only [Act.put, List.setIfInBounds_toArray]); (try simp only [List.set_cons_succ]); (try simp only [List.set_cons_zero])
              refine r_flt RB_refl 7 93 #[true, true, true, true, true, true, true, true, false, false, false, false, false, false, false, false, false] (by simp only [List.getElem?_toArray, List.getElem?_cons_succ, List.getElem?_cons_zero]; rfl) (by rfl) (by kernel_rfl) (by kernel_rfl) (by kernel_rfl) (fun _ _ _ _ h => h) rfl (by rfl) ?_
              apply Exists.intro
              apply And.intro
              · intro W hW
                go_simp; rfl
              (try simp only [Act.put, List.setIfInBounds_toArray]); (try simp only [List.set_cons_succ]); (try simp only [List.set_cons_zero])
              refine r_flt RB_refl 9 95 #[true, true, true, true, true, true, true, true, false, true, false, false, false, false, false, false, false] (by simp only [List.getElem?_toArray, List.getElem?_cons_succ, List.getElem?_cons_zero]; rfl) (by rfl) (by kernel_rfl) (by kernel_rfl) (by kernel_rfl) (fun _ _ _ _ h => h) rfl (by rfl) ?_
              apply Exists.intro
              apply And.intro
              · intro W hW
                first | (go_simp; with_reducible rfl) | go_simp
              (try simp only [Act.put, List.setIfInBounds_toArray]); (try simp only [List.set_cons_succ]); (try simp only [List.set_cons_zero])
              refine r_flt RB_refl 10 96 #[true, true, true, true, true, true, true, true, false, true, true, false, false, false, false, false, false] (by simp only [List.getElem?_toArray, List.getElem?_cons_succ, List.getElem?_cons_zero]; rfl) (by rfl) (by kernel_rfl) (by kernel_rfl) (by kernel_rfl) (fun _ _ _ _ h => h) rfl (by rfl) ?_
              apply Exists.intro
              apply And.intro
              · intro W hW
                first | (go_simp; with_reducible rfl) | go_simp
              (try simp only [Act.put, List.setIfInBounds_toArray]); (try simp only [List.set_cons_succ]); (try simp only [List.set_cons_zero])
              refine r_flt RB_refl 11 97 #[true, true, true, true, true, true, true, true, false, true, true, true, false, false, false, false, false] (by simp only [List.getElem?_toArray, List.getElem?_cons_succ, List.getElem?_cons_zero]; rfl) (by rfl) (by kernel_rfl) (by kernel_rfl) (by kernel_rfl) (fun _ _ _ _ h => h) rfl (by rfl) ?_
              apply Exists.intro
              apply And.intro
              · intro W hW
                go_simp; rfl
              (try simp only [Act.put, List.setIfInBounds_toArray]); (try simp only [List.set_cons_succ]); (try simp only [List.set_cons_zero])
              refine r_one RB_trans 8 (by kernel_rfl) ?_
              refine alt_call 94 #[true, true, true, true, true, true, true, true, true, true, true, true, false, false, false, false, false] (by simp only [List.getElem?_toArray, List.getElem?_cons_succ, List.getElem?_cons_zero]; rfl) (by rfl) rfl (by rfl) (by go_simp; first | exact ⟨rfl, rfl⟩ | rfl) ?_
              have hcall := cloneB_any _ (cutA (some ad) 8 c 1) (c - 8) Y _ ry (by have := LY.out; unfold big; omega)
              rw [LY.out, ← HM8.out] at hcall
              with_reducible refine hcall.mono ?_
              rintro r w4 ⟨vy, rfl, oy, by_⟩
              have oy := OwnB.low oy b1.size
              refine ⟨_, rfl, by_, ?_⟩
              have ry := ry.below by_
              have rz := rz.below by_
              try have oz := OwnB.below oz by_
              have b1 := b1.thenB' by_
              (try simp only [Act.put, List.setIfInBounds_toArray]); (try simp only [List.set_cons_succ]); (try simp only [List.set_cons_zero])
              refine r_one RB_trans 12 (by kernel_rfl) ?_
              refine alt_call 98 #[true, true, true, true, true, true, true, true, true, true, true, true, true, false, false, false, false] (by simp only [List.getElem?_toArray, List.getElem?_cons_succ, List.getElem?_cons_zero]; rfl) (by rfl) rfl (by rfl) (by go_simp; first | exact ⟨rfl, rfl⟩ | rfl) ?_
              have hcall := cloneB_any _ (cutA (some ad) q c 1) (c - q) Z _ rz (by have := LZ.out; unfold big; omega)
              rw [LZ.out] at hcall
              with_reducible refine hcall.mono ?_
              rintro r w5 ⟨vz, rfl, oz, bz⟩
              have oz := OwnB.low oz b1.size
              refine ⟨_, rfl, bz, ?_⟩
              have ry := ry.below bz
              have rz := rz.below bz
              try have oy := OwnB.below oy bz
              have b1 := b1.thenB' bz
              (try simp only [Act.put, List.setIfInBounds_toArray]); (try simp only [List.set_cons_succ]); (try simp only [List.set_cons_zero])
              refine r_flt RB_refl 13 2 #[true, true, true, true, true, true, true, true, true, true, true, true, true, true, false, false, false] (by simp only [List.getElem?_toArray, List.getElem?_cons_succ, List.getElem?_cons_zero]; rfl) (by rfl) (by kernel_rfl) (by kernel_rfl) (by kernel_rfl) (fun _ _ _ _ h => h) rfl (by rfl) ?_
              apply Exists.intro
              apply And.intro
              · intro W hW
                first | (go_simp; with_reducible rfl) | go_simp
              (try simp only [Act.put, List.setIfInBounds_toArray]); (try simp only [List.set_cons_succ]); (try simp only [List.set_cons_zero])
              refine r_flt RB_refl 14 3 #[true, true, true, true, true, true, true, true, true, true, true, true, true, true, true, false, false] (by simp only [List.getElem?_toArray, List.getElem?_cons_succ, List.getElem?_cons_zero]; rfl) (by rfl) (by kernel_rfl) (by kernel_rfl) (by kernel_rfl) (fun _ _ _ _ h => h) rfl (by rfl) ?_
              apply Exists.intro
              apply And.intro
              · intro W hW
                first | (go_simp; with_reducible rfl) | go_simp
              (try simp only [Act.put, List.setIfInBounds_toArray]); (try simp only [List.set_cons_succ]); (try simp only [List.set_cons_zero])
              refine r_flt RB_refl 15 4 #[true, true, true, true, true, true, true, true, true, true, true, true, true, true, true, true, false] (by simp only [List.getElem?_toArray, List.getElem?_cons_succ, List.getElem?_cons_zero]; rfl) (by rfl) (by kernel_rfl) (by kernel_rfl) (by kernel_rfl) (fun _ _ _ _ h => h) rfl (by rfl) ?_
              apply Exists.intro
              apply And.intro
              · intro W hW
                first | (go_simp; with_reducible rfl) | go_simp
              (try simp only [Act.put, List.setIfInBounds_toArray]); (try simp only [List.set_cons_succ]); (try simp only [List.set_cons_zero])
              refine r_flt RB_refl 16 5 #[true, true, true, true, true, true, true, true, true, true, true, true, true, true, true, true, true] (by simp only [List.getElem?_toArray, List.getElem?_cons_succ, List.getElem?_cons_zero]; rfl) (by rfl) (by kernel_rfl) (by kernel_rfl) (by kernel_rfl) (fun _ _ _ _ h => h) rfl (by rfl) ?_
              apply Exists.intro
              apply And.intro
              · intro W hW
                first | (go_simp; with_reducible rfl) | go_simp
              (try simp only [Act.put, List.setIfInBounds_toArray]); (try simp only [List.set_cons_succ]); (try simp only [List.set_cons_zero])
              refine r_done (by kernel_rfl) ?_
              go_wp2_with fail
              ((try simp only [Exit.inBlock, Exit.then]); refine bodyPost_ret (results_tmp4 rfl _ _ _) rfl ?_)
              exact ⟨_, _, by rw [e.out] <;> rfl, by rw [e.out]; exact oy, by rw [e.out]; exact oz, b1⟩
    · have e : Hid (nextO b = .bad 11) := by unfold Hid nextO; rw [if_neg h8, if_pos h90]
      have hne : ((b[0].toNat : Int) != 90) = true := by
        have h1 : b.getD 0 0 = b[0] := by rw [List.getD_eq_getElem?_getD, List.getElem?_eq_getElem (by omega : 0 < b.length)]; rfl
        rw [h1] at h90
        have : b[0].toNat ≠ 90 := fun e => h90 (UInt8.toNat_inj.1 e)
        simp; omega
      have p0' : w.cell? ad = some (.int .u8 (b[0].toNat : Int)) := p0
      have hl0 : 0 < b.length := by omega
      clear h90
      go_enter Tryd.func24, Tryd.ntmps24
      go_wp2_with fail
      refine (none_any 11 w).mono ?_
      rintro r w1 ⟨rfl, rfl⟩
      go_wp2_with fail
      ((try simp only [Exit.inBlock, Exit.then]); refine bodyPost_ret (results_tmp4 rfl _ _ _) rfl ?_)
      exact ⟨_, _, by rw [e.out] <;> rfl, by rw [e.out]; exact OwnB.nil, by rw [e.out]; exact OwnB.nil, Below.refl _ _⟩
end Go.Proofs.YthpmmnpjdpgamaaDoor
