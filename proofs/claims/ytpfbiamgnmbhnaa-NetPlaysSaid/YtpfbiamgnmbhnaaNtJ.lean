/- An act over a net and over the document's messages. -/
import Derived.Test.YtpfbiamgnmbhnaaNtH
namespace Go.Proofs.Ytpfbiamgnmbhnaa
open Go.RowKit
set_option linter.unusedVariables false
set_option maxRecDepth 100000

/-- A net beside the document's messages. -/
structure Both (B : Nat) (w : World) (g : Nat) (v : Value) (S : List Msg) : Prop where
  net : NetV w B g S
  row : OwnMs w B v S
  sz : ∀ e ∈ S, e.2.length ≤ 1000
theorem NMod.ms {base b2 : Nat} {a b : World} {v : Value} {L : List Msg} (m : NMod base a b) (h : OwnMs a b2 v L) : OwnMs b b2 v L := NMod.own m h (by decide) (by decide)
def Done (B g : Nat) (w : World) (e : Ending) (w' : World) : Prop := ∃ v' S', e = .returned (.tuple #[v', .bool true]) ∧ Both B w' g v' S' ∧ NMod B w w'
set_option maxHeartbeats 4000000 in
theorem done_any (B g : Nat) (v : Value) (S : List Msg) (s : AV) (w : World) (h : Both B w g v S) (hb : B ≤ w.heap.size) (D : Nat → Prop) (hD : ∀ b, D b → b < B) (rx : RdB w D s.A s.b) (hx : s.b.length ≤ 1000) :
    Calls Try.prog 9 #[.pointer (some ⟨g, 0, none⟩), v, .agg #[.int .i64 s.kind, .int .i64 s.fr, .int .i64 s.tt, .int .i64 s.i, .slice s.A s.b.length s.c]] w (Done B g w) := by
  obtain ⟨sk, sf, st, si, sA, sb, sc⟩ := s
  simp only at rx hx ⊢
  have bn := below_new w (.cells #[.int .i64 sk, .int .i64 sf, .int .i64 st, .int .i64 si, .slice sA sb.length sc] 29)
  have hS := Blk.new w 29 #[.int .i64 sk, .int .i64 sf, .int .i64 st, .int .i64 si, .slice sA sb.length sc]
  obtain ⟨hV, hO, hz⟩ := h
  have hl := hV.few
  have hV := hV.below bn
  have hO : OwnMs _ B v S := OwnC.below hO bn
  have rx := RdB.below rx bn
  have hb1 := Nat.le_trans hb bn.size
  obtain ⟨A0, c0, rfl, _, _⟩ := OwnC.form hO
  obtain ⟨z0, hz0, hz2⟩ := and_mask sk 3 (by decide)
  obtain ⟨z, hz', hz3⟩ : ∃ z : Int, bits .and .i64 sk 3 = z ∧ ((z = 0 ∨ z = 1) ∨ z = 2 ∨ z = 3) := ⟨z0, hz0, by omega⟩
  clear hz0 hz2
  have NM0 : NMod B w _ := NMod.of_below bn
  clear bn
  go_enter Try.func9, Try.ntmps9
  go_upto_region 1 with fail
  generalize w.alloc (.cells #[.int .i64 sk, .int .i64 sf, .int .i64 st, .int .i64 si, .slice sA sb.length sc] 29) = wb at *
  generalize w.heap.size = bx at *
  have d0 := hS.cell 0
  have d1 := hS.cell 1
  have d2 := hS.cell 2
  have d3 := hS.cell 3
  have d4 := hS.cell 4
  simp at d0 d1 d2 d3 d4
  have hput := Put_any _ g S sf st _ sA sc sb wb hV hb1 rx (by omega)
  have htake := Take_any _ g S sf st si wb hV hb1
  have hdbl := Double_any _ g S sf st si wb hV hb1 (fun e he => Nat.le_trans (hz e he) (by decide))
  have P1 := (put_ok S sf st sb (by omega)).sz hz
  have P2 := (take_ok S sf st si).sz hz
  have P3 := (double_ok S sf st si hz).sz hz
  rcases hz3 with hz3 | rfl | rfl
  · have hrp := fun (u : World) (h : OwnMs u B (.slice A0 S.length c0) S) (hb : B ≤ u.heap.size) (hr : RdB u D sA sb) => rPut_any B (.slice A0 S.length c0) S sf st _ sA sc sb u h hb hl hr
    generalize putP S sf st sb = x1 at *
    obtain ⟨S1, y1⟩ := x1
    simp only at hput hrp P1
    have P1 := Lib.hid P1
    clear htake hdbl P2 P3
    rcases hz3 with rfl | rfl
    all_goals
      go_wp2_with fail
      refine hput.mono ?_
      clear hput
      rintro e w2 ⟨rfl, hV, mm⟩
      have hS2 := mm.blk hS (by decide) (by decide)
      have hb2 := Nat.le_trans hb1 mm.size
      have rx2 : RdB w2 D sA sb := Rd.mod rx mm (fun b hb hx => by have := hD b hb; have := hx.1; omega)
      have hrp2 := hrp w2 (mm.ms hO) hb2 rx2
      have NM2 := NM0.trans mm
      have d1 := hS2.cell 1
      have d2 := hS2.cell 2
      have d4 := hS2.cell 4
      simp at d1 d2 d4
      clear hrp rx hO hS mm NM0 d0 d3
      go_wp2_with fail
      refine hrp2.mono ?_
      clear hrp2
      rintro e w3 ⟨v3, rfl, hO3, b3⟩
      have hV3 := hV.below b3
      have NM3 := NM2.trans (NMod.of_below b3)
      clear hV
      cases y1
      all_goals
        go_wp2_with fail
        go_ret2
        exact ⟨v3, S1, rfl, ⟨hV3, hO3, P1.out⟩, NM3⟩
  · have hrt := fun (u : World) (h : OwnMs u B (.slice A0 S.length c0) S) (hb : B ≤ u.heap.size) => rTake_any B (.slice A0 S.length c0) S sf st si u h hb hl
    generalize takeP S sf st si = x1 at *
    obtain ⟨S1, x1, y1⟩ := x1
    simp only at htake hrt P2
    have P2 := Lib.hid P2
    clear hput hdbl P1 P3
    go_wp2_with fail
    refine htake.mono ?_
    clear htake
    rintro e w2 ⟨v2, rfl, o2, hV, mm⟩
    have hS2 := mm.blk hS (by decide) (by decide)
    have hb2 := Nat.le_trans hb1 mm.size
    have hrp2 := hrt w2 (mm.ms hO) hb2
    have NM2 := NM0.trans mm
    have d1 := hS2.cell 1
    have d2 := hS2.cell 2
    have d3 := hS2.cell 3
    simp at d1 d2 d3
    clear hrt rx hO hS mm NM0 d0 d4
    go_wp2_with fail
    refine hrp2.mono ?_
    clear hrp2
    rintro e w3 ⟨v3, rfl, hO3, b3⟩
    have hV3 := hV.below b3
    have NM3 := NM2.trans (NMod.of_below b3)
    have o3 := o2.below b3
    obtain ⟨A3, c3, rfl, _, _⟩ := OwnB.form o3
    have r3 := Rd.of_own o3
    clear hV o2 o3 hO d1 d2 d3 b3 NM2 hS2
    cases y1
    · go_wp2_with fail
      refine r_start (R := RB) (by rfl) (n := 12) (L := #[false, false, false, false, false, false, false, false, false, false, false, false]) rfl rfl ?_
      have bd : Below w3.heap.size w3 w3.drew := (Below.refl _ _).drew
      have r3 := Rd.below r3 bd
      have hV3 := hV3.below bd
      have hO3 : OwnMs _ B v3 S1 := OwnC.below hO3 bd
      have NM3 := NM3.trans (NMod.of_below bd)
      clear bd
      generalize w3.drew = w3 at *
      refine r_flt RB_refl 0 73 #[true, false, false, false, false, false, false, false, false, false, false, false] (by simp only [List.getElem?_toArray, List.getElem?_cons_zero]; rfl) (by rfl) (by kernel_rfl) (by kernel_rfl) (by kernel_rfl) (fun _ _ _ _ h => h) rfl (by rfl) ?_
      apply Exists.intro
      apply And.intro
      · intro W hW
        first | (go_simp; with_reducible rfl) | go_simp
      (try simp only [Act.put, List.setIfInBounds_toArray]); (try simp only [List.set_cons_succ]); (try simp only [List.set_cons_zero])
      refine r_flt RB_refl 1 74 #[true, true, false, false, false, false, false, false, false, false, false, false] (by simp only [List.getElem?_toArray, List.getElem?_cons_succ, List.getElem?_cons_zero]; rfl) (by rfl) (by kernel_rfl) (by kernel_rfl) (by kernel_rfl) (fun _ _ _ _ h => h) rfl (by rfl) ?_
      apply Exists.intro
      apply And.intro
      · intro W hW
        first | (go_simp; with_reducible rfl) | go_simp
      (try simp only [Act.put, List.setIfInBounds_toArray]); (try simp only [List.set_cons_succ]); (try simp only [List.set_cons_zero])
      refine r_flt RB_refl 2 75 #[true, true, true, false, false, false, false, false, false, false, false, false] (by simp only [List.getElem?_toArray, List.getElem?_cons_succ, List.getElem?_cons_zero]; rfl) (by rfl) (by kernel_rfl) (by kernel_rfl) (by kernel_rfl) (fun _ _ _ _ h => h) rfl (by rfl) ?_
      apply Exists.intro
      apply And.intro
      · intro W hW
        first | (go_simp; with_reducible rfl) | go_simp
      (try simp only [Act.put, List.setIfInBounds_toArray]); (try simp only [List.set_cons_succ]); (try simp only [List.set_cons_zero])
      refine r_flt RB_refl 3 76 #[true, true, true, true, false, false, false, false, false, false, false, false] (by simp only [List.getElem?_toArray, List.getElem?_cons_succ, List.getElem?_cons_zero]; rfl) (by rfl) (by kernel_rfl) (by kernel_rfl) (by kernel_rfl) (fun _ _ _ _ h => h) rfl (by rfl) ?_
      apply Exists.intro
      apply And.intro
      · intro W hW
        first | (go_simp; with_reducible rfl) | go_simp
      (try simp only [Act.put, List.setIfInBounds_toArray]); (try simp only [List.set_cons_succ]); (try simp only [List.set_cons_zero])
      refine r_flt RB_refl 4 77 #[true, true, true, true, true, false, false, false, false, false, false, false] (by simp only [List.getElem?_toArray, List.getElem?_cons_succ, List.getElem?_cons_zero]; rfl) (by rfl) (by kernel_rfl) (by kernel_rfl) (by kernel_rfl) (fun _ _ _ _ h => h) rfl (by rfl) ?_
      apply Exists.intro
      apply And.intro
      · intro W hW
        first | (go_simp; with_reducible rfl) | go_simp
      (try simp only [Act.put, List.setIfInBounds_toArray]); (try simp only [List.set_cons_succ]); (try simp only [List.set_cons_zero])
      refine r_flt RB_refl 5 78 #[true, true, true, true, true, true, false, false, false, false, false, false] (by simp only [List.getElem?_toArray, List.getElem?_cons_succ, List.getElem?_cons_zero]; rfl) (by rfl) (by kernel_rfl) (by kernel_rfl) (by kernel_rfl) (fun _ _ _ _ h => h) rfl (by rfl) ?_
      apply Exists.intro
      apply And.intro
      · intro W hW
        first | (go_simp; with_reducible rfl) | go_simp
      (try simp only [Act.put, List.setIfInBounds_toArray]); (try simp only [List.set_cons_succ]); (try simp only [List.set_cons_zero])
      refine r_flt RB_refl 6 79 #[true, true, true, true, true, true, true, false, false, false, false, false] (by simp only [List.getElem?_toArray, List.getElem?_cons_succ, List.getElem?_cons_zero]; rfl) (by rfl) (by kernel_rfl) (by kernel_rfl) (by kernel_rfl) (fun _ _ _ _ h => h) rfl (by rfl) ?_
      apply Exists.intro
      apply And.intro
      · intro W hW
        have s5 := str_rd (n := x1.length) (c := c3) (Rd.below r3 hW) rfl
        go_simp; rfl
      (try simp only [Act.put, List.setIfInBounds_toArray]); (try simp only [List.set_cons_succ]); (try simp only [List.set_cons_zero])
      refine r_flt RB_refl 7 80 #[true, true, true, true, true, true, true, true, false, false, false, false] (by simp only [List.getElem?_toArray, List.getElem?_cons_succ, List.getElem?_cons_zero]; rfl) (by rfl) (by kernel_rfl) (by kernel_rfl) (by kernel_rfl) (fun _ _ _ _ h => h) rfl (by rfl) ?_
      apply Exists.intro
      apply And.intro
      · intro W hW
        first | (go_simp; with_reducible rfl) | go_simp
      (try simp only [Act.put, List.setIfInBounds_toArray]); (try simp only [List.set_cons_succ]); (try simp only [List.set_cons_zero])
      refine r_flt RB_refl 8 81 #[true, true, true, true, true, true, true, true, true, false, false, false] (by simp only [List.getElem?_toArray, List.getElem?_cons_succ, List.getElem?_cons_zero]; rfl) (by rfl) (by kernel_rfl) (by kernel_rfl) (by kernel_rfl) (fun _ _ _ _ h => h) rfl (by rfl) ?_
      apply Exists.intro
      apply And.intro
      · intro W hW
        first | (go_simp; with_reducible rfl) | go_simp
      (try simp only [Act.put, List.setIfInBounds_toArray]); (try simp only [List.set_cons_succ]); (try simp only [List.set_cons_zero])
      refine r_flt RB_refl 9 82 #[true, true, true, true, true, true, true, true, true, true, false, false] (by simp only [List.getElem?_toArray, List.getElem?_cons_succ, List.getElem?_cons_zero]; rfl) (by rfl) (by kernel_rfl) (by kernel_rfl) (by kernel_rfl) (fun _ _ _ _ h => h) rfl (by rfl) ?_
      apply Exists.intro
      apply And.intro
      · intro W hW
        first | (go_simp; with_reducible rfl) | go_simp
      (try simp only [Act.put, List.setIfInBounds_toArray]); (try simp only [List.set_cons_succ]); (try simp only [List.set_cons_zero])
      refine r_flt RB_refl 10 6 #[true, true, true, true, true, true, true, true, true, true, true, false] (by simp only [List.getElem?_toArray, List.getElem?_cons_succ, List.getElem?_cons_zero]; rfl) (by rfl) (by kernel_rfl) (by kernel_rfl) (by kernel_rfl) (fun _ _ _ _ h => h) rfl (by rfl) ?_
      apply Exists.intro
      apply And.intro
      · intro W hW
        first | (go_simp; with_reducible rfl) | go_simp
      (try simp only [Act.put, List.setIfInBounds_toArray]); (try simp only [List.set_cons_succ]); (try simp only [List.set_cons_zero])
      refine r_flt RB_refl 11 7 #[true, true, true, true, true, true, true, true, true, true, true, true] (by simp only [List.getElem?_toArray, List.getElem?_cons_succ, List.getElem?_cons_zero]; rfl) (by rfl) (by kernel_rfl) (by kernel_rfl) (by kernel_rfl) (fun _ _ _ _ h => h) rfl (by rfl) ?_
      apply Exists.intro
      apply And.intro
      · intro W hW
        first | (go_simp; with_reducible rfl) | go_simp
      (try simp only [Act.put, List.setIfInBounds_toArray]); (try simp only [List.set_cons_succ]); (try simp only [List.set_cons_zero])
      refine r_done (by kernel_rfl) ?_
      go_wp2_with fail
      go_ret2
      exact ⟨v3, S1, rfl, ⟨hV3, hO3, P2.out⟩, NM3⟩
    · go_wp2_with fail
      refine r_start (R := RB) (by rfl) (n := 12) (L := #[false, false, false, false, false, false, false, false, false, false, false, false]) rfl rfl ?_
      have bd : Below w3.heap.size w3 w3.drew := (Below.refl _ _).drew
      have r3 := Rd.below r3 bd
      have hV3 := hV3.below bd
      have hO3 : OwnMs _ B v3 S1 := OwnC.below hO3 bd
      have NM3 := NM3.trans (NMod.of_below bd)
      clear bd
      generalize w3.drew = w3 at *
      refine r_flt RB_refl 0 73 #[true, false, false, false, false, false, false, false, false, false, false, false] (by simp only [List.getElem?_toArray, List.getElem?_cons_zero]; rfl) (by rfl) (by kernel_rfl) (by kernel_rfl) (by kernel_rfl) (fun _ _ _ _ h => h) rfl (by rfl) ?_
      apply Exists.intro
      apply And.intro
      · intro W hW
        first | (go_simp; with_reducible rfl) | go_simp
      (try simp only [Act.put, List.setIfInBounds_toArray]); (try simp only [List.set_cons_succ]); (try simp only [List.set_cons_zero])
      refine r_flt RB_refl 1 74 #[true, true, false, false, false, false, false, false, false, false, false, false] (by simp only [List.getElem?_toArray, List.getElem?_cons_succ, List.getElem?_cons_zero]; rfl) (by rfl) (by kernel_rfl) (by kernel_rfl) (by kernel_rfl) (fun _ _ _ _ h => h) rfl (by rfl) ?_
      apply Exists.intro
      apply And.intro
      · intro W hW
        first | (go_simp; with_reducible rfl) | go_simp
      (try simp only [Act.put, List.setIfInBounds_toArray]); (try simp only [List.set_cons_succ]); (try simp only [List.set_cons_zero])
      refine r_flt RB_refl 2 75 #[true, true, true, false, false, false, false, false, false, false, false, false] (by simp only [List.getElem?_toArray, List.getElem?_cons_succ, List.getElem?_cons_zero]; rfl) (by rfl) (by kernel_rfl) (by kernel_rfl) (by kernel_rfl) (fun _ _ _ _ h => h) rfl (by rfl) ?_
      apply Exists.intro
      apply And.intro
      · intro W hW
        first | (go_simp; with_reducible rfl) | go_simp
      (try simp only [Act.put, List.setIfInBounds_toArray]); (try simp only [List.set_cons_succ]); (try simp only [List.set_cons_zero])
      refine r_flt RB_refl 3 76 #[true, true, true, true, false, false, false, false, false, false, false, false] (by simp only [List.getElem?_toArray, List.getElem?_cons_succ, List.getElem?_cons_zero]; rfl) (by rfl) (by kernel_rfl) (by kernel_rfl) (by kernel_rfl) (fun _ _ _ _ h => h) rfl (by rfl) ?_
      apply Exists.intro
      apply And.intro
      · intro W hW
        first | (go_simp; with_reducible rfl) | go_simp
      (try simp only [Act.put, List.setIfInBounds_toArray]); (try simp only [List.set_cons_succ]); (try simp only [List.set_cons_zero])
      refine r_flt RB_refl 4 77 #[true, true, true, true, true, false, false, false, false, false, false, false] (by simp only [List.getElem?_toArray, List.getElem?_cons_succ, List.getElem?_cons_zero]; rfl) (by rfl) (by kernel_rfl) (by kernel_rfl) (by kernel_rfl) (fun _ _ _ _ h => h) rfl (by rfl) ?_
      apply Exists.intro
      apply And.intro
      · intro W hW
        first | (go_simp; with_reducible rfl) | go_simp
      (try simp only [Act.put, List.setIfInBounds_toArray]); (try simp only [List.set_cons_succ]); (try simp only [List.set_cons_zero])
      refine r_flt RB_refl 5 78 #[true, true, true, true, true, true, false, false, false, false, false, false] (by simp only [List.getElem?_toArray, List.getElem?_cons_succ, List.getElem?_cons_zero]; rfl) (by rfl) (by kernel_rfl) (by kernel_rfl) (by kernel_rfl) (fun _ _ _ _ h => h) rfl (by rfl) ?_
      apply Exists.intro
      apply And.intro
      · intro W hW
        first | (go_simp; with_reducible rfl) | go_simp
      (try simp only [Act.put, List.setIfInBounds_toArray]); (try simp only [List.set_cons_succ]); (try simp only [List.set_cons_zero])
      refine r_flt RB_refl 6 79 #[true, true, true, true, true, true, true, false, false, false, false, false] (by simp only [List.getElem?_toArray, List.getElem?_cons_succ, List.getElem?_cons_zero]; rfl) (by rfl) (by kernel_rfl) (by kernel_rfl) (by kernel_rfl) (fun _ _ _ _ h => h) rfl (by rfl) ?_
      apply Exists.intro
      apply And.intro
      · intro W hW
        have s5 := str_rd (n := x1.length) (c := c3) (Rd.below r3 hW) rfl
        go_simp; rfl
      (try simp only [Act.put, List.setIfInBounds_toArray]); (try simp only [List.set_cons_succ]); (try simp only [List.set_cons_zero])
      refine r_flt RB_refl 7 80 #[true, true, true, true, true, true, true, true, false, false, false, false] (by simp only [List.getElem?_toArray, List.getElem?_cons_succ, List.getElem?_cons_zero]; rfl) (by rfl) (by kernel_rfl) (by kernel_rfl) (by kernel_rfl) (fun _ _ _ _ h => h) rfl (by rfl) ?_
      apply Exists.intro
      apply And.intro
      · intro W hW
        first | (go_simp; with_reducible rfl) | go_simp
      (try simp only [Act.put, List.setIfInBounds_toArray]); (try simp only [List.set_cons_succ]); (try simp only [List.set_cons_zero])
      refine r_flt RB_refl 8 81 #[true, true, true, true, true, true, true, true, true, false, false, false] (by simp only [List.getElem?_toArray, List.getElem?_cons_succ, List.getElem?_cons_zero]; rfl) (by rfl) (by kernel_rfl) (by kernel_rfl) (by kernel_rfl) (fun _ _ _ _ h => h) rfl (by rfl) ?_
      apply Exists.intro
      apply And.intro
      · intro W hW
        first | (go_simp; with_reducible rfl) | go_simp
      (try simp only [Act.put, List.setIfInBounds_toArray]); (try simp only [List.set_cons_succ]); (try simp only [List.set_cons_zero])
      refine r_flt RB_refl 9 82 #[true, true, true, true, true, true, true, true, true, true, false, false] (by simp only [List.getElem?_toArray, List.getElem?_cons_succ, List.getElem?_cons_zero]; rfl) (by rfl) (by kernel_rfl) (by kernel_rfl) (by kernel_rfl) (fun _ _ _ _ h => h) rfl (by rfl) ?_
      apply Exists.intro
      apply And.intro
      · intro W hW
        first | (go_simp; with_reducible rfl) | go_simp
      (try simp only [Act.put, List.setIfInBounds_toArray]); (try simp only [List.set_cons_succ]); (try simp only [List.set_cons_zero])
      refine r_flt RB_refl 10 6 #[true, true, true, true, true, true, true, true, true, true, true, false] (by simp only [List.getElem?_toArray, List.getElem?_cons_succ, List.getElem?_cons_zero]; rfl) (by rfl) (by kernel_rfl) (by kernel_rfl) (by kernel_rfl) (fun _ _ _ _ h => h) rfl (by rfl) ?_
      apply Exists.intro
      apply And.intro
      · intro W hW
        first | (go_simp; with_reducible rfl) | go_simp
      (try simp only [Act.put, List.setIfInBounds_toArray]); (try simp only [List.set_cons_succ]); (try simp only [List.set_cons_zero])
      refine r_flt RB_refl 11 7 #[true, true, true, true, true, true, true, true, true, true, true, true] (by simp only [List.getElem?_toArray, List.getElem?_cons_succ, List.getElem?_cons_zero]; rfl) (by rfl) (by kernel_rfl) (by kernel_rfl) (by kernel_rfl) (fun _ _ _ _ h => h) rfl (by rfl) ?_
      apply Exists.intro
      apply And.intro
      · intro W hW
        first | (go_simp; with_reducible rfl) | go_simp
      (try simp only [Act.put, List.setIfInBounds_toArray]); (try simp only [List.set_cons_succ]); (try simp only [List.set_cons_zero])
      refine r_done (by kernel_rfl) ?_
      go_wp2_with fail
      go_ret2
      exact ⟨v3, S1, rfl, ⟨hV3, hO3, P2.out⟩, NM3⟩
  · have hrd := fun (u : World) (h : OwnMs u B (.slice A0 S.length c0) S) (hb : B ≤ u.heap.size) => rDouble_any B (.slice A0 S.length c0) S sf st si u h hb hl
    generalize doubleP S sf st si = x1 at *
    obtain ⟨S1, y1⟩ := x1
    simp only at hdbl hrd P3
    have P3 := Lib.hid P3
    clear hput htake P1 P2
    go_wp2_with fail
    refine hdbl.mono ?_
    clear hdbl
    rintro e w2 ⟨rfl, hV, mm⟩
    have hS2 := mm.blk hS (by decide) (by decide)
    have hb2 := Nat.le_trans hb1 mm.size
    have hrp2 := hrd w2 (mm.ms hO) hb2
    have NM2 := NM0.trans mm
    have d1 := hS2.cell 1
    have d2 := hS2.cell 2
    have d3 := hS2.cell 3
    simp at d1 d2 d3
    clear hrd rx hO hS mm NM0 d0 d4
    go_wp2_with fail
    refine hrp2.mono ?_
    clear hrp2
    rintro e w3 ⟨v3, rfl, hO3, b3⟩
    have hV3 := hV.below b3
    have NM3 := NM2.trans (NMod.of_below b3)
    clear hV
    cases y1
    all_goals
      go_wp2_with fail
      go_ret2
      exact ⟨v3, S1, rfl, ⟨hV3, hO3, P3.out⟩, NM3⟩
end Go.Proofs.Ytpfbiamgnmbhnaa
