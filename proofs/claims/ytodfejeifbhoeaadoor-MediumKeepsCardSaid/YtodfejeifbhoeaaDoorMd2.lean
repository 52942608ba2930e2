/- A medium: Append. -/
import Derived.Test.YtodfejeifbhoeaaDoorMd1
namespace Go.Proofs.YtodfejeifbhoeaaDoor
open Go.RowKit
set_option linter.unusedVariables false

theorem app_down {s : MS} {kind : Int} {body : List UInt8} (h : s.up = false) : s.app kind body = (s, 100) := by unfold MS.app; rw [if_pos h]
theorem app_bad {s : MS} {kind : Int} {body : List UInt8} (h : s.up = true) (e : (makeO kind body).2 ≠ 0) : s.app kind body = (s, (makeO kind body).2) := by
  unfold MS.app; rw [if_neg (by rw [h]; simp), if_pos e]
theorem app_full {s : MS} {kind : Int} {body : List UInt8} (h : s.up = true) (e : (makeO kind body).2 = 0) (hr : s.room < (s.b.length : Int) + ((makeO kind body).1.length : Int)) : s.app kind body = (s, 110) := by
  unfold MS.app; rw [if_neg (by rw [h]; simp), if_neg (by rw [e]; simp), if_pos hr]
theorem app_ok {s : MS} {kind : Int} {body : List UInt8} (h : s.up = true) (e : (makeO kind body).2 = 0) (hr : ¬ s.room < (s.b.length : Int) + ((makeO kind body).1.length : Int)) (hc : s.cut = none) : s.app kind body = ({ s with b := s.b ++ (makeO kind body).1 }, 0) := by
  unfold MS.app; rw [if_neg (by rw [h]; simp), if_neg (by rw [e]; simp), if_neg hr, hc]
theorem app_cut {s : MS} {kind : Int} {body : List UInt8} {n : Int} (h : s.up = true) (e : (makeO kind body).2 = 0) (hr : ¬ s.room < (s.b.length : Int) + ((makeO kind body).1.length : Int)) (hc : s.cut = some n) :
    s.app kind body = ({ s with b := s.b ++ (makeO kind body).1.take (cutN n (makeO kind body).1), up := false, cut := none }, 100) := by
  unfold MS.app; rw [if_neg (by rw [h]; simp), if_neg (by rw [e]; simp), if_neg hr, hc]

@[go_sem] theorem eqF_nil (w : World) : (binOp .eql 53 .nilFunc .nilFunc).run Tryd.prog w = .ok (.bool true) w := by kernel_rfl
@[go_sem] theorem eqF_fn (nb : Nat) (w : World) : (binOp .eql 53 (.func (.func 28) #[] #[.pointer (some ⟨nb, 0, none⟩)]) .nilFunc).run Tryd.prog w = .ok (.bool false) w := by kernel_rfl
theorem med_after {w3 w4 : World} {base g : Nat} {v v4 sv x1 x2 : Value} {b bs : List UInt8} (h1 : Blk w3 g 55 #[v, x1, x2, sv]) (h2 : OwnB w3 base v b) (h4 : v.ownBlock ≠ some g) (x4 : Ext w3 w4 v v4) (h4' : OwnB w4 base v4 bs) :
    Blk (w4.setCell ⟨g, 0, none⟩ v4) g 55 #[v4, x1, x2, sv] ∧ OwnB (w4.setCell ⟨g, 0, none⟩ v4) base v4 bs ∧ v4.ownBlock ≠ some g ∧ Mod (Own2 g v) w3 (w4.setCell ⟨g, 0, none⟩ v4) ∧ Same2 w3 v v4 := by
  have hlt := h1.lt
  have hg4 : Blk w4 g 55 #[v, x1, x2, sv] := h1.grown x4.grown (fun e => h4 e.symm)
  have hne : v4.ownBlock ≠ some g := fun e => by
    rcases x4.lies with l | l
    · exact h4 (by rw [← l, e])
    · have := l g e; omega
  have m4 : Mod (Own2 g v) w3 w4 := Mod.of_grown x4.grown fun k hk => .inl (.inr hk)
  have m5 := (Mod.refl (· = g) w4).setG 0 v4
  exact ⟨hg4.set_ 0 v4, own_keep h4' m5 (fun k hk e => hne (by rw [hk, e])), hne, m4.setCell (.inl (.inl rfl)) v4, x4.lies⟩
theorem Same2.pre {w w3 : World} {v v' : Value} (h : Same2 w3 v v') (hs : w.heap.size ≤ w3.heap.size) : Same2 w v v' := h.imp id fun f k hk => Nat.le_trans hs (f k hk)
/-- What Cut sets. -/
theorem cutf_any (nb : Nat) (n : Int) (D : Nat → Prop) (A : Option Addr) (c : Nat) (f : List UInt8) (w : World) (hB : Blk w nb 3 #[.int .i64 n]) (r : RdB w D A f) (hc : f.length ≤ c) (hm : c ≤ 9223372036854775807) :
    Calls Tryd.prog 28 #[.slice A f.length c, .pointer (some ⟨nb, 0, none⟩)] w fun e w' => e = .returned (.slice A (cutN n f) c) ∧ w = w' := by
  have c0 := hB.cell 0
  simp at c0
  have HK : Hid (min (max n 0) (f.length : Int) = (cutN n f : Int)) := by unfold Hid cutN; omega
  have hk := HK.out
  have hkl : cutN n f ≤ f.length := by unfold cutN; omega
  generalize cutN n f = k at *
  have hkc : k ≤ c := by omega
  go_enter Tryd.func28, Tryd.ntmps28
  go_wp2_with fail
  go_ret
  exact ⟨rfl, rfl⟩

set_option maxHeartbeats 4000000 in
set_option maxRecDepth 100000 in
theorem Append_any (base g : Nat) (v : Value) (s : MS) (D : Nat → Prop) (A : Option Addr) (c : Nat) (kind : Int) (body : List UInt8) (w : World) (h : Med w base g v s) (hb : base ≤ w.heap.size) (hr : RdB w D A body) (hl : body.length ≤ 1000000) (hsl : s.b.length ≤ 2000000) (ht : Tab w) :
    Calls Tryd.prog 16 #[.pointer (some ⟨g, 0, none⟩), .int .i64 kind, .slice A body.length c] w fun e w' => ∃ v', e = .returned (.int .i64 (s.app kind body).2) ∧ Med w' base g v' (s.app kind body).1 ∧ Mod (Own2 g v) w w' ∧ Same2 w v v' := by
  obtain ⟨sv, h1, h2, h3, h4, h5⟩ := id h
  have c2 := h1.cell 2
  simp at c2
  cases hup : s.up
  · have e := Lib.hid (app_down (kind := kind) (body := body) hup)
    rw [hup] at c2
    clear hup
    go_enter Tryd.func16, Tryd.ntmps16
    go_wp2_with fail
    go_ret
    exact ⟨v, by rw [e.out] <;> rfl, by rw [e.out]; exact h, Mod.refl _ _, .inl rfl⟩
  · rw [hup] at c2
    have hmk := Make_any D A c kind body w hr hl ht
    have hml := makeO_len kind body
    by_cases he : (makeO kind body).2 = 0
    · have E1 := Lib.hid fun h => app_full (kind := kind) (body := body) hup he h
      have E2 := Lib.hid fun h => app_ok (kind := kind) (body := body) hup he h
      have E3 := Lib.hid fun h n => app_cut (kind := kind) (body := body) (n := n) hup he h
      rw [he] at hmk
      generalize (makeO kind body).1 = F at *
      have HUP := Lib.hid hup
      clear he hup
      go_enter Tryd.func16, Tryd.ntmps16
      go_wp2_with fail
      refine hmk.mono ?_
      clear hmk c2
      rintro e w2 ⟨vf, rfl, of, b2⟩
      obtain ⟨Af, nf, cf, rfl, ef, hcf, hmf⟩ := OwnB.form' of
      have rf := of.rd'
      have h := h.below b2
      clear h1 h2 h3 h4 h5 of
      go_wp2_with fail
      obtain ⟨sv, h1, h2, h3, h4, h5⟩ := id h
      obtain ⟨A1, c1, hv1, _, _⟩ := own_form h2
      have c0 := h1.cell 0
      have c1' := h1.cell 1
      have c3 := h1.cell 3
      simp at c0 c1' c3
      have hnf : nf = F.length := ef.out
      rw [hv1] at c0
      have hnfl : nf ≤ 8204 := by omega
      have EF := Lib.hid hnf
      have HV := Lib.hid hv1
      clear hnf hv1
      go_quiet (fail)
      have bd := below_drewN (Below.refl w2.heap.size w2) nq
      have h := h.below bd
      have rf := rf.below bd
      have b3 := b2.thenB' bd
      generalize w2.drewN nq = w3 at *
      clear h1 h2 h3 h4 h5 c0 c1' c3 bd
      obtain ⟨sv, h1, h2, h3, h4, h5⟩ := id h
      have hsz := Nat.le_trans hb b3.size
      by_cases hrm : s.room < (s.b.length : Int) + (nf : Int)
      · have e := Lib.hid (E1.out (by have := EF.out; omega))
        go_wp2_with fail
        go_ret
        exact ⟨v, by rw [e.out] <;> rfl, by rw [e.out]; exact h, Mod.of_below b3 _, .inl rfl⟩
      · have HRM : Hid (¬ s.room < (s.b.length : Int) + (F.length : Int)) := by unfold Hid; rw [← EF.out]; exact hrm
        have c3 := h1.cell 3
        have c0 := h1.cell 0
        have f0 := h1.frozen 0
        have f3 := h1.frozen 3
        have f2 := h1.frozen 2
        simp at c0 c3
        rcases h5 with ⟨hcut, rfl⟩ | ⟨nb, n, hcut, rfl, hN, hng, hnv⟩
        · have e := Lib.hid (E2.out (by have := HRM.out; omega) hcut)
          have HC := Lib.hid hcut
          have hlen : s.b.length + F.length ≤ big := by rw [← EF.out]; unfold big; omega
          clear hcut
          go_wp2_with first
            | (at_builtin; refine wpList_appB rfl (.tmp 47) (.tmp 48) rfl base _ s.b rfl h2 _ Af nf cf F rfl EF.out rf hlen hsz ?_; intro v4 w4 h4' x4
               have hg4 : Blk w4 g 55 #[v, .int .i64 s.room, .bool s.up, .nilFunc] := h1.grown x4.grown (fun e => h4 e.symm)
               have d0 := hg4.cell 0
               have k0 := hg4.frozen 0
               simp at d0
               have hma := med_after h1 h2 h4 x4 h4'
               obtain ⟨A4, c4, hv4, _, _⟩ := own_form h4'
               rw [hv4] at hma
               rw [hv4])
          rw [List.length_append] at hma
          obtain ⟨q1, q2, q3, q4, q5⟩ := hma
          go_ret
          exact ⟨by rw [e.out] <;> rfl, _, by rw [e.out]; exact ⟨.nilFunc, q1, q2, h3, q3, .inl ⟨HC.out, rfl⟩⟩, (Mod.of_below b3 _).trans q4, q5.pre b3.size⟩
        · have e := Lib.hid (E3.out (by have := HRM.out; omega) n hcut)
          clear hcut
          go_wp2_with fail
          have HTL : Hid (cutN n F ≤ F.length) := by unfold Hid cutN; omega
          have HTK : Hid (cutN n F = (F.take (cutN n F)).length) := by unfold Hid; rw [List.length_take, Nat.min_eq_left HTL.out]
          have HLEN : Hid (s.b.length + (F.take (cutN n F)).length ≤ big) := by unfold Hid; rw [← HTK.out]; have := HTL.out; have := EF.out; unfold big; omega
          refine r_start (R := RT) (by rfl) (n := 15) (L := #[false, false, false, false, false, false, false, false, false, false, false, false, false, false, false]) rfl rfl ?_
          have bd : Below w3.heap.size w3 w3.drew := (Below.refl _ _).drew
          have h1 := h1.below bd
          have h2 := OwnB.below h2 bd
          have hN := hN.below bd
          have rf := RdB.below rf bd
          have b3 := b3.thenB' bd
          have hsz := Nat.le_trans hb b3.size
          clear c0 c3 f0 f2 f3
          generalize w3.drew = wd1 at *
          have c0 := h1.cell 0
          have c3 := h1.cell 3
          have f0 := h1.frozen 0
          simp at c0 c3
          clear bd
          refine r_flt RT_refl 0 52 #[true, false, false, false, false, false, false, false, false, false, false, false, false, false, false] (by simp only [List.getElem?_toArray, List.getElem?_cons_zero]; rfl) (by rfl) (by kernel_rfl) (by kernel_rfl) (by kernel_rfl) (fun _ _ _ _ h => h) rfl (by rfl) ?_
          apply Exists.intro
          apply And.intro
          · intro W hW
            first | (go_simp; with_reducible rfl) | go_simp
          (try simp only [Act.put, List.setIfInBounds_toArray]); (try simp only [List.set_cons_succ]); (try simp only [List.set_cons_zero])
          refine r_flt RT_refl 1 53 #[true, true, false, false, false, false, false, false, false, false, false, false, false, false, false] (by simp only [List.getElem?_toArray, List.getElem?_cons_succ, List.getElem?_cons_zero]; rfl) (by rfl) (by kernel_rfl) (by kernel_rfl) (by kernel_rfl) (fun _ _ _ _ h => h) rfl (by rfl) ?_
          apply Exists.intro
          apply And.intro
          · intro W hW
            first | (go_simp; with_reducible rfl) | go_simp
          (try simp only [Act.put, List.setIfInBounds_toArray]); (try simp only [List.set_cons_succ]); (try simp only [List.set_cons_zero])
          refine r_flt RT_refl 2 54 #[true, true, true, false, false, false, false, false, false, false, false, false, false, false, false] (by simp only [List.getElem?_toArray, List.getElem?_cons_succ, List.getElem?_cons_zero]; rfl) (by rfl) (by kernel_rfl) (by kernel_rfl) (by kernel_rfl) (fun _ _ _ _ h => h) rfl (by rfl) ?_
          apply Exists.intro
          apply And.intro
          · intro W hW
            first | (go_simp; with_reducible rfl) | go_simp
          (try simp only [Act.put, List.setIfInBounds_toArray]); (try simp only [List.set_cons_succ]); (try simp only [List.set_cons_zero])
          refine r_flt RT_refl 3 55 #[true, true, true, true, false, false, false, false, false, false, false, false, false, false, false] (by simp only [List.getElem?_toArray, List.getElem?_cons_succ, List.getElem?_cons_zero]; rfl) (by rfl) (by kernel_rfl) (by kernel_rfl) (by kernel_rfl) (fun _ _ _ _ h => h) rfl (by rfl) ?_
          apply Exists.intro
          apply And.intro
          · intro W hW
            first | (go_simp; with_reducible rfl) | go_simp
          (try simp only [Act.put, List.setIfInBounds_toArray]); (try simp only [List.set_cons_succ]); (try simp only [List.set_cons_zero])
          refine r_flt RT_refl 5 57 #[true, true, true, true, false, true, false, false, false, false, false, false, false, false, false] (by simp only [List.getElem?_toArray, List.getElem?_cons_succ, List.getElem?_cons_zero]; rfl) (by rfl) (by kernel_rfl) (by kernel_rfl) (by kernel_rfl) (fun _ _ _ _ h => h) rfl (by rfl) ?_
          apply Exists.intro
          apply And.intro
          · intro W hW
            first | (go_simp; with_reducible rfl) | go_simp
          (try simp only [Act.put, List.setIfInBounds_toArray]); (try simp only [List.set_cons_succ]); (try simp only [List.set_cons_zero])
          refine r_flt RT_refl 6 58 #[true, true, true, true, false, true, true, false, false, false, false, false, false, false, false] (by simp only [List.getElem?_toArray, List.getElem?_cons_succ, List.getElem?_cons_zero]; rfl) (by rfl) (by kernel_rfl) (by kernel_rfl) (by kernel_rfl) (fun _ _ _ _ h => h) rfl (by rfl) ?_
          apply Exists.intro
          apply And.intro
          · intro W hW
            first | (go_simp; with_reducible rfl) | go_simp
          (try simp only [Act.put, List.setIfInBounds_toArray]); (try simp only [List.set_cons_succ]); (try simp only [List.set_cons_zero])
          refine r_flt RT_refl 7 59 #[true, true, true, true, false, true, true, true, false, false, false, false, false, false, false] (by simp only [List.getElem?_toArray, List.getElem?_cons_succ, List.getElem?_cons_zero]; rfl) (by rfl) (by kernel_rfl) (by kernel_rfl) (by kernel_rfl) (fun _ _ _ _ h => h) rfl (by rfl) ?_
          apply Exists.intro
          apply And.intro
          · intro W hW
            first | (go_simp; with_reducible rfl) | go_simp
          (try simp only [Act.put, List.setIfInBounds_toArray]); (try simp only [List.set_cons_succ]); (try simp only [List.set_cons_zero])
          refine r_flt RT_refl 9 61 #[true, true, true, true, false, true, true, true, false, true, false, false, false, false, false] (by simp only [List.getElem?_toArray, List.getElem?_cons_succ, List.getElem?_cons_zero]; rfl) (by rfl) (by kernel_rfl) (by kernel_rfl) (by kernel_rfl) (fun _ _ _ _ h => h) rfl (by rfl) ?_
          apply Exists.intro
          apply And.intro
          · intro W hW
            first | (go_simp; with_reducible rfl) | go_simp
          (try simp only [Act.put, List.setIfInBounds_toArray]); (try simp only [List.set_cons_succ]); (try simp only [List.set_cons_zero])
          refine r_two RT_trans 4 8 (by kernel_rfl) ?_ ?_
          ·
            refine alt_val 56 #[true, true, true, true, true, true, true, true, false, true, false, false, false, false, false] (by simp only [List.getElem?_toArray, List.getElem?_cons_succ, List.getElem?_cons_zero]; rfl) (by rfl) rfl (by rfl) (by go_simp; first | exact ⟨rfl, rfl⟩ | rfl) ?_ ?_
            · trivial
            (try simp only [Act.put, List.setIfInBounds_toArray]); (try simp only [List.set_cons_succ]); (try simp only [List.set_cons_zero])
            refine r_one RT_trans 8 (by kernel_rfl) ?_
            refine alt_val 60 #[true, true, true, true, true, true, true, true, true, true, false, false, false, false, false] (by simp only [List.getElem?_toArray, List.getElem?_cons_succ, List.getElem?_cons_zero]; rfl) (by rfl) rfl (by rfl) (by go_simp; first | exact ⟨rfl, rfl⟩ | rfl) ?_ ?_
            · trivial
            (try simp only [Act.put, List.setIfInBounds_toArray]); (try simp only [List.set_cons_succ]); (try simp only [List.set_cons_zero])
            refine r_one RT_trans 10 (by kernel_rfl) ?_
            refine alt_call 62 #[true, true, true, true, true, true, true, true, true, true, true, false, false, false, false] (by simp only [List.getElem?_toArray, List.getElem?_cons_succ, List.getElem?_cons_zero]; rfl) (by rfl) rfl (by rfl) (by go_simp; first | exact ⟨rfl, rfl⟩ | rfl) ?_
            have hcall := cutf_any nb n _ Af cf F wd1 hN rf (by have := EF.out; omega) hmf
            rw [← EF.out] at hcall
            with_reducible refine hcall.mono ?_
            rintro e' w9 ⟨rfl, rfl⟩
            refine ⟨_, rfl, trivial, ?_⟩
            (try simp only [Act.put, List.setIfInBounds_toArray]); (try simp only [List.set_cons_succ]); (try simp only [List.set_cons_zero])
            refine r_one RT_trans 11 (by kernel_rfl) ?_
            obtain ⟨v4, w4, hrun, h4', x4⟩ := run_appB wd1 base v s.b h2 _ Af (cutN n F) cf (F.take (cutN n F)) HTK.out (RdB.take rf HTL.out) HLEN.out hsz
            have hma := med_after h1 h2 h4 x4 h4'
            have hg4 : Blk w4 g 55 #[v, .int .i64 s.room, .bool s.up, .func (.func 28) #[] #[.pointer (some ⟨nb, 0, none⟩)]] := h1.grown x4.grown (fun e => h4 e.symm)
            have hN4 := (hN.grown x4.grown (fun e => hnv e.symm)).mod ((Mod.refl (· = g) w4).setG 0 v4) hng
            have hnv4 : v4.ownBlock ≠ some nb := fun e => by
              have hlt := hN.lt
              rcases x4.lies with l | l
              · exact hnv (by rw [← l, e])
              · have := l nb e; omega
            have d0 := hg4.cell 0
            have k0 := hg4.frozen 0
            simp at d0
            obtain ⟨A4, c4, hv4, _, _⟩ := own_form h4'
            rw [hv4] at hrun hma hN4 hnv4
            refine alt_val 63 #[true, true, true, true, true, true, true, true, true, true, true, true, false, false, false] (by simp only [List.getElem?_toArray, List.getElem?_cons_succ, List.getElem?_cons_zero]; rfl) (by rfl) rfl (by rfl) (exec_app (s := .tmp 56) (x := .tmp 62) rfl rfl rfl hrun) ?_ ?_
            · trivial
            (try simp only [Act.put, List.setIfInBounds_toArray]); (try simp only [List.set_cons_succ]); (try simp only [List.set_cons_zero])
            refine r_flt RT_refl 12 64 #[true, true, true, true, true, true, true, true, true, true, true, true, true, false, false] (by simp only [List.getElem?_toArray, List.getElem?_cons_succ, List.getElem?_cons_zero]; rfl) (by rfl) (by kernel_rfl) (by kernel_rfl) (by kernel_rfl) (fun _ _ _ _ h => h) rfl (by rfl) ?_
            apply Exists.intro
            apply And.intro
            · intro W hW
              first | (go_simp; with_reducible rfl) | go_simp
            (try simp only [Act.put, List.setIfInBounds_toArray]); (try simp only [List.set_cons_succ]); (try simp only [List.set_cons_zero])
            refine r_flt RT_refl 13 65 #[true, true, true, true, true, true, true, true, true, true, true, true, true, true, false] (by simp only [List.getElem?_toArray, List.getElem?_cons_succ, List.getElem?_cons_zero]; rfl) (by rfl) (by kernel_rfl) (by kernel_rfl) (by kernel_rfl) (fun _ _ _ _ h => h) rfl (by rfl) ?_
            apply Exists.intro
            apply And.intro
            · intro W hW
              first | (go_simp; with_reducible rfl) | go_simp
            (try simp only [Act.put, List.setIfInBounds_toArray]); (try simp only [List.set_cons_succ]); (try simp only [List.set_cons_zero])
            refine r_one RT_trans 14 (by kernel_rfl) ?_
            refine alt_none #[true, true, true, true, true, true, true, true, true, true, true, true, true, true, true] (by simp only [List.getElem?_toArray, List.getElem?_cons_succ, List.getElem?_cons_zero]; rfl) (by rfl) rfl (by rfl) (by go_simp; first | exact ⟨rfl, rfl⟩ | rfl) ?_ ?_
            · trivial
            (try simp only [Act.put, List.setIfInBounds_toArray]); (try simp only [List.set_cons_succ]); (try simp only [List.set_cons_zero])
            refine r_done (by kernel_rfl) ?_
            rw [List.length_append, List.length_take] at hma hN4 hnv4
            obtain ⟨q1, q2, q3, q4, q5⟩ := hma
            have hmed : Med (w4.setCell ⟨g, 0, none⟩ (.slice A4 (s.b.length + min (cutN n F) F.length) c4)) base g (.slice A4 (s.b.length + min (cutN n F) F.length) c4) { s with b := s.b ++ F.take (cutN n F), cut := some n } := ⟨_, q1, q2, h3, q3, .inr ⟨nb, n, rfl, rfl, hN4, hng, hnv4⟩⟩
            go_wp2_with fail
            refine (Crash_any base g _ _ _ hmed).mono ?_
            rintro e' w7 ⟨rfl, h7, m7⟩
            have m8 := Mod.then_ q4 m7 (fun i hi hy => by
              rcases hy with hy | hy
              · exact .inl hy
              · rcases q5 with l | l
                · exact .inr (by rw [← l]; exact hy)
                · have := l i hy; omega)
            go_wp2_with fail
            go_ret
            exact ⟨_, by rw [e.out] <;> rfl, by rw [e.out]; exact h7, (Mod.of_below b3 _).trans m8, q5.pre b3.size⟩
          ·
            refine alt_val 60 #[true, true, true, true, false, true, true, true, true, true, false, false, false, false, false] (by simp only [List.getElem?_toArray, List.getElem?_cons_succ, List.getElem?_cons_zero]; rfl) (by rfl) rfl (by rfl) (by go_simp; first | exact ⟨rfl, rfl⟩ | rfl) ?_ ?_
            · trivial
            (try simp only [Act.put, List.setIfInBounds_toArray]); (try simp only [List.set_cons_succ]); (try simp only [List.set_cons_zero])
            refine r_two RT_trans 4 10 (by kernel_rfl) ?_ ?_
            ·
              refine alt_val 56 #[true, true, true, true, true, true, true, true, true, true, false, false, false, false, false] (by simp only [List.getElem?_toArray, List.getElem?_cons_succ, List.getElem?_cons_zero]; rfl) (by rfl) rfl (by rfl) (by go_simp; first | exact ⟨rfl, rfl⟩ | rfl) ?_ ?_
              · trivial
              (try simp only [Act.put, List.setIfInBounds_toArray]); (try simp only [List.set_cons_succ]); (try simp only [List.set_cons_zero])
              refine r_one RT_trans 10 (by kernel_rfl) ?_
              refine alt_call 62 #[true, true, true, true, true, true, true, true, true, true, true, false, false, false, false] (by simp only [List.getElem?_toArray, List.getElem?_cons_succ, List.getElem?_cons_zero]; rfl) (by rfl) rfl (by rfl) (by go_simp; first | exact ⟨rfl, rfl⟩ | rfl) ?_
              have hcall := cutf_any nb n _ Af cf F wd1 hN rf (by have := EF.out; omega) hmf
              rw [← EF.out] at hcall
              with_reducible refine hcall.mono ?_
              rintro e' w9 ⟨rfl, rfl⟩
              refine ⟨_, rfl, trivial, ?_⟩
              (try simp only [Act.put, List.setIfInBounds_toArray]); (try simp only [List.set_cons_succ]); (try simp only [List.set_cons_zero])
              refine r_one RT_trans 11 (by kernel_rfl) ?_
              obtain ⟨v4, w4, hrun, h4', x4⟩ := run_appB wd1 base v s.b h2 _ Af (cutN n F) cf (F.take (cutN n F)) HTK.out (RdB.take rf HTL.out) HLEN.out hsz
              have hma := med_after h1 h2 h4 x4 h4'
              have hg4 : Blk w4 g 55 #[v, .int .i64 s.room, .bool s.up, .func (.func 28) #[] #[.pointer (some ⟨nb, 0, none⟩)]] := h1.grown x4.grown (fun e => h4 e.symm)
              have hN4 := (hN.grown x4.grown (fun e => hnv e.symm)).mod ((Mod.refl (· = g) w4).setG 0 v4) hng
              have hnv4 : v4.ownBlock ≠ some nb := fun e => by
                have hlt := hN.lt
                rcases x4.lies with l | l
                · exact hnv (by rw [← l, e])
                · have := l nb e; omega
              have d0 := hg4.cell 0
              have k0 := hg4.frozen 0
              simp at d0
              obtain ⟨A4, c4, hv4, _, _⟩ := own_form h4'
              rw [hv4] at hrun hma hN4 hnv4
              refine alt_val 63 #[true, true, true, true, true, true, true, true, true, true, true, true, false, false, false] (by simp only [List.getElem?_toArray, List.getElem?_cons_succ, List.getElem?_cons_zero]; rfl) (by rfl) rfl (by rfl) (exec_app (s := .tmp 56) (x := .tmp 62) rfl rfl rfl hrun) ?_ ?_
              · trivial
              (try simp only [Act.put, List.setIfInBounds_toArray]); (try simp only [List.set_cons_succ]); (try simp only [List.set_cons_zero])
              refine r_flt RT_refl 12 64 #[true, true, true, true, true, true, true, true, true, true, true, true, true, false, false] (by simp only [List.getElem?_toArray, List.getElem?_cons_succ, List.getElem?_cons_zero]; rfl) (by rfl) (by kernel_rfl) (by kernel_rfl) (by kernel_rfl) (fun _ _ _ _ h => h) rfl (by rfl) ?_
              apply Exists.intro
              apply And.intro
              · intro W hW
                first | (go_simp; with_reducible rfl) | go_simp
              (try simp only [Act.put, List.setIfInBounds_toArray]); (try simp only [List.set_cons_succ]); (try simp only [List.set_cons_zero])
              refine r_flt RT_refl 13 65 #[true, true, true, true, true, true, true, true, true, true, true, true, true, true, false] (by simp only [List.getElem?_toArray, List.getElem?_cons_succ, List.getElem?_cons_zero]; rfl) (by rfl) (by kernel_rfl) (by kernel_rfl) (by kernel_rfl) (fun _ _ _ _ h => h) rfl (by rfl) ?_
              apply Exists.intro
              apply And.intro
              · intro W hW
                first | (go_simp; with_reducible rfl) | go_simp
              (try simp only [Act.put, List.setIfInBounds_toArray]); (try simp only [List.set_cons_succ]); (try simp only [List.set_cons_zero])
              refine r_one RT_trans 14 (by kernel_rfl) ?_
              refine alt_none #[true, true, true, true, true, true, true, true, true, true, true, true, true, true, true] (by simp only [List.getElem?_toArray, List.getElem?_cons_succ, List.getElem?_cons_zero]; rfl) (by rfl) rfl (by rfl) (by go_simp; first | exact ⟨rfl, rfl⟩ | rfl) ?_ ?_
              · trivial
              (try simp only [Act.put, List.setIfInBounds_toArray]); (try simp only [List.set_cons_succ]); (try simp only [List.set_cons_zero])
              refine r_done (by kernel_rfl) ?_
              rw [List.length_append, List.length_take] at hma hN4 hnv4
              obtain ⟨q1, q2, q3, q4, q5⟩ := hma
              have hmed : Med (w4.setCell ⟨g, 0, none⟩ (.slice A4 (s.b.length + min (cutN n F) F.length) c4)) base g (.slice A4 (s.b.length + min (cutN n F) F.length) c4) { s with b := s.b ++ F.take (cutN n F), cut := some n } := ⟨_, q1, q2, h3, q3, .inr ⟨nb, n, rfl, rfl, hN4, hng, hnv4⟩⟩
              go_wp2_with fail
              refine (Crash_any base g _ _ _ hmed).mono ?_
              rintro e' w7 ⟨rfl, h7, m7⟩
              have m8 := Mod.then_ q4 m7 (fun i hi hy => by
                rcases hy with hy | hy
                · exact .inl hy
                · rcases q5 with l | l
                  · exact .inr (by rw [← l]; exact hy)
                  · have := l i hy; omega)
              go_wp2_with fail
              go_ret
              exact ⟨_, by rw [e.out] <;> rfl, by rw [e.out]; exact h7, (Mod.of_below b3 _).trans m8, q5.pre b3.size⟩
            ·
              refine alt_call 62 #[true, true, true, true, false, true, true, true, true, true, true, false, false, false, false] (by simp only [List.getElem?_toArray, List.getElem?_cons_succ, List.getElem?_cons_zero]; rfl) (by rfl) rfl (by rfl) (by go_simp; first | exact ⟨rfl, rfl⟩ | rfl) ?_
              have hcall := cutf_any nb n _ Af cf F wd1 hN rf (by have := EF.out; omega) hmf
              rw [← EF.out] at hcall
              with_reducible refine hcall.mono ?_
              rintro e' w9 ⟨rfl, rfl⟩
              refine ⟨_, rfl, trivial, ?_⟩
              (try simp only [Act.put, List.setIfInBounds_toArray]); (try simp only [List.set_cons_succ]); (try simp only [List.set_cons_zero])
              refine r_one RT_trans 4 (by kernel_rfl) ?_
              refine alt_val 56 #[true, true, true, true, true, true, true, true, true, true, true, false, false, false, false] (by simp only [List.getElem?_toArray, List.getElem?_cons_succ, List.getElem?_cons_zero]; rfl) (by rfl) rfl (by rfl) (by go_simp; first | exact ⟨rfl, rfl⟩ | rfl) ?_ ?_
              · trivial
              (try simp only [Act.put, List.setIfInBounds_toArray]); (try simp only [List.set_cons_succ]); (try simp only [List.set_cons_zero])
              refine r_one RT_trans 11 (by kernel_rfl) ?_
              obtain ⟨v4, w4, hrun, h4', x4⟩ := run_appB wd1 base v s.b h2 _ Af (cutN n F) cf (F.take (cutN n F)) HTK.out (RdB.take rf HTL.out) HLEN.out hsz
              have hma := med_after h1 h2 h4 x4 h4'
              have hg4 : Blk w4 g 55 #[v, .int .i64 s.room, .bool s.up, .func (.func 28) #[] #[.pointer (some ⟨nb, 0, none⟩)]] := h1.grown x4.grown (fun e => h4 e.symm)
              have hN4 := (hN.grown x4.grown (fun e => hnv e.symm)).mod ((Mod.refl (· = g) w4).setG 0 v4) hng
              have hnv4 : v4.ownBlock ≠ some nb := fun e => by
                have hlt := hN.lt
                rcases x4.lies with l | l
                · exact hnv (by rw [← l, e])
                · have := l nb e; omega
              have d0 := hg4.cell 0
              have k0 := hg4.frozen 0
              simp at d0
              obtain ⟨A4, c4, hv4, _, _⟩ := own_form h4'
              rw [hv4] at hrun hma hN4 hnv4
              refine alt_val 63 #[true, true, true, true, true, true, true, true, true, true, true, true, false, false, false] (by simp only [List.getElem?_toArray, List.getElem?_cons_succ, List.getElem?_cons_zero]; rfl) (by rfl) rfl (by rfl) (exec_app (s := .tmp 56) (x := .tmp 62) rfl rfl rfl hrun) ?_ ?_
              · trivial
              (try simp only [Act.put, List.setIfInBounds_toArray]); (try simp only [List.set_cons_succ]); (try simp only [List.set_cons_zero])
              refine r_flt RT_refl 12 64 #[true, true, true, true, true, true, true, true, true, true, true, true, true, false, false] (by simp only [List.getElem?_toArray, List.getElem?_cons_succ, List.getElem?_cons_zero]; rfl) (by rfl) (by kernel_rfl) (by kernel_rfl) (by kernel_rfl) (fun _ _ _ _ h => h) rfl (by rfl) ?_
              apply Exists.intro
              apply And.intro
              · intro W hW
                first | (go_simp; with_reducible rfl) | go_simp
              (try simp only [Act.put, List.setIfInBounds_toArray]); (try simp only [List.set_cons_succ]); (try simp only [List.set_cons_zero])
              refine r_flt RT_refl 13 65 #[true, true, true, true, true, true, true, true, true, true, true, true, true, true, false] (by simp only [List.getElem?_toArray, List.getElem?_cons_succ, List.getElem?_cons_zero]; rfl) (by rfl) (by kernel_rfl) (by kernel_rfl) (by kernel_rfl) (fun _ _ _ _ h => h) rfl (by rfl) ?_
              apply Exists.intro
              apply And.intro
              · intro W hW
                first | (go_simp; with_reducible rfl) | go_simp
              (try simp only [Act.put, List.setIfInBounds_toArray]); (try simp only [List.set_cons_succ]); (try simp only [List.set_cons_zero])
              refine r_one RT_trans 14 (by kernel_rfl) ?_
              refine alt_none #[true, true, true, true, true, true, true, true, true, true, true, true, true, true, true] (by simp only [List.getElem?_toArray, List.getElem?_cons_succ, List.getElem?_cons_zero]; rfl) (by rfl) rfl (by rfl) (by go_simp; first | exact ⟨rfl, rfl⟩ | rfl) ?_ ?_
              · trivial
              (try simp only [Act.put, List.setIfInBounds_toArray]); (try simp only [List.set_cons_succ]); (try simp only [List.set_cons_zero])
              refine r_done (by kernel_rfl) ?_
              rw [List.length_append, List.length_take] at hma hN4 hnv4
              obtain ⟨q1, q2, q3, q4, q5⟩ := hma
              have hmed : Med (w4.setCell ⟨g, 0, none⟩ (.slice A4 (s.b.length + min (cutN n F) F.length) c4)) base g (.slice A4 (s.b.length + min (cutN n F) F.length) c4) { s with b := s.b ++ F.take (cutN n F), cut := some n } := ⟨_, q1, q2, h3, q3, .inr ⟨nb, n, rfl, rfl, hN4, hng, hnv4⟩⟩
              go_wp2_with fail
              refine (Crash_any base g _ _ _ hmed).mono ?_
              rintro e' w7 ⟨rfl, h7, m7⟩
              have m8 := Mod.then_ q4 m7 (fun i hi hy => by
                rcases hy with hy | hy
                · exact .inl hy
                · rcases q5 with l | l
                  · exact .inr (by rw [← l]; exact hy)
                  · have := l i hy; omega)
              go_wp2_with fail
              go_ret
              exact ⟨_, by rw [e.out] <;> rfl, by rw [e.out]; exact h7, (Mod.of_below b3 _).trans m8, q5.pre b3.size⟩
    · have e := Lib.hid (app_bad (kind := kind) (body := body) hup he)
      have heb : ((makeO kind body).2 != 0) = true := by simp [he]
      generalize (makeO kind body).2 = y at *
      generalize (makeO kind body).1 = F at *
      clear he hup
      go_enter Tryd.func16, Tryd.ntmps16
      go_wp2_with fail
      refine hmk.mono ?_
      clear hmk
      rintro e' w2 ⟨vf, rfl, of, b2⟩
      go_wp2_with fail
      go_ret
      exact ⟨v, by rw [e.out] <;> rfl, by rw [e.out]; exact h.below b2, Mod.of_below b2 _, .inl rfl⟩
end Go.Proofs.YtodfejeifbhoeaaDoor
