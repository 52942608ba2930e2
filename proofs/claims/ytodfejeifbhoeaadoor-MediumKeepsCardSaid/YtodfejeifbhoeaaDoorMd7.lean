/- The walk of MediumRoom. -/
import Derived.Test.YtodfejeifbhoeaaDoorMd6
namespace Go.Proofs.YtodfejeifbhoeaaDoor
open Go.RowKit
set_option linter.unusedVariables false

theorem makeK (k : Nat) (body : List UInt8) (hk : k ≤ 255) (h : body.length ≤ 8192) : makeO (k : Int) body = (frameO k body, 0) := by
  unfold makeO; rw [if_neg (by omega), if_neg (by omega), Int.toNat_natCast]
/-- A record of a kind that may be, on a medium that is up and isn't to be cut. -/
theorem app_two (s : MS) (k : Nat) (body : List UInt8) (hk : k ≤ 255) (h : body.length ≤ 8192) (hu : s.up = true) (hc : s.cut = none) :
    (s.room < (s.b.length : Int) + (body.length : Int) + 12 → s.app (k : Int) body = (s, 110)) ∧ (¬ s.room < (s.b.length : Int) + (body.length : Int) + 12 → s.app (k : Int) body = ({ s with b := s.b ++ frameO k body }, 0)) := by
  have hm := makeK k body hk h
  have hl := frameO_len k body
  refine ⟨fun hr => app_full hu (by rw [hm]) (by rw [hm]; show s.room < (s.b.length : Int) + ((frameO k body).length : Int); rw [hl]; omega), fun hr => ?_⟩
  have := app_ok (s := s) (kind := (k : Int)) (body := body) hu (by rw [hm]) (by rw [hm]; show ¬ s.room < (s.b.length : Int) + ((frameO k body).length : Int); rw [hl]; omega) hc
  rw [hm] at this
  exact this
theorem low5 : ((newS (-5)).app 1 []).2 = 110 := by decide +kernel

set_option maxHeartbeats 4000000 in
set_option maxRecDepth 100000 in
theorem room_walk (w : World) (ht : Tab w) (room : Int) (ir : I64 room) (A : Option Addr) (L : List BV) (c : Nat) (rl : RdL w (Old w) 1 rowCB A L) (l : L.length ≤ c) (mx : c ≤ 9223372036854775807) (nn : A = none → c = 0) (rs : ∀ s ∈ L, RdB w (Old w) s.A s.l ∧ s.l.length ≤ s.c ∧ s.c ≤ 9223372036854775807) :
    Calls Tryd.prog 5 #[.int .i64 room, .slice A L.length c] w fun e w' => e = .returned (.bool true) ∧ Below w.heap.size w w' := by
  have rs : ∀ s ∈ L, RdB w (Old w) s.A s.l := fun s hs => (rs s hs).1
  go_enter Tryd.func5, Tryd.ntmps5
  go_wp2_with fail
  refine (awake_any w ht).mono ?_
  rintro e w1 ⟨rfl, b1⟩
  by_cases h0 : room < 0 ∨ 2000 < room
  · by_cases h1 : room < 0
    focus skip
    rotate_left
    focus
      have h2 : 2000 < room := by omega
    all_goals
      clear h0
      go_wp2_with fail
      refine (New_any (-5) w1).mono ?_
      rintro e w2 ⟨rfl, m2, b2⟩
      have ha := Append_any w1.heap.size w1.heap.size _ _ _ none 0 1 [] w2 m2 b2.size (RdB.nil (D := fun _ => True)) (by simp) (by simp [newS]) ((ht.below b1).below b2)
      rw [low5] at ha
      have ha : Calls Tryd.prog 16 #[.pointer (some ⟨w1.heap.size, 0, none⟩), .int .i64 1, .slice none 0 0] _ _ := ha
      go_wp2_with fail
      refine ha.mono ?_
      clear ha
      rintro e w3 ⟨v3, rfl, m3, x3, _⟩
      have b3 := b2.trans (m2.bel x3 b2.size)
      go_wp2_with fail
      go_ret
      exact ⟨rfl, b1.thenB' b3⟩
  · have hr1 : ¬ room < 0 := by omega
    have hr2 : ¬ 2000 < room := by omega
    clear h0
    go_wp2_with fail
    refine (New_any room w1).mono ?_
    rintro e w2 ⟨rfl, m2, b2⟩
    obtain ⟨g, hg⟩ : ∃ g, g = w1.heap.size := ⟨_, rfl⟩
    rw [← hg] at m2
    rw [← hg]
    have hgb : w.heap.size ≤ g := by have := b1.size; omega
    have m2 : Med w2 w.heap.size g (.slice none 0 0) (newS room) := Med.low m2 (by omega)
    have bb := b1.thenB' b2
    clear hg b2
    go_wp2_with fail
    go_loopw [7, 8, 9, 10] (fun us i e n wr => ∃ (j : Nat) (s : MS) (v : Value), j ≤ 30 ∧ i = .int .i64 (j : Int) ∧ us = .int .i64 (s.b.length : Int) ∧ s.room = room ∧ s.up = true ∧ s.cut = none ∧ s.b.length ≤ 2000 ∧ Med wr w.heap.size g v s ∧ Below w.heap.size w wr) (fun _ i _ _ _ => 30 - (intOf i).toNat)
    case atStart => exact ⟨0, newS room, _, by omega, rfl, rfl, by simp [newS]; omega, rfl, rfl, by simp [newS], m2, bb⟩
    case round =>
      clear m2 bb
      obtain ⟨j, s, v, hj, rfl, rfl, hroom, hup, hcut, hsl, hm, bb⟩ := hrel
      have rl1 := rl.belowB bb (fun _ h => h)
      have rs1 := fun s hs => Rd.belowB (rs s hs) bb (fun _ h => h)
      by_cases hlt : j < L.length ∧ j < 30
      · obtain ⟨hlt, hlt30⟩ := hlt
        obtain ⟨ad, rfl, hcell⟩ := rl1.bv hlt
        have rj := rs1 L[j] (List.getElem_mem hlt)
        have HC : Hid (∀ W, Below w.heap.size w W → W.cell? (ad.add j) = some (.slice L[j].A L[j].l.length L[j].c)) := fun W hW => by
          obtain ⟨ad', e0, h⟩ := (rl.belowB hW (fun _ h => h)).bv hlt
          injection e0 with e0
          subst e0
          exact h
        generalize L[j].l = x at *
        generalize L[j].A = Ax at *
        generalize L[j].c = cx at *
        by_cases h300 : 300 < x.length
        · go_wp2_with fail
          go_ret
          exact ⟨rfl, bb⟩
        · obtain ⟨a1, a2⟩ := app_two s j x (by omega) (by omega) hup hcut
          have ha := Append_any w.heap.size g v s _ Ax cx (j : Int) x wr hm bb.size rj (by omega) (by omega) (ht.below bb)
          by_cases hfull : room < (s.b.length : Int) + (x.length : Int) + 12
          · have E := Lib.hid (a1 (by rw [hroom]; exact hfull))
            rw [E.out] at ha
            have HS := Lib.hid (And.intro hroom (And.intro hup hcut))
            have hle : ¬ ((s.b.length : Int) + ((x.length : Int) + 12) ≤ room) := by omega
            have hup' := hup
            clear a1 a2 hroom hup hcut
            go_wp2_with fail
            refine ha.mono ?_
            clear ha
            rintro e w3 ⟨v3, rfl, m3, x3, _⟩
            have m3 : Med w3 w.heap.size g v3 s := m3
            have bX := hm.bel x3 bb.size
            have bb := bb.trans bX
            have hcell := HC.out w3 bb
            have hln := Len_any w.heap.size g v3 s w3 m3
            have hu := Up_any w.heap.size g v3 s w3 m3
            rw [hup'] at hu
            go_wp2_with fail
            refine hln.mono ?_
            clear hln
            rintro e w4 ⟨rfl, rfl⟩
            go_wp2_with fail
            refine hu.mono ?_
            clear hu
            rintro e w4 ⟨rfl, rfl⟩
            go_wp2_with fail
            go_roundw
            case rel => exact ⟨j + 1, s, v3, by omega, by go_num, rfl, HS.out.1, HS.out.2.1, HS.out.2.2, hsl, m3, bb⟩
            case measure => simp [intOf] <;> omega
          · have E := Lib.hid (a2 (by rw [hroom]; exact hfull))
            rw [E.out] at ha
            have hle : (s.b.length : Int) + ((x.length : Int) + 12) ≤ room := by omega
            have hFl := frameO_len j x
            obtain ⟨s2, hs2⟩ : ∃ s2 : MS, s2 = { s with b := s.b ++ frameO j x } := ⟨_, rfl⟩
            have hb2 : s2.b.length = s.b.length + (x.length + 12) := by rw [hs2, List.length_append, hFl]
            have hb2i : (s.b.length : Int) + ((x.length : Int) + 12) = (s2.b.length : Int) := by rw [hb2]; omega
            have HS : Hid (s2.room = room ∧ s2.up = true ∧ s2.cut = none) := by unfold Hid; rw [hs2]; exact ⟨hroom, hup, hcut⟩
            have hup' : s2.up = true := HS.out.2.1
            have hsl2 : s2.b.length ≤ 2000 := by omega
            rw [← hs2] at ha
            clear a1 a2 hroom hup hcut hs2 hb2 hFl E
            go_wp2_with fail
            refine ha.mono ?_
            clear ha
            rintro e w3 ⟨v3, rfl, m3, x3, _⟩
            have bX := hm.bel x3 bb.size
            have bb := bb.trans bX
            have hcell := HC.out w3 bb
            have hln := Len_any w.heap.size g v3 s2 w3 m3
            have hu := Up_any w.heap.size g v3 s2 w3 m3
            rw [hup'] at hu
            go_wp2_with fail
            refine hln.mono ?_
            clear hln
            rintro e w4 ⟨rfl, rfl⟩
            go_wp2_with fail
            refine hu.mono ?_
            clear hu
            rintro e w4 ⟨rfl, rfl⟩
            go_wp2_with fail
            go_roundw
            case rel => exact ⟨j + 1, s2, v3, by omega, by go_num, rfl, HS.out.1, HS.out.2.1, HS.out.2.2, hsl2, m3, bb⟩
            case measure => simp [intOf] <;> omega
      · by_cases h1 : j < L.length
        focus
          have h2 : ¬ j < 30 := fun h => hlt ⟨h1, h⟩
        rotate_left
        focus skip
        all_goals
          clear hlt
          go_wp2_with fail
          go_ret
          exact ⟨rfl, bb⟩
end Go.Proofs.YtodfejeifbhoeaaDoor
