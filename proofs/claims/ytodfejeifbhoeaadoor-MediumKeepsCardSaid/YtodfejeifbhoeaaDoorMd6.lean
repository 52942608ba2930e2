/- The law package's awake. -/
import Derived.Test.YtodfejeifbhoeaaDoorMd5
import Derived.Lib.SlBytesConst
namespace Go.Proofs.YtodfejeifbhoeaaDoor
open Go.RowKit
set_option linter.unusedVariables false

theorem rd_mark (w : World) (bs : List UInt8) (cs : Array Value) (m : Nat × Nat) (hcs : cs = (bs.map cB).toArray) : RdB (w.alloc (.cells cs 5 m)) (fun _ => True) (some ⟨w.heap.size, 0, none⟩) bs := by
  refine ⟨by simp, fun _ => ⟨_, rfl, trivial, fun j u hj => ?_⟩⟩
  rw [add_head, cell_of_row _ w.heap.size j cs 5 m (heap_alloc_new w _), hcs]
  simpa using hj
theorem conv1 (w : World) (x : Int) : (convert 28 28 (.slice (some ⟨w.heap.size, 0, none⟩) 1 1)).run Tryd.prog (w.alloc (.cells #[.int .u8 x] 5)) = .ok (.slice (some ⟨w.heap.size, 0, none⟩) 1 1) (w.alloc (.cells #[.int .u8 x] 5 (1, 2))) :=
  Lib.run_convert_bytes_const w 28 5 _ 1 1 Tryd.underlying28 Tryd.underlying5
theorem OwnS.at_ {w : World} {base n c : Nat} {A : Option Addr} {L : List BV} (h : OwnS w base (.slice A n c) (L.map cS)) {i : Nat} (hi : i < L.length) : ∃ ad, A = some ad ∧ w.cell? (ad.add i) = some (cS L[i]) := by
  obtain ⟨A', c', e, _, _⟩ := own_form h
  injection e with e1 e2 e3
  subst e1 e2 e3
  obtain ⟨ad, e, _, hc⟩ := (Rd.of_own h).2 (by rw [List.length_map]; omega)
  exact ⟨ad, e, hc i _ (by rw [List.getElem?_map, List.getElem?_eq_getElem hi]; rfl)⟩
theorem OwnS.form {w : World} {base : Nat} {v : Value} {L : List BV} (h : OwnS w base v (L.map cS)) : ∃ A n c, v = .slice A n c ∧ Hid (n = L.length) := by
  obtain ⟨A, c, e, _, _⟩ := own_form h
  exact ⟨A, _, c, e, Lib.hid (by rw [List.length_map])⟩

def sA : MS := ((newS 100).app 1 [97]).1
def sB : MS := ((sA.set 5).app 2 [98]).1
theorem fa1 : ((newS 100).app 1 [97]).2 = 0 := by decide +kernel
theorem fa2 : ((sA.set 5).app 2 [98]).2 = 100 := by decide +kernel
theorem fa3 : (recO sB.b).length = 1 := by decide +kernel
theorem fa4 : sB.up = false := by decide +kernel
theorem fa5 : recO sB.boot.b = [(1, [97])] := by decide +kernel
theorem fa6 : sB.boot.b.length = 13 := by decide +kernel
theorem fa7 : sA.b.length ≤ 2000000 := by decide +kernel
theorem fa8 : (sA.set 5).b.length ≤ 2000000 := by decide +kernel
theorem fa9 : sB.b.length ≤ 1000000 := by decide +kernel
theorem fa10 : sB.boot.up = true := rfl

set_option maxHeartbeats 4000000 in
set_option maxRecDepth 100000 in
theorem awake_any (w : World) (ht : Tab w) : Calls Tryd.prog 10 #[] w fun e w' => e = .returned (.bool true) ∧ Below w.heap.size w w' := by
  go_enter Tryd.func10, Tryd.ntmps10
  go_wp2_with fail
  refine (New_any 100 w).mono ?_
  rintro e w1 ⟨rfl, m1, b1⟩
  obtain ⟨g, hg⟩ : ∃ g, g = w.heap.size := ⟨_, rfl⟩
  rw [← hg] at m1
  rw [← hg]
  have HG := Lib.hid hg
  have hgb : w.heap.size ≤ g := by omega
  have m1 : Med w1 w.heap.size g (.slice none 0 0) (newS 100) := m1.low hgb
  clear hg
  have n1 := below_new w1 (.cells #[.int .u8 97] 5 (1, 2))
  have hcv1 := conv1 w1 97
  have r1 := rd_mark w1 [97] #[.int .u8 97] (1, 2) rfl
  have b2 := b1.thenB' n1
  have ha := Append_any w.heap.size g _ _ _ (some ⟨w1.heap.size, 0, none⟩) 1 1 [97] _ (m1.below n1) b2.size r1 (by simp) (by simp [newS]) (ht.below b2)
  rw [fa1] at ha
  have ha : Calls Tryd.prog 16 #[.pointer (some ⟨g, 0, none⟩), .int .i64 1, .slice (some ⟨w1.heap.size, 0, none⟩) 1 1] _ _ := ha
  go_wp2_with fail
  refine ha.mono ?_
  clear ha hcv1 r1
  rintro e w2 ⟨v2, rfl, m2, x2, _⟩
  have b3 := b2.trans ((m1.below n1).bel x2 b2.size)
  have m2 : Med w2 w.heap.size g v2 sA := m2
  go_wp2_with fail
  refine (Cut_any w.heap.size g v2 sA 5 w2 m2 b3.size).mono ?_
  rintro e w3 ⟨rfl, m3, x3⟩
  have b4 := b3.trans (m2.bel x3 b3.size)
  have n3 := below_new w3 (.cells #[.int .u8 98] 5 (1, 2))
  have hcv3 := conv1 w3 98
  have r3 := rd_mark w3 [98] #[.int .u8 98] (1, 2) rfl
  have b5 := b4.thenB' n3
  have ha := Append_any w.heap.size g _ _ _ (some ⟨w3.heap.size, 0, none⟩) 1 2 [98] _ (m3.below n3) b5.size r3 (by simp) fa8 (ht.below b5)
  rw [fa2] at ha
  have ha : Calls Tryd.prog 16 #[.pointer (some ⟨g, 0, none⟩), .int .i64 2, .slice (some ⟨w3.heap.size, 0, none⟩) 1 1] _ _ := ha
  go_wp2_with fail
  refine ha.mono ?_
  clear ha hcv3 r3
  rintro e w4 ⟨v4, rfl, m4, x4, _⟩
  have b6 := b5.trans ((m3.below n3).bel x4 b5.size)
  have m4 : Med w4 w.heap.size g v4 sB := m4
  go_wp2_with fail
  refine (Records_any w.heap.size g v4 sB w4 m4 fa9 (ht.below b6)).mono ?_
  rintro e w5 ⟨k5, r5, L5, rfl, o5, _, _, _, b7⟩
  obtain ⟨A5, n5, c5, rfl, e5⟩ : ∃ A n c, k5 = .slice A n c ∧ Hid (n = 1) := by
    obtain ⟨A, c, e, _, _⟩ := own_form o5
    exact ⟨A, _, c, e, Lib.hid (by rw [List.length_map, fa3])⟩
  obtain rfl : n5 = 1 := e5.out
  have m5 := m4.below b7
  have b8 := b6.thenB' b7
  go_wp2_with fail
  have hu := Up_any w.heap.size g v4 sB w5 m5
  rw [fa4] at hu
  refine hu.mono ?_
  clear hu
  rintro e w6 ⟨rfl, rfl⟩
  go_wp2_with fail
  refine (Boot_any w.heap.size g v4 sB w5 m5 fa9 (ht.below b8)).mono ?_
  rintro e w6 ⟨v6, rfl, m6, x6, _⟩
  have b9 := b8.trans (m5.bel x6 b8.size)
  go_wp2_with fail
  have h13 : sB.boot.b.length ≤ 1000000 := by rw [fa6]; omega
  refine (Records_any w.heap.size g v6 sB.boot w6 m6 h13 (ht.below b9)).mono ?_
  rintro e w7 ⟨k7, r7, L7, rfl, o7, s7, hL7, hr7, b10⟩
  rw [fa5] at o7 hL7
  obtain ⟨A7, n7, c7, rfl, e7⟩ : ∃ A n c, k7 = .slice A n c ∧ Hid (n = 1) := by
    obtain ⟨A, c, e, _, _⟩ := own_form o7
    exact ⟨A, _, c, e, Lib.hid rfl⟩
  obtain rfl : n7 = 1 := e7.out
  obtain ⟨A8, n8, c8, rfl, e8⟩ := s7.form
  have m7 := m6.below b10
  have b11 := b9.thenB' b10
  obtain ⟨t, rfl⟩ : ∃ t, L7 = [t] := List.length_eq_one_iff.1 (by have := congrArg List.length hL7; simpa using this)
  obtain rfl : n8 = 1 := e8.out
  have htl : t.l = [97] := by simpa using hL7
  obtain ⟨ad, rfl, hcell⟩ := s7.at_ (i := 0) (by simp)
  have hcell : w7.cell? ad = some (.slice t.A t.l.length t.c) := hcell
  have hrt := hr7 t (by simp)
  have hst := str_rd (c := t.c) hrt rfl
  rw [htl] at hst hcell
  have hst : (convert 28 9 (.slice t.A 1 t.c)).run Tryd.prog w7 = .ok (.string ⟨#[97]⟩) w7 := hst
  have hcell : w7.cell? ad = some (.slice t.A 1 t.c) := hcell
  have hu := Up_any w.heap.size g v6 sB.boot w7 m7
  have hln := Len_any w.heap.size g v6 sB.boot w7 m7
  rw [fa10] at hu
  rw [fa6] at hln
  clear htl hL7 hr7 s7 o7 hrt
  go_wp2_with fail
  refine hu.mono ?_
  clear hu
  rintro e w8 ⟨rfl, rfl⟩
  go_wp2_with fail
  refine hln.mono ?_
  clear hln
  rintro e w8 ⟨rfl, rfl⟩
  go_wp2_with fail
  go_ret
  exact ⟨rfl, b11⟩
end Go.Proofs.YtodfejeifbhoeaaDoor
