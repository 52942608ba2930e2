/- The document's example of a net; scripts of acts, as arguments. -/
import Derived.Test.YtpfbiamgnmbhnaaNtD
import Derived.Lib.SlBytesConst
namespace Go.Proofs.Ytpfbiamgnmbhnaa
open Go.RowKit
set_option linter.unusedVariables false
set_option maxRecDepth 100000

theorem rd_mark (w : World) (bs : List UInt8) (cs : Array Value) (m : Nat × Nat) (hcs : cs = (bs.map cB).toArray) : RdB (w.alloc (.cells cs 5 m)) (fun _ => True) (some ⟨w.heap.size, 0, none⟩) bs := by
  refine ⟨by simp, fun _ => ⟨_, rfl, trivial, fun j u hj => ?_⟩⟩
  rw [add_head, cell_of_row _ w.heap.size j cs 5 m (heap_alloc_new w _), hcs]
  simpa using hj
theorem links_len {E : List (Int × Int)} {S : List Msg} (hp : E.Pairwise (fun x y => cmpV x y < 0)) (hE : ∀ k, k ∈ E ↔ bagN S k ≠ []) : E.Nodup := hp.imp fun {x y} h e => by
  subst e
  have := (cmpV_lt x x).1 h
  omega
theorem links_one {E : List (Int × Int)} {k0 : Int × Int} (hn : E.Nodup) (hE : ∀ k, k ∈ E ↔ k = k0) : E.length = 1 := by
  match E, hn, hE with
  | [], _, h => exact absurd ((h k0).2 rfl) (by simp)
  | [a], _, _ => rfl
  | a :: b :: r, hn, h =>
    have h1 := (h a).1 (by simp)
    have h2 := (h b).1 (by simp)
    rw [h1, h2] at hn
    simp at hn
theorem links_none {E : List (Int × Int)} {S : List Msg} (hE : ∀ k, k ∈ E ↔ bagN S k ≠ []) (h : S = []) : E.length = 0 := by
  subst h
  match E, hE with
  | [], _ => rfl
  | a :: r, h => exact absurd ((h a).1 (by simp)) (by simp [bagN])
theorem aw1 : putP [] 0 8 [97] = ([((0, 8), [97])], true) := by decide +kernel
theorem aw2 : putP [((0, 8), [97])] 0 8 [98] = ([((0, 8), [97]), ((0, 8), [98])], true) := by decide +kernel
theorem aw3 : doubleP [((0, 8), [97]), ((0, 8), [98])] 0 8 0 = ([((0, 8), [97]), ((0, 8), [98]), ((0, 8), [97])], true) := by decide +kernel
theorem aw4 : takeP [((0, 8), [97]), ((0, 8), [98]), ((0, 8), [97])] 0 8 1 = ([((0, 8), [97]), ((0, 8), [97])], [98], true) := by decide +kernel
theorem aw5 : takeP [((0, 8), [97]), ((0, 8), [97])] 0 8 1 = ([((0, 8), [97])], [97], true) := by decide +kernel
theorem lit_net (w : World) (x : UInt8) (n : Int) (hx : n = (x.toNat : Int)) : ∃ W, (convert 27 27 (.slice (some ⟨w.heap.size, 0, none⟩) 1 1)).run Try.prog (w.alloc (.cells #[.int .u8 n] 5)) = .ok (.slice (some ⟨w.heap.size, 0, none⟩) 1 1) W ∧ RdB W (fun _ => True) (some ⟨w.heap.size, 0, none⟩) [x] ∧ Below w.heap.size w W := by
  subst hx
  exact ⟨_, Lib.run_convert_bytes_const w 27 5 _ 1 1 Try.underlying27 Try.underlying5, rd_mark w [x] _ _ rfl, below_new w _⟩

set_option maxHeartbeats 4000000 in
theorem awake15_any (w : World) : Calls Try.prog 7 #[] w fun e w' => e = .returned (.bool true) ∧ Below w.heap.size w w' := by
  have hnew := New_any w
  go_enter Try.func7, Try.ntmps7
  go_wp2_with fail
  refine hnew.mono ?_
  clear hnew
  rintro e w1 ⟨g, rfl, hV, b1⟩
  obtain ⟨W1, hcv1, hr1, bW1⟩ := lit_net w1 97 97 rfl
  have bb := b1.thenB' bW1
  have hp := Put_any _ g [] 0 8 _ _ 1 [97] W1 (hV.below bW1) bb.size hr1 (by decide)
  rw [aw1] at hp
  have hp : Calls Try.prog 14 #[.pointer (some ⟨g, 0, none⟩), .int .i64 0, .int .i64 8, .slice (some ⟨w1.heap.size, 0, none⟩) 1 1] W1 _ := hp
  clear hV bW1 b1 hr1
  go_wp2_with fail
  refine hp.mono ?_
  clear hp hcv1
  rintro e w2 ⟨rfl, hV, m2⟩
  have bb := bb.trans (m2.below bb.size)
  clear m2
  obtain ⟨W1, hcv1, hr1, bW1⟩ := lit_net w2 98 98 rfl
  have bb := bb.thenB' bW1
  have hp := Put_any _ g _ 0 8 _ _ 1 [98] W1 (hV.below bW1) bb.size hr1 (by decide)
  rw [aw2] at hp
  have hp : Calls Try.prog 14 #[.pointer (some ⟨g, 0, none⟩), .int .i64 0, .int .i64 8, .slice (some ⟨w2.heap.size, 0, none⟩) 1 1] W1 _ := hp
  clear hV bW1 hr1
  go_wp2_with fail
  refine hp.mono ?_
  clear hp hcv1
  rintro e w3 ⟨rfl, hV, m3⟩
  have bb := bb.trans (m3.below bb.size)
  clear m3
  have hp := Double_any _ g _ 0 8 0 w3 hV bb.size (by decide)
  rw [aw3] at hp
  go_wp2_with fail
  refine hp.mono ?_
  clear hp hV
  rintro e w4 ⟨rfl, hV, m4⟩
  have bb := bb.trans (m4.below bb.size)
  clear m4
  have hp := Take_any _ g _ 0 8 1 w4 hV bb.size
  rw [aw4] at hp
  go_wp2_with fail
  refine hp.mono ?_
  clear hp hV
  rintro e w5 ⟨v1, rfl, o1, hV, m5⟩
  have bb := bb.trans (m5.below bb.size)
  clear m5
  have hp := Take_any _ g _ 0 8 1 w5 hV bb.size
  rw [aw5] at hp
  go_wp2_with fail
  refine hp.mono ?_
  clear hp hV
  rintro e w6 ⟨v2, rfl, o2, hV, m6⟩
  have o1 := m6.ownB o1
  have bb := bb.trans (m6.below bb.size)
  clear m6
  obtain ⟨A1, c1, rfl, _, _⟩ := OwnB.form o1
  obtain ⟨A2, c2, rfl, _, _⟩ := OwnB.form o2
  have s1 := str_rd (n := 1) (c := c1) (Rd.of_own o1) rfl
  have s2 := str_rd (n := 1) (c := c2) (Rd.of_own o2) rfl
  have e1 : (str [98] == ByteArray.mk #[98]) = true := rfl
  have e2 : (str [97] == ByteArray.mk #[97]) = true := rfl
  have hc := Count_any _ g _ 0 8 w6 hV
  have ht := Total_any _ g _ w6 hV
  have hl := Links_any _ g _ w6 hV
  have hc : Calls Try.prog 11 #[.pointer (some ⟨g, 0, none⟩), .int .i64 0, .int .i64 8] w6 fun e w' => e = .returned (.int .i64 1) ∧ w6 = w' := hc
  have ht : Calls Try.prog 10 #[.pointer (some ⟨g, 0, none⟩)] w6 fun e w' => e = .returned (.int .i64 1) ∧ w6 = w' := ht
  clear o1 o2
  go_wp2_with fail
  refine hc.mono ?_
  clear hc
  rintro e w7 ⟨rfl, rfl⟩
  go_wp2_with fail
  refine ht.mono ?_
  clear ht
  rintro e w7 ⟨rfl, rfl⟩
  go_wp2_with fail
  refine hl.mono ?_
  clear hl
  rintro e w7 ⟨v, E, rfl, p1, p2, p3, b7⟩
  have hn := links_len p1 p2
  have hlen : E.length = 1 := links_one (k0 := (0, 8)) hn fun k => by
    rw [p2 k]
    constructor
    · intro h
      by_cases e : k = (0, 8)
      · exact e
      · exfalso
        refine h ?_
        unfold bagN
        rw [List.filter_cons, if_neg (by simpa using fun e' => e e'.symm)]
        rfl
    · rintro rfl
      decide
  obtain ⟨A7, c7, rfl, _, _⟩ := OwnC.form p3
  rw [hlen]
  go_wp2_with fail
  go_ret
  exact ⟨rfl, bb.thenB b7 bb.size⟩
end Go.Proofs.Ytpfbiamgnmbhnaa
