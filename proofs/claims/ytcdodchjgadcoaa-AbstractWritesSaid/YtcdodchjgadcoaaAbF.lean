/- An image behind an operation: what is refused ahead of the copy. -/
import Derived.Test.YtcdodchjgadcoaaAb9
namespace Go.Proofs.Ytcdodchjgadcoaa
open Go.RowKit
set_option linter.unusedVariables false
set_option maxRecDepth 100000

theorem infoEy : (Try.prog.info? 41).map (·.size) = some 7 := by kernel_rfl
theorem no18_any (z : Int) (w : World) : Calls Try.prog 32 #[.int .i64 z] w fun e w' => e = .returned (.tuple #[.agg zI3, .int .i64 0, .int .i64 z]) ∧ Below w.heap.size w w' := by
  have bb := below_new w (.cells zI3 25)
  have hQ := Blk.new w 25 zI3
  unfold zI3 at *
  go_enter Try.func32, Try.ntmps32
  go_wp2_with first
    | (with_reducible show wpList _ _ _ _ _ _
       refine wpList_rowB rfl 25 (.tmp 2) (.tmp 5) rfl w.heap.size 25 _ #[.slice none 0 0, .slice none 0 0, .int .i64 0] rfl rfl hQ infoIm rfl (imA_ok ⟨none, [], 0, none, [], 0, 0⟩) ?_
       intro w3 hq m3)
  (try simp only [Exit.inBlock, Exit.then])
  refine bodyPost_ret (results_cell_tmp2 rfl _ _ w.heap.size _ _ (0, 0) _ rfl hq Try.underlying25 rfl infoIm) rfl ?_
  exact ⟨rfl, bb.thenM m3 bb.size fun i hi e => by omega⟩
theorem do_pre (i : ImV) (e : E7) (A : Option Addr) (c : Nat) (w : World) :
    let w0 := ((w.alloc (.cells (imA i) 25)).alloc (.cells (enA e A c) 41)).alloc (.cells zI3 25)
    Blk w0 w.heap.size 25 (imA i) ∧ Blk w0 (w.heap.size + 1) 41 (enA e A c) ∧ Blk w0 (w.heap.size + 2) 25 zI3 ∧ Below w.heap.size w w0 ∧ w0.heap.size = w.heap.size + 3 := by
  intro w0
  have b1 := below_new w (.cells (imA i) 25)
  have hB := Blk.new w 25 (imA i)
  have s1 : (w.alloc (.cells (imA i) 25)).heap.size = w.heap.size + 1 := Array.size_push ..
  generalize hw1 : w.alloc (.cells (imA i) 25) = w1 at *
  have b2 := below_new w1 (.cells (enA e A c) 41)
  have hE := Blk.new w1 41 (enA e A c)
  have s2 : (w1.alloc (.cells (enA e A c) 41)).heap.size = w1.heap.size + 1 := Array.size_push ..
  generalize hw2 : w1.alloc (.cells (enA e A c) 41) = w2 at *
  have b3 := below_new w2 (.cells zI3 25)
  have hQ := Blk.new w2 25 zI3
  have s3 : (w2.alloc (.cells zI3 25)).heap.size = w2.heap.size + 1 := Array.size_push ..
  have e0 : w0 = w2.alloc (.cells zI3 25) := by show ((w.alloc _).alloc _).alloc _ = _; rw [hw1, hw2]
  rw [e0]
  rw [s1] at hE s2
  rw [s2] at hQ s3
  exact ⟨(hB.below b2).below b3, hE.below b3, hQ, (b1.thenB' b2).thenB' b3, s3⟩
theorem doP_a {p : PI} {e : E7} (h : mayI p = false) : doP p e = (zeroI, 0, 1) := by unfold doP; rw [if_pos h]
theorem doP_b {p : PI} {e : E7} (h : mayI p = true) (h' : mayE e = false) : doP p e = (zeroI, 0, 180) := by unfold doP; rw [if_neg (by rw [h]; decide), if_pos h']
theorem doP_c {p : PI} {e : E7} (h : mayI p = true) (h' : mayE e = true) : doP p e = if e.kind = 1 then (if (p.d.length : Int) < e.off + e.data.length then (zeroI, 0, 180) else ({ p with d := laidO p.d e.off.toNat e.data }, 0, 0))
  else if e.kind = 2 then (if (p.d.length : Int) < e.off + e.len then (zeroI, 0, 180) else ({ p with d := laidO p.d e.off.toNat (List.replicate e.len.toNat 0) }, 0, 0))
  else if e.kind = 3 then ({ p with d := sizeO p.d e.len.toNat }, 0, 0)
  else if e.kind = 4 then (if 4 ≤ p.S.length ∨ 100 ≤ p.last then (zeroI, 0, 110) else (⟨p.d, p.S ++ [(p.last + 1, p.d)], p.last + 1⟩, p.last + 1, 0))
  else if findO (idsP p.S) e.snap < 0 then (zeroI, 0, 182)
  else if e.kind = 5 then ({ p with S := p.S.eraseIdx (findO (idsP p.S) e.snap).toNat }, 0, 0)
  else ({ p with d := (p.S.getD (findO (idsP p.S) e.snap).toNat (0, [])).2 }, 0, 0) := by
  unfold doP
  rw [if_neg (by rw [h]; decide), if_neg (by rw [h']; decide)]

set_option maxHeartbeats 8000000 in
set_option maxRecDepth 100000 in
theorem Do_a (D De : Nat → Prop) (i : ImV) (e : E7) (A : Option Addr) (c : Nat) (w : World) (hr : ImR w D i) (hrd : RdB w De A e.data) (hdc : e.data.length ≤ c) (hcm : c ≤ 9223372036854775807) (hm : mayI i.p = false) :
    Calls Try.prog 18 #[.agg (imA i), enV e A c] w fun x w' => ∃ j : ImV, x = .returned (.tuple #[.agg (imA j), .int .i64 (doP i.p e).2.1, .int .i64 (doP i.p e).2.2]) ∧ j.p = (doP i.p e).1 ∧ OwnIm w' w.heap.size j ∧ Below w.heap.size w w' := by
  obtain ⟨hB, hE, hQ, bb, hs0⟩ := do_pre i e A c w
  have hr0 := hr.below bb
  have hck := Check18_any D i _ hr0
  have hce := fun w => Check_any e A c w
  have hent : ∀ (args : Array Value) (w : World), (callFunc 32 args).run Try.prog w = .ok (.enter 32 args) w := Go.Proofs.enters_of Try.func32 (by kernel_rfl) rfl
  have E := Lib.hid (doP_a (e := e) hm)
  rw [hm, show eno false 1 = 1 from rfl] at hck
  clear hm hr0 hce
  unfold enV
  unfold imA enA zI3 at *
  generalize hw0 : ((w.alloc (.cells #[.slice i.DA i.d.length i.dc, .slice i.CA i.S.length i.cc, .int .i64 i.last] 25)).alloc (.cells #[.int .i64 e.seq, .int .i64 e.owner, .int .i64 e.kind, .int .i64 e.off, .int .i64 e.len, .int .i64 e.snap, .slice A e.data.length c] 41)).alloc (.cells #[.slice none 0 0, .slice none 0 0, .int .i64 0] 25) = w0 at *
  go_enter Try.func18, Try.ntmps18
  go_wp2_with first
    | (with_reducible show wpList _ _ _ _ _ _
       refine wpList_load_row rfl 25 (.tmp 2) rfl w.heap.size rfl 25 _ (0, 0) _ hB Try.underlying25 rfl infoIm ?_)
  refine hck.mono ?_
  clear hck hw0
  rintro e w2 ⟨rfl, b2⟩
  have hQ := hQ.below b2
  have bb := bb.thenB' b2
  go_wp2_with fail
  refine (no18_any _ _).mono ?_
  rintro e w8 ⟨rfl, b8⟩
  have hQ := hQ.below b8
  have bb := bb.thenB' b8
  unfold zI3
  go_wp2_with first
    | (with_reducible show wpList _ _ _ _ _ _
       refine wpList_rowB rfl 25 (.tmp 4) (.tmp 18) rfl (w.heap.size + 2) 25 _ zI3 rfl rfl hQ infoIm rfl (imA_ok ⟨none, [], 0, none, [], 0, 0⟩) ?_
       intro w4 hq4 m4)
  (try simp only [Exit.inBlock, Exit.then])
  refine bodyPost_ret (results_cell_tmp2 rfl _ _ (w.heap.size + 2) _ _ (0, 0) _ rfl hq4 Try.underlying25 rfl infoIm) rfl ?_
  rw [E.out]
  exact ⟨⟨none, [], 0, none, [], 0, 0⟩, rfl, rfl, OwnIm.zero, bb.thenM m4 bb.size (fun i hi e => by omega)⟩

set_option maxHeartbeats 8000000 in
set_option maxRecDepth 100000 in
theorem Do_b (D De : Nat → Prop) (i : ImV) (e : E7) (A : Option Addr) (c : Nat) (w : World) (hr : ImR w D i) (hrd : RdB w De A e.data) (hdc : e.data.length ≤ c) (hcm : c ≤ 9223372036854775807) (hm : mayI i.p = true) (hme : mayE e = false) :
    Calls Try.prog 18 #[.agg (imA i), enV e A c] w fun x w' => ∃ j : ImV, x = .returned (.tuple #[.agg (imA j), .int .i64 (doP i.p e).2.1, .int .i64 (doP i.p e).2.2]) ∧ j.p = (doP i.p e).1 ∧ OwnIm w' w.heap.size j ∧ Below w.heap.size w w' := by
  obtain ⟨hB, hE, hQ, bb, hs0⟩ := do_pre i e A c w
  have hr0 := hr.below bb
  have hck := Check18_any D i _ hr0
  have hce := fun w => Check_any e A c w
  have hent : ∀ (args : Array Value) (w : World), (callFunc 32 args).run Try.prog w = .ok (.enter 32 args) w := Go.Proofs.enters_of Try.func32 (by kernel_rfl) rfl
  have E := Lib.hid (doP_b hm hme)
  rw [hm, show eno true 1 = 0 from rfl] at hck
  rw [hme, show errE false = 70 from rfl] at hce
  clear hm hme hr0
  unfold enV at *
  unfold imA enA zI3 at *
  generalize hw0 : ((w.alloc (.cells #[.slice i.DA i.d.length i.dc, .slice i.CA i.S.length i.cc, .int .i64 i.last] 25)).alloc (.cells #[.int .i64 e.seq, .int .i64 e.owner, .int .i64 e.kind, .int .i64 e.off, .int .i64 e.len, .int .i64 e.snap, .slice A e.data.length c] 41)).alloc (.cells #[.slice none 0 0, .slice none 0 0, .int .i64 0] 25) = w0 at *
  go_enter Try.func18, Try.ntmps18
  go_wp2_with first
    | (with_reducible show wpList _ _ _ _ _ _
       refine wpList_load_row rfl 25 (.tmp 2) rfl w.heap.size rfl 25 _ (0, 0) _ hB Try.underlying25 rfl infoIm ?_)
  refine hck.mono ?_
  clear hck hw0
  rintro e w2 ⟨rfl, b2⟩
  have hB := hB.below b2
  have hE := hE.below b2
  have hQ := hQ.below b2
  have bb := bb.thenB' b2
  have hs2 : w.heap.size + 3 ≤ w2.heap.size := by have := b2.size; omega
  clear b2
  go_wp2_with first
    | (with_reducible show wpList _ _ _ _ _ _
       refine wpList_load_row rfl 41 (.tmp 3) rfl (w.heap.size + 1) rfl 41 _ (0, 0) _ hE Try.underlying41 rfl infoEy ?_)
  refine (hce w2).mono ?_
  clear hce
  rintro e w3 ⟨rfl, b3⟩
  have hQ := hQ.below b3
  have bb := bb.thenB' b3
  go_wp2_with fail
  refine (no18_any _ _).mono ?_
  rintro e w8 ⟨rfl, b8⟩
  have hQ := hQ.below b8
  have bb := bb.thenB' b8
  unfold zI3
  go_wp2_with first
    | (with_reducible show wpList _ _ _ _ _ _
       refine wpList_rowB rfl 25 (.tmp 4) (.tmp 26) rfl (w.heap.size + 2) 25 _ zI3 rfl rfl hQ infoIm rfl (imA_ok ⟨none, [], 0, none, [], 0, 0⟩) ?_
       intro w4 hq4 m4)
  (try simp only [Exit.inBlock, Exit.then])
  refine bodyPost_ret (results_cell_tmp2 rfl _ _ (w.heap.size + 2) _ _ (0, 0) _ rfl hq4 Try.underlying25 rfl infoIm) rfl ?_
  rw [E.out]
  exact ⟨⟨none, [], 0, none, [], 0, 0⟩, rfl, rfl, OwnIm.zero, bb.thenM m4 bb.size (fun i hi e => by omega)⟩
end Go.Proofs.Ytcdodchjgadcoaa
