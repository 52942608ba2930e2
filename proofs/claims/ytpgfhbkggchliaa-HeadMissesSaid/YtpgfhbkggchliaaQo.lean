/- Parts of the proof, joined: HdZ HeP. -/
import Derived.Test.YtpgfhbkggchliaaQn
/- The law HeadSnaps: the walk. -/
namespace Go.Proofs.Ytpgfhbkggchliaa
open Go.RowKit
set_option linter.unusedVariables false

/-- A head in a variable. -/
structure HdX (w : World) (q : Nat) (cs : Array Value) (h : HdV) : Prop where
  B : Blk w q 27 cs
  rd : HdR w (fun _ => True) h
  v : hdV h = .agg cs
  n : cs.size = 8
theorem HdX.below {w w' : World} {q : Nat} {cs : Array Value} {h : HdV} (k : HdX w q cs h) (b : Below w.heap.size w w') : HdX w' q cs h := ⟨k.B.below b, k.rd.below b, k.v, k.n⟩
theorem hd8 (h : HdV) : (hdA h).size = 8 := rfl
def z8 : Array Value := #[.int .i64 0, .int .i64 0, .int .i64 0, .int .i64 0, .slice none 0 0, .slice none 0 0, .int .i64 0, .int .i64 0]
theorem HdX.new {w w' : World} {h : HdV} {cs : Array Value} (hr : HdR w (fun _ => True) h) (hB : Blk w' w.heap.size 27 cs) (hc : hdA h = cs) (m : Mod (· = w.heap.size) (w.alloc (.cells z8 27)) w') : HdX w' w.heap.size cs h ∧ Below w.heap.size w w' := by
  have bn := below_new w (.cells z8 27)
  have b : Below w.heap.size w w' := bn.thenM m bn.size fun i hi e => by omega
  refine ⟨⟨hB, hr.below b, by rw [← hc]; rfl, by rw [← hc]; rfl⟩, b⟩
theorem same_any {w : World} {q r : Nat} {ca cb : Array Value} {a b : HdV} (ha : HdX w q ca a) (hb : HdX w r cb b) (he : a.p = b.p) (hg : BigP a.p) :
    Calls Try.prog 15 #[.agg ca, .agg cb] w fun e w' => e = .returned (.bool true) ∧ Below w.heap.size w w' := by
  have := rSame_yes _ _ a b w ha.rd hb.rd (eqH_p he) hg.hd
  rwa [ha.v, hb.v] at this

set_option maxHeartbeats 4000000 in
set_option maxRecDepth 100000 in
theorem snaps_walk (D : Nat → Prop) (h : HdV) (id : Int) (w : World) (hr : HdR w D h) :
    Calls Try.prog 7 #[hdV h, .int .i64 id] w fun e w' => e = .returned (.bool true) ∧ Below w.heap.size w w' := by
  have bb := below_new w (.cells (hdA h) 27)
  have hB := Blk.new w 27 (hdA h)
  have hr := hr.below bb
  have hv : hdV h = .agg (hdA h) := rfl
  have hfw := fun W hr => few_any D h W hr
  have hc1 := fun W hr => Snap_any6 D h W hr
  have hc2 := fun W hr => rSnap_any6 D h W hr
  have hc3 := fun W hr => Drop_any6 D h id W hr
  have hc4 := fun W hr => rDrop_any6 D h id W hr
  have hb1 := snap_big h.p
  have hb2 := drop_big h.p id
  rw [hv] at hfw hc1 hc2 hc3 hc4 ⊢
  generalize snapP h.p = d at *
  generalize dropP h.p id = g at *
  generalize hA : hdA h = cs at *
  have h8 : cs.size = 8 := by rw [← hA]; rfl
  clear hA hv
  go_enter Try.func7, Try.ntmps7
  go_wp2_with fail
  refine (awake_any6 _).mono ?_
  rintro e w1 ⟨rfl, b1⟩
  have hB := hB.below b1
  have hr := hr.below b1
  have bb := bb.thenB' b1
  clear b1
  go_wp2_with first
    | (with_reducible show wpList _ _ _ _ _ _
       refine wpList_load_row rfl 27 (.tmp 2) rfl w.heap.size rfl 27 cs (0, 0) _ hB Try.underlying27 rfl (by rw [h8]; exact infoH) ?_)
  refine (hfw _ hr).mono ?_
  clear hfw
  rintro e w2 ⟨rfl, b2⟩
  have hB := hB.below b2
  have hr := hr.below b2
  have bb := bb.thenB' b2
  clear b2
  cases hf : fewO h
  focus
    go_wp2_with fail
    go_ret
    exact ⟨rfl, bb⟩
  go_wp2_with first
    | (with_reducible show wpList _ _ _ _ _ _
       refine wpList_load_row rfl 27 (.tmp 2) rfl w.heap.size rfl 27 cs (0, 0) _ hB Try.underlying27 rfl (by rw [h8]; exact infoH) ?_)
  refine (hc1 _ hr).mono ?_
  clear hc1
  rintro e x1 ⟨h1, rfl, hp1, hr1, b1⟩
  have hB := hB.below b1
  have hr := hr.below b1
  have bb := bb.thenB' b1
  rw [show hdV h1 = .agg (hdA h1) from rfl]
  have q1 := hd8 h1
  have a1 := hdA_ok h1
  generalize hA1 : hdA h1 = c1 at *
  have hz1 := Blk.new x1 27 z8
  unfold z8 at hz1
  go_wp2_with first
    | (with_reducible show wpList _ _ _ _ _ _
       refine wpList_rowB rfl 27 (.tmp 7) (.tmp 27) rfl x1.heap.size 27 _ c1 rfl rfl hz1 (by rw [q1]; exact infoH) (by rw [q1]; rfl) a1 ?_
       intro y1 hy1 m1
       obtain ⟨K1, n1⟩ := HdX.new hr1 hy1 hA1 m1
       have hB := hB.below n1
       have hr := hr.below n1
       have bb := bb.thenB' n1)
    | (with_reducible show wpList _ _ _ _ _ _
       refine wpList_load_row rfl 27 (.tmp 2) rfl w.heap.size rfl 27 cs (0, 0) _ hB Try.underlying27 rfl (by rw [h8]; exact infoH) ?_)
  refine (hc2 _ hr).mono ?_
  clear hc2
  rintro e x2 ⟨h2, rfl, hp2, hr2, b2⟩
  have hB := hB.below b2
  have hr := hr.below b2
  have bb := bb.thenB' b2
  have K1 := K1.below b2
  rw [show hdV h2 = .agg (hdA h2) from rfl]
  have q2 := hd8 h2
  have a2 := hdA_ok h2
  generalize hA2 : hdA h2 = c2 at *
  have hz2 := Blk.new x2 27 z8
  unfold z8 at hz2
  go_wp2_with first
    | (with_reducible show wpList _ _ _ _ _ _
       refine wpList_rowB rfl 27 (.tmp 10) (.tmp 33) rfl x2.heap.size 27 _ c2 rfl rfl hz2 (by rw [q2]; exact infoH) (by rw [q2]; rfl) a2 ?_
       intro y2 hy2 m2
       obtain ⟨K2, n2⟩ := HdX.new hr2 hy2 hA2 m2
       have hB := hB.below n2
       have hr := hr.below n2
       have bb := bb.thenB' n2
       have K1 := K1.below n2)
    | (with_reducible show wpList _ _ _ _ _ _
       refine wpList_load_row rfl 27 (.tmp 2) rfl w.heap.size rfl 27 cs (0, 0) _ hB Try.underlying27 rfl (by rw [h8]; exact infoH) ?_)
  refine (hc3 _ hr).mono ?_
  clear hc3
  rintro e x3 ⟨h3, rfl, hp3, hr3, b3⟩
  have hB := hB.below b3
  have hr := hr.below b3
  have bb := bb.thenB' b3
  have K1 := K1.below b3
  have K2 := K2.below b3
  rw [show hdV h3 = .agg (hdA h3) from rfl]
  have q3 := hd8 h3
  have a3 := hdA_ok h3
  generalize hA3 : hdA h3 = c3 at *
  have hz3 := Blk.new x3 27 z8
  unfold z8 at hz3
  go_wp2_with first
    | (with_reducible show wpList _ _ _ _ _ _
       refine wpList_rowB rfl 27 (.tmp 13) (.tmp 40) rfl x3.heap.size 27 _ c3 rfl rfl hz3 (by rw [q3]; exact infoH) (by rw [q3]; rfl) a3 ?_
       intro y3 hy3 m3
       obtain ⟨K3, n3⟩ := HdX.new hr3 hy3 hA3 m3
       have hB := hB.below n3
       have hr := hr.below n3
       have bb := bb.thenB' n3
       have K1 := K1.below n3
       have K2 := K2.below n3)
    | (with_reducible show wpList _ _ _ _ _ _
       refine wpList_load_row rfl 27 (.tmp 2) rfl w.heap.size rfl 27 cs (0, 0) _ hB Try.underlying27 rfl (by rw [h8]; exact infoH) ?_)
  refine (hc4 _ hr).mono ?_
  clear hc4
  rintro e x4 ⟨h4, rfl, hp4, hr4, b4⟩
  have hB := hB.below b4
  have hr := hr.below b4
  have bb := bb.thenB' b4
  have K1 := K1.below b4
  have K2 := K2.below b4
  have K3 := K3.below b4
  rw [show hdV h4 = .agg (hdA h4) from rfl]
  have q4 := hd8 h4
  have a4 := hdA_ok h4
  generalize hA4 : hdA h4 = c4 at *
  have hz4 := Blk.new x4 27 z8
  unfold z8 at hz4
  go_wp2_with first
    | (with_reducible show wpList _ _ _ _ _ _
       refine wpList_rowB rfl 27 (.tmp 15) (.tmp 46) rfl x4.heap.size 27 _ c4 rfl rfl hz4 (by rw [q4]; exact infoH) (by rw [q4]; rfl) a4 ?_
       intro y4 hy4 m4
       obtain ⟨K4, n4⟩ := HdX.new hr4 hy4 hA4 m4
       have hB := hB.below n4
       have hr := hr.below n4
       have bb := bb.thenB' n4
       have K1 := K1.below n4
       have K2 := K2.below n4
       have K3 := K3.below n4)
    | (with_reducible show wpList _ _ _ _ _ _
       refine wpList_load_rowG rfl rfl 27 (.tmp 7) rfl x1.heap.size rfl 27 c1 K1.B _ Try.underlying27 (by rw [q1]; exact infoH) ?_)
    | (with_reducible show wpList _ _ _ _ _ _
       refine wpList_load_rowG rfl rfl 27 (.tmp 10) rfl x2.heap.size rfl 27 c2 K2.B _ Try.underlying27 (by rw [q2]; exact infoH) ?_)
  refine (same_any K1 K2 (by rw [hp1, hp2]) (by rw [hp1]; exact hb1)).mono ?_
  rintro e x5 ⟨rfl, b5⟩
  have K3 := K3.below b5
  have K4 := K4.below b5
  have bb := bb.thenB' b5
  go_wp2_with first
    | (with_reducible show wpList _ _ _ _ _ _
       refine wpList_load_rowG rfl rfl 27 (.tmp 13) rfl x3.heap.size rfl 27 c3 K3.B _ Try.underlying27 (by rw [q3]; exact infoH) ?_)
    | (with_reducible show wpList _ _ _ _ _ _
       refine wpList_load_rowG rfl rfl 27 (.tmp 15) rfl x4.heap.size rfl 27 c4 K4.B _ Try.underlying27 (by rw [q4]; exact infoH) ?_)
  refine (same_any K3 K4 (by rw [hp3, hp4]) (by rw [hp3]; exact hb2)).mono ?_
  rintro e x6 ⟨rfl, b6⟩
  go_wp2_with fail
  go_ret
  exact ⟨rfl, bb.thenB' b6⟩
end Go.Proofs.Ytpgfhbkggchliaa

/- The law HeadPacks: the walk. -/
namespace Go.Proofs.Ytpgfhbkggchliaa
open Go.RowKit
set_option linter.unusedVariables false

set_option maxHeartbeats 8000000 in
set_option maxRecDepth 100000 in
theorem packs_walk (D D' : Nat → Prop) (h : HdV) (A : Option Addr) (b : List UInt8) (c : Nat) (w : World) (hr : HdR w D h) (r : RdB w D' A b) (l : b.length ≤ c) (mx : c ≤ 9223372036854775807) :
    Calls Try.prog 4 #[hdV h, .slice A b.length c] w fun e w' => e = .returned (.bool true) ∧ Below w.heap.size w w' := by
  have bb := below_new w (.cells (hdA h) 27)
  have hB := Blk.new w 27 (hdA h)
  have hr := hr.below bb
  have hv : hdV h = .agg (hdA h) := rfl
  have hfw := fun W hr => few_any D h W hr
  have r := r.below bb
  have hc1 := fun (W : World) (r : RdB W D' A b) (hl : b.length ≤ big) => Unpack_any6 D' A c b W r hl
  have hc2 := fun (W : World) (r : RdB W D' A b) => rUnpack_any6 D' A c b W r l mx
  have hc3 := fun W hr => Pack_any6 D h W hr
  have hc4 := fun W hr => rPack_any6 D h W hr
  have hb1 := unp_big b
  rw [hv] at hfw hc3 hc4 ⊢
  generalize unpP b = d at *
  generalize packP h.p = pp at *
  generalize hA : hdA h = cs at *
  have h8 : cs.size = 8 := by rw [← hA]; rfl
  clear hA hv
  go_enter Try.func4, Try.ntmps4
  go_wp2_with fail
  refine (awake_any6 _).mono ?_
  rintro e w1 ⟨rfl, b1⟩
  have hB := hB.below b1
  have hr := hr.below b1
  have r := r.below b1
  have bb := bb.thenB' b1
  clear b1
  go_wp2_with first
    | (with_reducible show wpList _ _ _ _ _ _
       refine wpList_load_row rfl 27 (.tmp 2) rfl w.heap.size rfl 27 cs (0, 0) _ hB Try.underlying27 rfl (by rw [h8]; exact infoH) ?_)
  refine (hfw _ hr).mono ?_
  clear hfw
  rintro e w2 ⟨rfl, b2⟩
  have hB := hB.below b2
  have hr := hr.below b2
  have r := r.below b2
  have bb := bb.thenB' b2
  clear b2
  cases hf : fewO h
  focus
    go_wp2_with fail
    go_ret
    exact ⟨rfl, bb⟩
  by_cases hl3 : (3000 : Int) < (b.length : Int)
  focus
    go_wp2_with fail
    go_ret
    exact ⟨rfl, bb⟩
  have hlb : b.length ≤ big := by unfold big; omega
  go_wp2_with fail
  refine (hc1 _ r hlb).mono ?_
  clear hc1
  rintro e x1 ⟨h1, rfl, hp1, hr1, b1⟩
  have hB := hB.below b1
  have hr := hr.below b1
  have r := r.below b1
  have bb := bb.thenB' b1
  rw [show hdV h1 = .agg (hdA h1) from rfl]
  have q1 := hd8 h1
  have a1 := hdA_ok h1
  generalize hA1 : hdA h1 = c1 at *
  have hz1 := Blk.new x1 27 z8
  unfold z8 at hz1
  go_wp2_with first
    | (with_reducible show wpList _ _ _ _ _ _
       refine wpList_rowB rfl 27 (.tmp 7) (.tmp 26) rfl x1.heap.size 27 _ c1 rfl rfl hz1 (by rw [q1]; exact infoH) (by rw [q1]; rfl) a1 ?_
       intro y1 hy1 m1
       obtain ⟨K1, n1⟩ := HdX.new hr1 hy1 hA1 m1
       have hB := hB.below n1
       have hr := hr.below n1
       have r := r.below n1
       have bb := bb.thenB' n1)
  refine (hc2 _ r).mono ?_
  clear hc2
  rintro e x2 ⟨h2, rfl, hp2, hr2, b2⟩
  have hB := hB.below b2
  have hr := hr.below b2
  have r := r.below b2
  have bb := bb.thenB' b2
  have K1 := K1.below b2
  rw [show hdV h2 = .agg (hdA h2) from rfl]
  have q2 := hd8 h2
  have a2 := hdA_ok h2
  generalize hA2 : hdA h2 = c2 at *
  have hz2 := Blk.new x2 27 z8
  unfold z8 at hz2
  go_wp2_with first
    | (with_reducible show wpList _ _ _ _ _ _
       refine wpList_rowB rfl 27 (.tmp 9) (.tmp 31) rfl x2.heap.size 27 _ c2 rfl rfl hz2 (by rw [q2]; exact infoH) (by rw [q2]; rfl) a2 ?_
       intro y2 hy2 m2
       obtain ⟨K2, n2⟩ := HdX.new hr2 hy2 hA2 m2
       have hB := hB.below n2
       have hr := hr.below n2
       have r := r.below n2
       have bb := bb.thenB' n2
       have K1 := K1.below n2)
  refine r_start (R := RB) (by rfl) (n := 18) (L := #[false, false, false, false, false, false, false, false, false, false, false, false, false, false, false, false, false, false]) rfl rfl ?_
  have bd : Below y2.heap.size y2 y2.drew := (Below.refl _ _).drew
  have hB := hB.below bd
  have hr := hr.below bd
  have K1 := K1.below bd
  have K2 := K2.below bd
  try have p1 := OwnB.below p1 bd
  try have p2 := OwnB.below p2 bd
  have bb := bb.thenB' bd
  generalize y2.drew = wd1 at *
  clear bd
  refine r_flt RB_refl 0 33 #[true, false, false, false, false, false, false, false, false, false, false, false, false, false, false, false, false, false] (by simp only [List.getElem?_toArray, List.getElem?_cons_zero]; rfl) (by rfl) (by kernel_rfl) (by kernel_rfl) (by kernel_rfl) (fun _ _ _ _ h => h) rfl (by rfl) ?_
  apply Exists.intro
  apply And.intro
  · intro W hW
    exact exec_load_row rfl rfl (hB.below hW) Try.underlying27 (by rw [h8]; exact infoH)
  (try simp only [Act.put, List.setIfInBounds_toArray]); (try simp only [List.set_cons_succ]); (try simp only [List.set_cons_zero])
  refine r_flt RB_refl 3 36 #[true, false, false, true, false, false, false, false, false, false, false, false, false, false, false, false, false, false] (by simp only [List.getElem?_toArray, List.getElem?_cons_succ, List.getElem?_cons_zero]; rfl) (by rfl) (by kernel_rfl) (by kernel_rfl) (by kernel_rfl) (fun _ _ _ _ h => h) rfl (by rfl) ?_
  apply Exists.intro
  apply And.intro
  · intro W hW
    exact exec_load_row rfl rfl (hB.below hW) Try.underlying27 (by rw [h8]; exact infoH)
  (try simp only [Act.put, List.setIfInBounds_toArray]); (try simp only [List.set_cons_succ]); (try simp only [List.set_cons_zero])
  refine r_one RB_trans 1 (by kernel_rfl) ?_
  refine alt_call 34 #[true, true, false, true, false, false, false, false, false, false, false, false, false, false, false, false, false, false] (by simp only [List.getElem?_toArray, List.getElem?_cons_succ, List.getElem?_cons_zero]; rfl) (by rfl) rfl (by rfl) (by go_simp; first | exact ⟨rfl, rfl⟩ | rfl) ?_
  with_reducible refine (hc3 _ hr).mono ?_
  clear hc3
  rintro e' w4 ⟨vw4, rfl, p1, bp⟩
  obtain ⟨Aw4, nw4, cw4, rfl, E4, _, _⟩ := OwnB.form' p1
  refine ⟨_, rfl, bp, ?_⟩
  have hB := hB.below bp
  have hr := hr.below bp
  have K1 := K1.below bp
  have K2 := K2.below bp
  try have p2 := OwnB.below p2 bp
  have bb := bb.thenB' bp
  (try simp only [Act.put, List.setIfInBounds_toArray]); (try simp only [List.set_cons_succ]); (try simp only [List.set_cons_zero])
  refine r_flt RB_refl 2 35 #[true, true, true, true, false, false, false, false, false, false, false, false, false, false, false, false, false, false] (by simp only [List.getElem?_toArray, List.getElem?_cons_succ, List.getElem?_cons_zero]; rfl) (by rfl) (by kernel_rfl) (by kernel_rfl) (by kernel_rfl) (fun _ _ _ _ h => h) rfl (by rfl) ?_
  apply Exists.intro
  apply And.intro
  · intro W hW
    have s := str_inB p1 E4.out hW
    go_simp; rfl
  (try simp only [Act.put, List.setIfInBounds_toArray]); (try simp only [List.set_cons_succ]); (try simp only [List.set_cons_zero])
  refine r_one RB_trans 4 (by kernel_rfl) ?_
  refine alt_call 37 #[true, true, true, true, true, false, false, false, false, false, false, false, false, false, false, false, false, false] (by simp only [List.getElem?_toArray, List.getElem?_cons_succ, List.getElem?_cons_zero]; rfl) (by rfl) rfl (by rfl) (by go_simp; first | exact ⟨rfl, rfl⟩ | rfl) ?_
  with_reducible refine (hc4 _ hr).mono ?_
  clear hc4
  rintro e' w5 ⟨vw5, rfl, p2, bp⟩
  obtain ⟨Aw5, nw5, cw5, rfl, E5, _, _⟩ := OwnB.form' p2
  refine ⟨_, rfl, bp, ?_⟩
  have hB := hB.below bp
  have hr := hr.below bp
  have K1 := K1.below bp
  have K2 := K2.below bp
  try have p1 := OwnB.below p1 bp
  have bb := bb.thenB' bp
  (try simp only [Act.put, List.setIfInBounds_toArray]); (try simp only [List.set_cons_succ]); (try simp only [List.set_cons_zero])
  refine r_flt RB_refl 5 38 #[true, true, true, true, true, true, false, false, false, false, false, false, false, false, false, false, false, false] (by simp only [List.getElem?_toArray, List.getElem?_cons_succ, List.getElem?_cons_zero]; rfl) (by rfl) (by kernel_rfl) (by kernel_rfl) (by kernel_rfl) (fun _ _ _ _ h => h) rfl (by rfl) ?_
  apply Exists.intro
  apply And.intro
  · intro W hW
    have s := str_inB p2 E5.out hW
    go_simp; rfl
  (try simp only [Act.put, List.setIfInBounds_toArray]); (try simp only [List.set_cons_succ]); (try simp only [List.set_cons_zero])
  refine r_flt RB_refl 6 39 #[true, true, true, true, true, true, true, false, false, false, false, false, false, false, false, false, false, false] (by simp only [List.getElem?_toArray, List.getElem?_cons_succ, List.getElem?_cons_zero]; rfl) (by rfl) (by kernel_rfl) (by kernel_rfl) (by kernel_rfl) (fun _ _ _ _ h => h) rfl (by rfl) ?_
  apply Exists.intro
  apply And.intro
  · intro W hW
    first | (go_simp; with_reducible rfl) | go_simp
  (try simp only [Act.put, List.setIfInBounds_toArray]); (try simp only [List.set_cons_succ]); (try simp only [List.set_cons_zero])
  refine r_flt RB_refl 7 40 #[true, true, true, true, true, true, true, true, false, false, false, false, false, false, false, false, false, false] (by simp only [List.getElem?_toArray, List.getElem?_cons_succ, List.getElem?_cons_zero]; rfl) (by rfl) (by kernel_rfl) (by kernel_rfl) (by kernel_rfl) (fun _ _ _ _ h => h) rfl (by rfl) ?_
  apply Exists.intro
  apply And.intro
  · intro W hW
    first | (go_simp; with_reducible rfl) | go_simp
  (try simp only [Act.put, List.setIfInBounds_toArray]); (try simp only [List.set_cons_succ]); (try simp only [List.set_cons_zero])
  refine r_flt RB_refl 8 41 #[true, true, true, true, true, true, true, true, true, false, false, false, false, false, false, false, false, false] (by simp only [List.getElem?_toArray, List.getElem?_cons_succ, List.getElem?_cons_zero]; rfl) (by rfl) (by kernel_rfl) (by kernel_rfl) (by kernel_rfl) (fun _ _ _ _ h => h) rfl (by rfl) ?_
  apply Exists.intro
  apply And.intro
  · intro W hW
    first | (go_simp; with_reducible rfl) | go_simp
  (try simp only [Act.put, List.setIfInBounds_toArray]); (try simp only [List.set_cons_succ]); (try simp only [List.set_cons_zero])
  refine r_flt RB_refl 9 42 #[true, true, true, true, true, true, true, true, true, true, false, false, false, false, false, false, false, false] (by simp only [List.getElem?_toArray, List.getElem?_cons_succ, List.getElem?_cons_zero]; rfl) (by rfl) (by kernel_rfl) (by kernel_rfl) (by kernel_rfl) (fun _ _ _ _ h => h) rfl (by rfl) ?_
  apply Exists.intro
  apply And.intro
  · intro W hW
    first | (go_simp; with_reducible rfl) | go_simp
  (try simp only [Act.put, List.setIfInBounds_toArray]); (try simp only [List.set_cons_succ]); (try simp only [List.set_cons_zero])
  refine r_flt RB_refl 10 43 #[true, true, true, true, true, true, true, true, true, true, true, false, false, false, false, false, false, false] (by simp only [List.getElem?_toArray, List.getElem?_cons_succ, List.getElem?_cons_zero]; rfl) (by rfl) (by kernel_rfl) (by kernel_rfl) (by kernel_rfl) (fun _ _ _ _ h => h) rfl (by rfl) ?_
  apply Exists.intro
  apply And.intro
  · intro W hW
    first | (go_simp; with_reducible rfl) | go_simp
  (try simp only [Act.put, List.setIfInBounds_toArray]); (try simp only [List.set_cons_succ]); (try simp only [List.set_cons_zero])
  refine r_flt RB_refl 11 44 #[true, true, true, true, true, true, true, true, true, true, true, true, false, false, false, false, false, false] (by simp only [List.getElem?_toArray, List.getElem?_cons_succ, List.getElem?_cons_zero]; rfl) (by rfl) (by kernel_rfl) (by kernel_rfl) (by kernel_rfl) (fun _ _ _ _ h => h) rfl (by rfl) ?_
  apply Exists.intro
  apply And.intro
  · intro W hW
    first | (go_simp; with_reducible rfl) | go_simp
  (try simp only [Act.put, List.setIfInBounds_toArray]); (try simp only [List.set_cons_succ]); (try simp only [List.set_cons_zero])
  refine r_flt RB_refl 12 45 #[true, true, true, true, true, true, true, true, true, true, true, true, true, false, false, false, false, false] (by simp only [List.getElem?_toArray, List.getElem?_cons_succ, List.getElem?_cons_zero]; rfl) (by rfl) (by kernel_rfl) (by kernel_rfl) (by kernel_rfl) (fun _ _ _ _ h => h) rfl (by rfl) ?_
  apply Exists.intro
  apply And.intro
  · intro W hW
    first | (go_simp; with_reducible rfl) | go_simp
  (try simp only [Act.put, List.setIfInBounds_toArray]); (try simp only [List.set_cons_succ]); (try simp only [List.set_cons_zero])
  refine r_flt RB_refl 13 46 #[true, true, true, true, true, true, true, true, true, true, true, true, true, true, false, false, false, false] (by simp only [List.getElem?_toArray, List.getElem?_cons_succ, List.getElem?_cons_zero]; rfl) (by rfl) (by kernel_rfl) (by kernel_rfl) (by kernel_rfl) (fun _ _ _ _ h => h) rfl (by rfl) ?_
  apply Exists.intro
  apply And.intro
  · intro W hW
    exact exec_load_row rfl rfl (K1.B.below hW) Try.underlying27 (by rw [q1]; exact infoH)
  (try simp only [Act.put, List.setIfInBounds_toArray]); (try simp only [List.set_cons_succ]); (try simp only [List.set_cons_zero])
  refine r_flt RB_refl 14 47 #[true, true, true, true, true, true, true, true, true, true, true, true, true, true, true, false, false, false] (by simp only [List.getElem?_toArray, List.getElem?_cons_succ, List.getElem?_cons_zero]; rfl) (by rfl) (by kernel_rfl) (by kernel_rfl) (by kernel_rfl) (fun _ _ _ _ h => h) rfl (by rfl) ?_
  apply Exists.intro
  apply And.intro
  · intro W hW
    exact exec_load_row rfl rfl (K2.B.below hW) Try.underlying27 (by rw [q2]; exact infoH)
  (try simp only [Act.put, List.setIfInBounds_toArray]); (try simp only [List.set_cons_succ]); (try simp only [List.set_cons_zero])
  refine r_one RB_trans 15 (by kernel_rfl) ?_
  refine alt_call 48 #[true, true, true, true, true, true, true, true, true, true, true, true, true, true, true, true, false, false] (by simp only [List.getElem?_toArray, List.getElem?_cons_succ, List.getElem?_cons_zero]; rfl) (by rfl) rfl (by rfl) (by go_simp; first | exact ⟨rfl, rfl⟩ | rfl) ?_
  with_reducible refine (same_any K1 K2 (by rw [hp1, hp2]) (by rw [hp1]; exact hb1)).mono ?_
  rintro e' w6 ⟨rfl, bi⟩
  refine ⟨_, rfl, bi, ?_⟩
  have bb := bb.thenB' bi
  (try simp only [Act.put, List.setIfInBounds_toArray]); (try simp only [List.set_cons_succ]); (try simp only [List.set_cons_zero])
  refine r_flt RB_refl 16 49 #[true, true, true, true, true, true, true, true, true, true, true, true, true, true, true, true, true, false] (by simp only [List.getElem?_toArray, List.getElem?_cons_succ, List.getElem?_cons_zero]; rfl) (by rfl) (by kernel_rfl) (by kernel_rfl) (by kernel_rfl) (fun _ _ _ _ h => h) rfl (by rfl) ?_
  apply Exists.intro
  apply And.intro
  · intro W hW
    first | (go_simp; with_reducible rfl) | go_simp
  (try simp only [Act.put, List.setIfInBounds_toArray]); (try simp only [List.set_cons_succ]); (try simp only [List.set_cons_zero])
  refine r_flt RB_refl 17 4 #[true, true, true, true, true, true, true, true, true, true, true, true, true, true, true, true, true, true] (by simp only [List.getElem?_toArray, List.getElem?_cons_succ, List.getElem?_cons_zero]; rfl) (by rfl) (by kernel_rfl) (by kernel_rfl) (by kernel_rfl) (fun _ _ _ _ h => h) rfl (by rfl) ?_
  apply Exists.intro
  apply And.intro
  · intro W hW
    first | (go_simp; with_reducible rfl) | go_simp
  (try simp only [Act.put, List.setIfInBounds_toArray]); (try simp only [List.set_cons_succ]); (try simp only [List.set_cons_zero])
  refine r_done (by kernel_rfl) ?_
  go_wp2_with fail
  go_ret
  exact ⟨rfl, bb⟩
end Go.Proofs.Ytpgfhbkggchliaa
