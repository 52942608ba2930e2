/- An image behind an operation: a drop, back to a snapshot; any operation. -/
import Derived.Test.YtcdodchjgadcoaaAbI
import Derived.Deep.CutRange
import Derived.Deep.CutBlock
namespace Go.Proofs.Ytcdodchjgadcoaa
open Go.RowKit
set_option linter.unusedVariables false
set_option maxRecDepth 100000

theorem ownB_eq (A : Option Addr) (n m c d : Nat) : (Value.slice A n c).ownBlock = (Value.slice A m d).ownBlock := by
  rcases A with _ | ⟨g, o, s⟩
  · rfl
  · cases o <;> cases s <;> rfl
theorem OwnIm.less {w w' : World} {B : Nat} {i : ImV} (k : OwnIm w B i) (m : Mod (fun b => (Value.slice i.CA i.S.length i.cc).ownBlock = some b) w w') {L : List CpV} (hL : ∀ s ∈ L, s ∈ i.S) (o : OwnCp w' B (.slice i.CA L.length i.cc) L) : OwnIm w' B ⟨i.DA, i.d, i.dc, i.CA, L, i.cc, i.last⟩ := by
  refine ⟨o, OwnB.mod k.dat m fun j hj hx => k.ne j hx hj, fun b hb => k.ne b (by rw [← hb]; exact ownB_eq _ _ _ _ _), fun s hs => ((k.cp s (hL s hs)).mod m fun b hb hx => hb.2.1 hx).imp fun b _ hb => ⟨hb.1, fun e => hb.2.1 (by rw [← e]; exact ownB_eq _ _ _ _ _), hb.2.2⟩⟩
theorem pureC_erase (L : List CpV) (k : Nat) : pureC (L.eraseIdx k) = (pureC L).eraseIdx k := by
  unfold pureC
  rw [erase_eq, List.map_append, List.map_take, List.map_drop, List.eraseIdx_eq_take_drop_succ]
theorem pureC_getD (L : List CpV) (k : Nat) (h : k < L.length) : (pureC L).getD k (0, []) = (L[k].id, L[k].m) := by
  rw [List.getD_eq_getElem?_getD, List.getElem?_eq_getElem (by rw [pureC_len]; exact h), pureC_at L k h]; rfl

set_option maxHeartbeats 8000000 in
set_option maxRecDepth 100000 in
theorem Do_x (D De : Nat → Prop) (i : ImV) (e : E7) (A : Option Addr) (c : Nat) (w : World) (hr : ImR w D i) (hrd : RdB w De A e.data) (hdc : e.data.length ≤ c) (hcm : c ≤ 9223372036854775807) (hm : mayI i.p = true) (hme : mayE e = true) (hk : e.kind = 5) :
    Calls Try.prog 18 #[.agg (imA i), enV e A c] w fun x w' => ∃ j : ImV, x = .returned (.tuple #[.agg (imA j), .int .i64 (doP i.p e).2.1, .int .i64 (doP i.p e).2.2]) ∧ j.p = (doP i.p e).1 ∧ OwnIm w' w.heap.size j ∧ Below w.heap.size w w' := by
  obtain ⟨hB, hE, hQ, bb, hs0⟩ := do_pre i e A c w
  have hr0 := hr.below bb
  have hck := Check18_any D i _ hr0
  have hce := fun w => Check_any e A c w
  have hent : ∀ (args : Array Value) (w : World), (callFunc 32 args).run Try.prog w = .ok (.enter 32 args) w := Go.Proofs.enters_of Try.func32 (by kernel_rfl) rfl
  have hbd := mayI_bd hm
  have hcb := copiesO_bd _ _ _ hbd.2.2.2.2
  have hp := of_decide_eq_true (show decide (mayP e) = true from hme)
  have hown := fun W (hr : ImR W D i) => own18_any D i W hr (by have := hbd.1; show i.p.d.length ≤ 1000; omega) (by have := hbd.2.1; unfold ImV.p at this; rw [pureC_len] at this; omega) (fun s hs => by
    have := (hcb (s.id, s.m) (List.mem_map.2 ⟨s, hs, rfl⟩)).1
    dsimp only at this
    omega)
  have E0 := doP_c hm hme
  rw [hm, show eno true 1 = 0 from rfl] at hck
  rw [hme, show errE true = 0 from rfl] at hce
  have hcb' := fun s hs => (hcb s hs).1
  clear hm hme hcb
  obtain ⟨sq, ow, kd, off, len, sn, data⟩ := e
  dsimp only at *
  have hl0 : i.p.d.length ≤ 512 := hbd.1
  have hS0 : i.p.S.length ≤ 4 := hbd.2.1
  have hla0 : 0 ≤ i.p.last ∧ i.p.last ≤ 100 := ⟨hbd.2.2.1, hbd.2.2.2.1⟩
  clear hbd
  unfold mayP at hp
  dsimp only at hp
  subst hk
  clear hp
  rw [if_neg (by decide), if_neg (by decide), if_neg (by decide), if_neg (by decide)] at E0
  unfold enV at *
  unfold imA enA zI3 at *
  dsimp only at *
  generalize hw0 : ((w.alloc (.cells #[.slice i.DA i.d.length i.dc, .slice i.CA i.S.length i.cc, .int .i64 i.last] 25)).alloc (.cells #[.int .i64 sq, .int .i64 ow, .int .i64 5, .int .i64 off, .int .i64 len, .int .i64 sn, .slice A data.length c] 41)).alloc (.cells #[.slice none 0 0, .slice none 0 0, .int .i64 0] 25) = w0 at *
  go_enter Try.func18, Try.ntmps18
  go_wp2_with first
    | (with_reducible show wpList _ _ _ _ _ _
       refine wpList_load_row rfl 25 (.tmp 2) rfl w.heap.size rfl 25 _ (0, 0) _ hB Try.underlying25 rfl infoIm ?_)
  refine hck.mono ?_
  clear hck hw0
  rintro e w2 ⟨rfl, b2⟩
  replace hB := hB.below b2
  replace hE := hE.below b2
  replace hQ := hQ.below b2
  replace hr0 := hr0.below b2
  replace bb := bb.thenB' b2
  have hs2 : w.heap.size + 3 ≤ w2.heap.size := by have := b2.size; omega
  clear b2
  go_wp2_with first
    | (with_reducible show wpList _ _ _ _ _ _
       refine wpList_load_row rfl 41 (.tmp 3) rfl (w.heap.size + 1) rfl 41 _ (0, 0) _ hE Try.underlying41 rfl infoEy ?_)
  refine (hce w2).mono ?_
  clear hce
  rintro e w3 ⟨rfl, b3⟩
  replace hB := hB.below b3
  replace hE := hE.below b3
  replace hQ := hQ.below b3
  replace hr0 := hr0.below b3
  replace bb := bb.thenB' b3
  have hs3 : w.heap.size + 3 ≤ w3.heap.size := by have := b3.size; omega
  clear b3
  have hown := hown w3 hr0
  go_wp2_with first
    | (with_reducible show wpList _ _ _ _ _ _
       refine wpList_load_row rfl 25 (.tmp 2) rfl w.heap.size rfl 25 _ (0, 0) _ hB Try.underlying25 rfl infoIm ?_)
  refine hown.mono ?_
  clear hown
  rintro e w4 ⟨j, rfl, hjp, hO, b4⟩
  replace hB := hB.below b4
  replace hE := hE.below b4
  replace hQ := hQ.below b4
  replace bb := bb.thenB' b4
  replace hO := hO.low hs3
  have hs4 : w.heap.size + 3 ≤ w4.heap.size := by have := b4.size; omega
  clear b4 hr0
  rw [← hjp] at E0 hl0 hS0 hla0
  obtain ⟨A1, d, dc, C1, S, cc, la⟩ := j
  have HJP : Hid ((⟨d, pureC S, la⟩ : PI) = i.p) := hjp
  clear hjp
  unfold ImV.p at E0 hl0 hS0 hla0
  dsimp only at E0 hl0 hS0 hla0
  dsimp only
  obtain ⟨A9, c9, e1, hdl, hdm⟩ := OwnB.form hO.dat
  injection e1 with e8 e9 e1
  subst e1
  clear e8 e9 A9
  dsimp only at hdl hdm
  unfold maxLen at hdm
  rw [← ids_p S] at E0
  rw [pureC_len] at hS0
  have hfb := findO_bd (idsO S) sn
  rw [ids_len] at hfb
  have hfd := fun W (h : ImR W (fun b => w.heap.size + 3 ≤ b) ⟨A1, d, dc, C1, S, cc, la⟩) => find_any _ ⟨A1, d, dc, C1, S, cc, la⟩ sn W h
  unfold imA at hfd
  dsimp only at hfd
  generalize findO (idsO S) sn = r at *
  go_upto_region 8 with first
    | (with_reducible show wpList _ _ _ _ _ _
       refine wpList_rowB rfl 25 (.tmp 2) (.tmp 30) rfl w.heap.size 25 _ (imA ⟨A1, d, dc, C1, S, cc, la⟩) rfl rfl hB infoIm rfl (imA_ok _) ?_
       intro w5 hB5 m5
       replace hB5 : Blk w5 w.heap.size 25 #[.slice A1 d.length dc, .slice C1 S.length cc, .int .i64 la] := hB5
       have hE5 := hE.mod m5 (by omega)
       have c1 := hB5.cell 0
       have c2 := hB5.cell 1
       have c3 := hB5.cell 2
       have k1 := hE5.cell 2
       have k2 := hE5.cell 3
       have k3 := hE5.cell 4
       have k4 := hE5.cell 5
       have k5 := hE5.cell 6
       simp at c1 c2 c3 k1 k2 k3 k4 k5)
  have hQ5 := hQ.mod m5 (by omega)
  replace bb := bb.thenM m5 bb.size (fun i hi e => by omega)
  replace hO := hO.mod m5 (fun i e => by omega)
  have hs5 : w.heap.size + 3 ≤ w5.heap.size := by have := m5.size; omega
  clear hB hE hQ m5 c1 c2 c3 k1 k2 k3 k4 k5
  have c1 := hB5.cell 0
  have c2 := hB5.cell 1
  have c3 := hB5.cell 2
  have k1 := hE5.cell 2
  have k2 := hE5.cell 3
  have k3 := hE5.cell 4
  have k4 := hE5.cell 5
  have k5 := hE5.cell 6
  simp at c1 c2 c3 k1 k2 k3 k4 k5
  have hfd := hfd w5 hO.rd
  go_upto_region 32 with fail
  go_wp2_with first
    | (with_reducible show wpList _ _ _ _ _ _
       refine wpList_load_row rfl 25 (.tmp 2) rfl w.heap.size rfl 25 _ (0, 0) _ hB5 Try.underlying25 rfl infoIm ?_)
  refine hfd.mono ?_
  clear hfd c1 c2 c3 k1 k2 k3 k4 k5
  rintro e w6 ⟨rfl, b6⟩
  replace hB5 := hB5.below b6
  replace hE5 := hE5.below b6
  replace hQ5 := hQ5.below b6
  replace hO := hO.below b6
  replace bb := bb.thenB' b6
  replace hs5 : w.heap.size + 3 ≤ w6.heap.size := Nat.le_trans hs5 b6.size
  clear b6
  have c1 := hB5.cell 0
  have c2 := hB5.cell 1
  have c3 := hB5.cell 2
  have k1 := hE5.cell 2
  have k2 := hE5.cell 3
  have k3 := hE5.cell 4
  have k4 := hE5.cell 5
  have k5 := hE5.cell 6
  simp at c1 c2 c3 k1 k2 k3 k4 k5
  by_cases h1 : r < 0
  focus
    rw [if_pos h1] at E0
    have E := Lib.hid E0
    clear E0 hfb
    go_wp2_with fail
    refine (no18_any _ _).mono ?_
    rintro e w8 ⟨rfl, b8⟩
    have hQ := hQ5.below b8
    have bb := bb.thenB' b8
    unfold zI3
    go_wp2_with first
      | (with_reducible show wpList _ _ _ _ _ _
         refine wpList_rowB rfl 25 (.tmp 4) (.tmp 129) rfl (w.heap.size + 2) 25 _ zI3 rfl rfl hQ infoIm rfl (imA_ok ⟨none, [], 0, none, [], 0, 0⟩) ?_
         intro w4 hq4 m4)
    (try simp only [Exit.inBlock, Exit.then])
    refine bodyPost_ret (results_cell_tmp2 rfl _ _ (w.heap.size + 2) _ _ (0, 0) _ rfl hq4 Try.underlying25 rfl infoIm) rfl ?_
    rw [← HJP.out, E.out]
    exact ⟨⟨none, [], 0, none, [], 0, 0⟩, rfl, rfl, OwnIm.zero, bb.thenM m4 bb.size (fun i hi e => by omega)⟩
  rw [if_neg h1] at E0
  obtain ⟨k, rfl⟩ : ∃ k : Nat, r = (k : Int) := ⟨r.toNat, by omega⟩
  rw [Int.toNat_natCast] at E0
  have hk : k < S.length := by omega
  have h2 : ¬ (k : Int) < 0 := h1
  have h3 : (k : Int) < (S.length : Int) := by omega
  have h4 : (S.length : Int) ≤ 4 := by omega
  clear h1 hfb
  rw [if_pos trivial] at E0
  have E := Lib.hid E0
  clear E0
  have hob := fun i e => (World.ownsRow.lt hO.own i e).1
  dsimp only at hob
  have hdel := delete_any (w.heap.size + 3) C1 S cc k w6 hO.own hk (by omega)
  go_upto_region 37 with fail
  go_wp2_with fail
  refine hdel.mono ?_
  clear hdel
  rintro e w7 ⟨n, hn, rfl, o7, m7⟩
  have he : (S.eraseIdx k).length = n := by rw [List.length_eraseIdx, if_pos hk]; omega
  have hB7 := hB5.mod m7 (fun e => by have := hob _ e; omega)
  have hQ7 := hQ5.mod m7 (fun e => by have := hob _ e; omega)
  have hO7 := hO.less m7 (L := S.eraseIdx k) (fun s hs => List.mem_of_mem_eraseIdx hs) (by rw [he]; exact o7)
  have bb7 := bb.thenM m7 bb.size (fun i hi e => by have := hob i e; omega)
  dsimp only at hO7
  have HE := Lib.hid he
  clear he hn hB5 hE5 hQ5 hO bb m7 o7 c1 c2 c3 k1 k2 k3 k4 k5 hent
  go_upto_region 38 with first
    | (with_reducible show wpList _ _ _ _ _ _
       refine wpList_fldB rfl 23 (.tmp 149) (.tmp 148) rfl w.heap.size 1 25 _ (.slice C1 n cc) rfl rfl rfl infoC1 hB7 3 rfl (by decide) ?_
       intro w8 hB8 m8
       replace hB8 : Blk w8 w.heap.size 25 #[.slice A1 d.length dc, .slice C1 n cc, .int .i64 la] := hB8)
  have hQ8 := hQ7.mod m8 (by omega)
  have hO8 := hO7.mod m8 (fun i e => by omega)
  have bb8 := bb7.thenM m8 bb7.size (fun i hi e => by omega)
  rw [← HE.out] at hB8
  clear hB7 hQ7 hO7 bb7 m8
  generalize hSn : S.eraseIdx k = Sn at *
  have HSn := Lib.hid hSn
  clear hSn
  go_wp2_with first
    | (with_reducible show wpList _ _ _ _ _ _
       refine wpList_load_row rfl 25 (.tmp 2) rfl w.heap.size rfl 25 _ (0, 0) _ hB8 Try.underlying25 rfl infoIm ?_)
    | (with_reducible show wpList _ _ _ _ _ _
       refine wpList_rowB rfl 25 (.tmp 4) (.tmp 150) rfl (w.heap.size + 2) 25 _ (imA ⟨A1, d, dc, C1, Sn, cc, la⟩) rfl rfl hQ8 infoIm rfl (imA_ok _) ?_
       intro w9 hq9 m9)
  (try simp only [Exit.inBlock, Exit.then])
  refine bodyPost_ret (results_cell_tmp2 rfl _ _ (w.heap.size + 2) _ _ (0, 0) _ rfl hq9 Try.underlying25 rfl infoIm) rfl ?_
  rw [← HJP.out, E.out]
  exact ⟨⟨A1, d, dc, C1, Sn, cc, la⟩, rfl, by rw [← HSn.out]; show PI.mk d (pureC (S.eraseIdx k)) la = _; rw [pureC_erase], (hO8.mod m9 (fun i e => by omega)).low (by omega), bb8.thenM m9 bb8.size (fun i hi e => by omega)⟩

set_option maxHeartbeats 8000000 in
set_option maxRecDepth 100000 in
theorem Do_z (D De : Nat → Prop) (i : ImV) (e : E7) (A : Option Addr) (c : Nat) (w : World) (hr : ImR w D i) (hrd : RdB w De A e.data) (hdc : e.data.length ≤ c) (hcm : c ≤ 9223372036854775807) (hm : mayI i.p = true) (hme : mayE e = true) (hk : e.kind = 6) :
    Calls Try.prog 18 #[.agg (imA i), enV e A c] w fun x w' => ∃ j : ImV, x = .returned (.tuple #[.agg (imA j), .int .i64 (doP i.p e).2.1, .int .i64 (doP i.p e).2.2]) ∧ j.p = (doP i.p e).1 ∧ OwnIm w' w.heap.size j ∧ Below w.heap.size w w' := by
  obtain ⟨hB, hE, hQ, bb, hs0⟩ := do_pre i e A c w
  have hr0 := hr.below bb
  have hck := Check18_any D i _ hr0
  have hce := fun w => Check_any e A c w
  have hent : ∀ (args : Array Value) (w : World), (callFunc 32 args).run Try.prog w = .ok (.enter 32 args) w := Go.Proofs.enters_of Try.func32 (by kernel_rfl) rfl
  have hbd := mayI_bd hm
  have hcb := copiesO_bd _ _ _ hbd.2.2.2.2
  have hp := of_decide_eq_true (show decide (mayP e) = true from hme)
  have hown := fun W (hr : ImR W D i) => own18_any D i W hr (by have := hbd.1; show i.p.d.length ≤ 1000; omega) (by have := hbd.2.1; unfold ImV.p at this; rw [pureC_len] at this; omega) (fun s hs => by
    have := (hcb (s.id, s.m) (List.mem_map.2 ⟨s, hs, rfl⟩)).1
    dsimp only at this
    omega)
  have E0 := doP_c hm hme
  rw [hm, show eno true 1 = 0 from rfl] at hck
  rw [hme, show errE true = 0 from rfl] at hce
  have hcb' := fun s hs => (hcb s hs).1
  clear hm hme hcb
  obtain ⟨sq, ow, kd, off, len, sn, data⟩ := e
  dsimp only at *
  have hl0 : i.p.d.length ≤ 512 := hbd.1
  have hS0 : i.p.S.length ≤ 4 := hbd.2.1
  have hla0 : 0 ≤ i.p.last ∧ i.p.last ≤ 100 := ⟨hbd.2.2.1, hbd.2.2.2.1⟩
  clear hbd
  unfold mayP at hp
  dsimp only at hp
  subst hk
  clear hp
  rw [if_neg (by decide), if_neg (by decide), if_neg (by decide), if_neg (by decide)] at E0
  unfold enV at *
  unfold imA enA zI3 at *
  dsimp only at *
  generalize hw0 : ((w.alloc (.cells #[.slice i.DA i.d.length i.dc, .slice i.CA i.S.length i.cc, .int .i64 i.last] 25)).alloc (.cells #[.int .i64 sq, .int .i64 ow, .int .i64 6, .int .i64 off, .int .i64 len, .int .i64 sn, .slice A data.length c] 41)).alloc (.cells #[.slice none 0 0, .slice none 0 0, .int .i64 0] 25) = w0 at *
  go_enter Try.func18, Try.ntmps18
  go_wp2_with first
    | (with_reducible show wpList _ _ _ _ _ _
       refine wpList_load_row rfl 25 (.tmp 2) rfl w.heap.size rfl 25 _ (0, 0) _ hB Try.underlying25 rfl infoIm ?_)
  refine hck.mono ?_
  clear hck hw0
  rintro e w2 ⟨rfl, b2⟩
  replace hB := hB.below b2
  replace hE := hE.below b2
  replace hQ := hQ.below b2
  replace hr0 := hr0.below b2
  replace bb := bb.thenB' b2
  have hs2 : w.heap.size + 3 ≤ w2.heap.size := by have := b2.size; omega
  clear b2
  go_wp2_with first
    | (with_reducible show wpList _ _ _ _ _ _
       refine wpList_load_row rfl 41 (.tmp 3) rfl (w.heap.size + 1) rfl 41 _ (0, 0) _ hE Try.underlying41 rfl infoEy ?_)
  refine (hce w2).mono ?_
  clear hce
  rintro e w3 ⟨rfl, b3⟩
  replace hB := hB.below b3
  replace hE := hE.below b3
  replace hQ := hQ.below b3
  replace hr0 := hr0.below b3
  replace bb := bb.thenB' b3
  have hs3 : w.heap.size + 3 ≤ w3.heap.size := by have := b3.size; omega
  clear b3
  have hown := hown w3 hr0
  go_wp2_with first
    | (with_reducible show wpList _ _ _ _ _ _
       refine wpList_load_row rfl 25 (.tmp 2) rfl w.heap.size rfl 25 _ (0, 0) _ hB Try.underlying25 rfl infoIm ?_)
  refine hown.mono ?_
  clear hown
  rintro e w4 ⟨j, rfl, hjp, hO, b4⟩
  replace hB := hB.below b4
  replace hE := hE.below b4
  replace hQ := hQ.below b4
  replace bb := bb.thenB' b4
  replace hO := hO.low hs3
  have hs4 : w.heap.size + 3 ≤ w4.heap.size := by have := b4.size; omega
  clear b4 hr0
  rw [← hjp] at E0 hl0 hS0 hla0
  obtain ⟨A1, d, dc, C1, S, cc, la⟩ := j
  have HJP : Hid ((⟨d, pureC S, la⟩ : PI) = i.p) := hjp
  clear hjp
  unfold ImV.p at E0 hl0 hS0 hla0
  dsimp only at E0 hl0 hS0 hla0
  dsimp only
  obtain ⟨A9, c9, e1, hdl, hdm⟩ := OwnB.form hO.dat
  injection e1 with e8 e9 e1
  subst e1
  clear e8 e9 A9
  dsimp only at hdl hdm
  unfold maxLen at hdm
  rw [← ids_p S] at E0
  rw [pureC_len] at hS0
  have hfb := findO_bd (idsO S) sn
  rw [ids_len] at hfb
  have hfd := fun W (h : ImR W (fun b => w.heap.size + 3 ≤ b) ⟨A1, d, dc, C1, S, cc, la⟩) => find_any _ ⟨A1, d, dc, C1, S, cc, la⟩ sn W h
  unfold imA at hfd
  dsimp only at hfd
  generalize findO (idsO S) sn = r at *
  go_upto_region 8 with first
    | (with_reducible show wpList _ _ _ _ _ _
       refine wpList_rowB rfl 25 (.tmp 2) (.tmp 30) rfl w.heap.size 25 _ (imA ⟨A1, d, dc, C1, S, cc, la⟩) rfl rfl hB infoIm rfl (imA_ok _) ?_
       intro w5 hB5 m5
       replace hB5 : Blk w5 w.heap.size 25 #[.slice A1 d.length dc, .slice C1 S.length cc, .int .i64 la] := hB5
       have hE5 := hE.mod m5 (by omega)
       have c1 := hB5.cell 0
       have c2 := hB5.cell 1
       have c3 := hB5.cell 2
       have k1 := hE5.cell 2
       have k2 := hE5.cell 3
       have k3 := hE5.cell 4
       have k4 := hE5.cell 5
       have k5 := hE5.cell 6
       simp at c1 c2 c3 k1 k2 k3 k4 k5)
  have hQ5 := hQ.mod m5 (by omega)
  replace bb := bb.thenM m5 bb.size (fun i hi e => by omega)
  replace hO := hO.mod m5 (fun i e => by omega)
  have hs5 : w.heap.size + 3 ≤ w5.heap.size := by have := m5.size; omega
  clear hB hE hQ m5 c1 c2 c3 k1 k2 k3 k4 k5
  have c1 := hB5.cell 0
  have c2 := hB5.cell 1
  have c3 := hB5.cell 2
  have k1 := hE5.cell 2
  have k2 := hE5.cell 3
  have k3 := hE5.cell 4
  have k4 := hE5.cell 5
  have k5 := hE5.cell 6
  simp at c1 c2 c3 k1 k2 k3 k4 k5
  have hfd := hfd w5 hO.rd
  go_upto_region 32 with fail
  go_wp2_with first
    | (with_reducible show wpList _ _ _ _ _ _
       refine wpList_load_row rfl 25 (.tmp 2) rfl w.heap.size rfl 25 _ (0, 0) _ hB5 Try.underlying25 rfl infoIm ?_)
  refine hfd.mono ?_
  clear hfd c1 c2 c3 k1 k2 k3 k4 k5
  rintro e w6 ⟨rfl, b6⟩
  replace hB5 := hB5.below b6
  replace hE5 := hE5.below b6
  replace hQ5 := hQ5.below b6
  replace hO := hO.below b6
  replace bb := bb.thenB' b6
  replace hs5 : w.heap.size + 3 ≤ w6.heap.size := Nat.le_trans hs5 b6.size
  clear b6
  have c1 := hB5.cell 0
  have c2 := hB5.cell 1
  have c3 := hB5.cell 2
  have k1 := hE5.cell 2
  have k2 := hE5.cell 3
  have k3 := hE5.cell 4
  have k4 := hE5.cell 5
  have k5 := hE5.cell 6
  simp at c1 c2 c3 k1 k2 k3 k4 k5
  by_cases h1 : r < 0
  focus
    rw [if_pos h1] at E0
    have E := Lib.hid E0
    clear E0 hfb
    go_wp2_with fail
    refine (no18_any _ _).mono ?_
    rintro e w8 ⟨rfl, b8⟩
    have hQ := hQ5.below b8
    have bb := bb.thenB' b8
    unfold zI3
    go_wp2_with first
      | (with_reducible show wpList _ _ _ _ _ _
         refine wpList_rowB rfl 25 (.tmp 4) (.tmp 129) rfl (w.heap.size + 2) 25 _ zI3 rfl rfl hQ infoIm rfl (imA_ok ⟨none, [], 0, none, [], 0, 0⟩) ?_
         intro w4 hq4 m4)
    (try simp only [Exit.inBlock, Exit.then])
    refine bodyPost_ret (results_cell_tmp2 rfl _ _ (w.heap.size + 2) _ _ (0, 0) _ rfl hq4 Try.underlying25 rfl infoIm) rfl ?_
    rw [← HJP.out, E.out]
    exact ⟨⟨none, [], 0, none, [], 0, 0⟩, rfl, rfl, OwnIm.zero, bb.thenM m4 bb.size (fun i hi e => by omega)⟩
  rw [if_neg h1] at E0
  obtain ⟨k, rfl⟩ : ∃ k : Nat, r = (k : Int) := ⟨r.toNat, by omega⟩
  rw [Int.toNat_natCast] at E0
  have hk : k < S.length := by omega
  have h2 : ¬ (k : Int) < 0 := h1
  have h3 : (k : Int) < (S.length : Int) := by omega
  have h4 : (S.length : Int) ≤ 4 := by omega
  clear h1 hfb
  rw [if_neg (by decide), pureC_getD S k hk] at E0
  have E := Lib.hid E0
  clear E0
  obtain ⟨ad, rfl, d0, d1⟩ := (hO.own.rd).cp hk
  obtain ⟨rk, lk, mk⟩ := hO.cp S[k] (List.getElem_mem hk)
  have mk' : S[k].m.length ≤ big := by
    have := HJP.out
    have h0 : (S[k].id, S[k].m) ∈ i.p.S := by rw [← this]; exact List.mem_map.2 ⟨S[k], List.getElem_mem hk, rfl⟩
    have := (hcb' _ h0)
    dsimp only at this
    unfold big
    omega
  have hcl := cloneD_any _ S[k].A S[k].c S[k].m w6 rk mk'
  obtain ⟨x, hxe⟩ : ∃ x, x = S[k].m := ⟨_, rfl⟩
  rw [← hxe] at E d1 hcl
  clear rk lk mk mk' hxe
  generalize S[k].A = Ax at *
  generalize S[k].c = cx at *
  go_upto_region 36 with fail
  go_wp2_with fail
  refine hcl.mono ?_
  clear hcl
  rintro e w7 ⟨v7, rfl, o7, b7⟩
  obtain ⟨A9, c9, rfl, l9, m9⟩ := OwnB.form o7
  have hB7 := hB5.below b7
  have hQ7 := hQ5.below b7
  have hO7 := hO.newD b7 A9 x c9 o7 hs5
  have bb7 := bb.thenB' b7
  dsimp only at hO7
  clear hB5 hE5 hQ5 hO bb o7 b7 c1 c2 c3 k1 k2 k3 k4 k5 hent d0 d1
  go_upto_region 38 with first
    | (with_reducible show wpList _ _ _ _ _ _
       refine wpList_fldB rfl 22 (.tmp 142) (.tmp 141) rfl w.heap.size 0 25 _ (.slice A9 x.length c9) rfl rfl rfl infoD1 hB7 3 rfl (by decide) ?_
       intro w8 hB8 m8
       replace hB8 : Blk w8 w.heap.size 25 #[.slice A9 x.length c9, .slice (some ad) S.length cc, .int .i64 la] := hB8)
  have hQ8 := hQ7.mod m8 (by omega)
  have hO8 := hO7.mod m8 (fun i e => by omega)
  have bb8 := bb7.thenM m8 bb7.size (fun i hi e => by omega)
  clear hB7 hQ7 hO7 bb7 m8
  go_wp2_with first
    | (with_reducible show wpList _ _ _ _ _ _
       refine wpList_load_row rfl 25 (.tmp 2) rfl w.heap.size rfl 25 _ (0, 0) _ hB8 Try.underlying25 rfl infoIm ?_)
    | (with_reducible show wpList _ _ _ _ _ _
       refine wpList_rowB rfl 25 (.tmp 4) (.tmp 150) rfl (w.heap.size + 2) 25 _ (imA ⟨A9, x, c9, some ad, S, cc, la⟩) rfl rfl hQ8 infoIm rfl (imA_ok _) ?_
       intro w9 hq9 m9)
  (try simp only [Exit.inBlock, Exit.then])
  refine bodyPost_ret (results_cell_tmp2 rfl _ _ (w.heap.size + 2) _ _ (0, 0) _ rfl hq9 Try.underlying25 rfl infoIm) rfl ?_
  rw [← HJP.out, E.out]
  exact ⟨⟨A9, x, c9, some ad, S, cc, la⟩, rfl, rfl, (hO8.mod m9 (fun i e => by omega)).low (by omega), bb8.thenM m9 bb8.size (fun i hi e => by omega)⟩

theorem Do_any (D De : Nat → Prop) (i : ImV) (e : E7) (A : Option Addr) (c : Nat) (w : World) (hr : ImR w D i) (hrd : RdB w De A e.data) (hdc : e.data.length ≤ c) (hcm : c ≤ 9223372036854775807) :
    Calls Try.prog 18 #[.agg (imA i), enV e A c] w fun x w' => ∃ j : ImV, x = .returned (.tuple #[.agg (imA j), .int .i64 (doP i.p e).2.1, .int .i64 (doP i.p e).2.2]) ∧ j.p = (doP i.p e).1 ∧ OwnIm w' w.heap.size j ∧ Below w.heap.size w w' := by
  cases hm : mayI i.p
  · exact Do_a D De i e A c w hr hrd hdc hcm hm
  cases hme : mayE e
  · exact Do_b D De i e A c w hr hrd hdc hcm hm hme
  have hp := of_decide_eq_true (show decide (mayP e) = true from hme)
  unfold mayP at hp
  rcases hp.2 with h | h | h | h | ⟨h | h, _⟩
  · exact Do_w D De i e A c w hr hrd hdc hcm hm hme h.1
  · exact Do_d D De i e A c w hr hrd hdc hcm hm hme h.1
  · exact Do_r D De i e A c w hr hrd hdc hcm hm hme h.1
  · exact Do_s D De i e A c w hr hrd hdc hcm hm hme h
  · exact Do_x D De i e A c w hr hrd hdc hcm hm hme h
  · exact Do_z D De i e A c w hr hrd hdc hcm hm hme h
end Go.Proofs.Ytcdodchjgadcoaa
