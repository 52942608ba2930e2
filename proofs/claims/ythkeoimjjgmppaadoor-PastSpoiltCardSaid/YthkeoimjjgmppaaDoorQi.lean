/- Parts of the proof, joined: AbJ AbK AbL AbM. -/
import Derived.Test.YthkeoimjjgmppaaDoorQh
import Derived.Deep.CutRange
import Derived.Deep.CutBlock
import Derived.Lib.AppendZerosOnto
/- An image behind an operation: a drop, back to a snapshot; any operation. -/
namespace Go.Proofs.YthkeoimjjgmppaaDoor
open Go.RowKit
set_option linter.unusedVariables false
set_option maxRecDepth 100000

theorem ownB_eq (A : Option Addr) (n m c d : Nat) : (Value.slice A n c).ownBlock = (Value.slice A m d).ownBlock := by
  rcases A with _ | ⟨g, o, s⟩
  · rfl
  · cases o <;> cases s <;> rfl
theorem OwnIm.less {w w' : World} {B : Nat} {i : ImV} (k : OwnIm w B i) (m : Mod (fun b => (Value.slice i.CA i.S.length i.cc).ownBlock = some b) w w') {L : List CpV} (hL : ∀ s ∈ L, s ∈ i.S) (o : OwnCp w' B (.slice i.CA L.length i.cc) L) : OwnIm w' B ⟨i.DA, i.d, i.dc, i.CA, L, i.cc, i.last⟩ := by
  refine ⟨o, OwnB.mod k.dat m fun j hj hx => k.ne j hx hj, fun b hb => k.ne b (by rw [← hb]; exact ownB_eq _ _ _ _ _), fun s hs => ((k.cp s (hL s hs)).mod m fun b hb hx => hb.2.1 hx).imp fun b _ hb => ⟨hb.1, fun e => hb.2.1 (by rw [← e]; exact ownB_eq _ _ _ _ _), hb.2.2⟩⟩
theorem pureC_erase (L : List CpV) (k : Nat) : pureC (L.eraseIdx k) = (pureC L).eraseIdx k := by
  unfold pureC
  rw [erase_eq, List.map_append, List.map_take, List.map_drop, List.eraseIdx_eq_take_drop_succ]
theorem pureC_getD (L : List CpV) (k : Nat) (h : k < L.length) : (pureC L).getD k (0, []) = (L[k].id, L[k].m) := by
  rw [List.getD_eq_getElem?_getD, List.getElem?_eq_getElem (by rw [pureC_len]; exact h), pureC_at L k h]; rfl

set_option maxHeartbeats 8000000 in
set_option maxRecDepth 100000 in
theorem Do_x (D De : Nat → Prop) (i : ImV) (e : E7) (A : Option Addr) (c : Nat) (w : World) (hr : ImR w D i) (hrd : RdB w De A e.data) (hdc : e.data.length ≤ c) (hcm : c ≤ 9223372036854775807) (hm : mayI i.p = true) (hme : mayE e = true) (hk : e.kind = 5) :
    Calls Tryd.prog 30 #[.agg (imA i), enV e A c] w fun x w' => ∃ j : ImV, x = .returned (.tuple #[.agg (imA j), .int .i64 (doP i.p e).2.1, .int .i64 (doP i.p e).2.2]) ∧ j.p = (doP i.p e).1 ∧ OwnIm w' w.heap.size j ∧ Below w.heap.size w w' := by
  obtain ⟨hB, hE, hQ, bb, hs0⟩ := do_pre i e A c w
  have hr0 := hr.below bb
  have hck := Check18_any D i _ hr0
  have hce := fun w => Check_any e A c w
  have hent : ∀ (args : Array Value) (w : World), (callFunc 52 args).run Tryd.prog w = .ok (.enter 52 args) w := Go.Proofs.enters_of Tryd.func52 (by kernel_rfl) rfl
  have hbd := mayI_bd hm
  have hcb := copiesO_bd _ _ _ hbd.2.2.2.2
  have hp := of_decide_eq_true (show decide (mayP e) = true from hme)
  have hown := fun W (hr : ImR W D i) => own18_any D i W hr (by have := hbd.1; show i.p.d.length ≤ 1000; omega) (by have := hbd.2.1; unfold ImV.p at this; rw [pureC_len] at this; omega) (fun s hs => by
    have := (hcb (s.id, s.m) (List.mem_map.2 ⟨s, hs, rfl⟩)).1
    dsimp only at this
    omega)
  have E0 := doP_c hm hme
  rw [hm, show eno true 1 = 0 from rfl] at hck
  rw [hme, show errE true = 0 from rfl] at hce
  have hcb' := fun s hs => (hcb s hs).1
  clear hm hme hcb
  obtain ⟨sq, ow, kd, off, len, sn, data⟩ := e
  dsimp only at *
  have hl0 : i.p.d.length ≤ 512 := hbd.1
  have hS0 : i.p.S.length ≤ 4 := hbd.2.1
  have hla0 : 0 ≤ i.p.last ∧ i.p.last ≤ 100 := ⟨hbd.2.2.1, hbd.2.2.2.1⟩
  clear hbd
  unfold mayP at hp
  dsimp only at hp
  subst hk
  clear hp
  rw [if_neg (by decide), if_neg (by decide), if_neg (by decide), if_neg (by decide)] at E0
  unfold enV at *
  unfold imA enA zI3 at *
  dsimp only at *
  generalize hw0 : ((w.alloc (.cells #[.slice i.DA i.d.length i.dc, .slice i.CA i.S.length i.cc, .int .i64 i.last] 35)).alloc (.cells #[.int .i64 sq, .int .i64 ow, .int .i64 5, .int .i64 off, .int .i64 len, .int .i64 sn, .slice A data.length c] 32)).alloc (.cells #[.slice none 0 0, .slice none 0 0, .int .i64 0] 35) = w0 at *
  go_enter Tryd.func30, Tryd.ntmps30
  go_wp2_with first
    | (with_reducible show wpList _ _ _ _ _ _
       refine wpList_load_row rfl 35 (.tmp 2) rfl w.heap.size rfl 35 _ (0, 0) _ hB Tryd.underlying35 rfl infoIm ?_)
  refine hck.mono ?_
  clear hck hw0
  rintro e w2 ⟨rfl, b2⟩
  replace hB := hB.below b2
  replace hE := hE.below b2
  replace hQ := hQ.below b2
  replace hr0 := hr0.below b2
  replace bb := bb.thenB' b2
  have hs2 : w.heap.size + 3 ≤ w2.heap.size := by have := b2.size; omega
  clear b2
  go_wp2_with first
    | (with_reducible show wpList _ _ _ _ _ _
       refine wpList_load_row rfl 32 (.tmp 3) rfl (w.heap.size + 1) rfl 32 _ (0, 0) _ hE Tryd.underlying32 rfl infoEy ?_)
  refine (hce w2).mono ?_
  clear hce
  rintro e w3 ⟨rfl, b3⟩
  replace hB := hB.below b3
  replace hE := hE.below b3
  replace hQ := hQ.below b3
  replace hr0 := hr0.below b3
  replace bb := bb.thenB' b3
  have hs3 : w.heap.size + 3 ≤ w3.heap.size := by have := b3.size; omega
  clear b3
  have hown := hown w3 hr0
  go_wp2_with first
    | (with_reducible show wpList _ _ _ _ _ _
       refine wpList_load_row rfl 35 (.tmp 2) rfl w.heap.size rfl 35 _ (0, 0) _ hB Tryd.underlying35 rfl infoIm ?_)
  refine hown.mono ?_
  clear hown
  rintro e w4 ⟨j, rfl, hjp, hO, b4⟩
  replace hB := hB.below b4
  replace hE := hE.below b4
  replace hQ := hQ.below b4
  replace bb := bb.thenB' b4
  replace hO := hO.low hs3
  have hs4 : w.heap.size + 3 ≤ w4.heap.size := by have := b4.size; omega
  clear b4 hr0
  rw [← hjp] at E0 hl0 hS0 hla0
  obtain ⟨A1, d, dc, C1, S, cc, la⟩ := j
  have HJP : Hid ((⟨d, pureC S, la⟩ : PI) = i.p) := hjp
  clear hjp
  unfold ImV.p at E0 hl0 hS0 hla0
  dsimp only at E0 hl0 hS0 hla0
  dsimp only
  obtain ⟨A9, c9, e1, hdl, hdm⟩ := OwnB.form hO.dat
  injection e1 with e8 e9 e1
  subst e1
  clear e8 e9 A9
  dsimp only at hdl hdm
  unfold maxLen at hdm
  rw [← ids_p S] at E0
  rw [pureC_len] at hS0
  have hfb := findO_bd (idsO S) sn
  rw [ids_len] at hfb
  have hfd := fun W (h : ImR W (fun b => w.heap.size + 3 ≤ b) ⟨A1, d, dc, C1, S, cc, la⟩) => find_any _ ⟨A1, d, dc, C1, S, cc, la⟩ sn W h
  unfold imA at hfd
  dsimp only at hfd
  generalize findO (idsO S) sn = r at *
  go_upto_region 8 with first
    | (with_reducible show wpList _ _ _ _ _ _
       refine wpList_rowB rfl 35 (.tmp 2) (.tmp 30) rfl w.heap.size 35 _ (imA ⟨A1, d, dc, C1, S, cc, la⟩) rfl rfl hB infoIm rfl (imA_ok _) ?_
       intro w5 hB5 m5
       replace hB5 : Blk w5 w.heap.size 35 #[.slice A1 d.length dc, .slice C1 S.length cc, .int .i64 la] := hB5
       have hE5 := hE.mod m5 (by omega)
       have c1 := hB5.cell 0
       have c2 := hB5.cell 1
       have c3 := hB5.cell 2
       have k1 := hE5.cell 2
       have k2 := hE5.cell 3
       have k3 := hE5.cell 4
       have k4 := hE5.cell 5
       have k5 := hE5.cell 6
       simp at c1 c2 c3 k1 k2 k3 k4 k5)
  have hQ5 := hQ.mod m5 (by omega)
  replace bb := bb.thenM m5 bb.size (fun i hi e => by omega)
  replace hO := hO.mod m5 (fun i e => by omega)
  have hs5 : w.heap.size + 3 ≤ w5.heap.size := by have := m5.size; omega
  clear hB hE hQ m5 c1 c2 c3 k1 k2 k3 k4 k5
  have c1 := hB5.cell 0
  have c2 := hB5.cell 1
  have c3 := hB5.cell 2
  have k1 := hE5.cell 2
  have k2 := hE5.cell 3
  have k3 := hE5.cell 4
  have k4 := hE5.cell 5
  have k5 := hE5.cell 6
  simp at c1 c2 c3 k1 k2 k3 k4 k5
  have hfd := hfd w5 hO.rd
  go_upto_region 32 with fail
  go_wp2_with first
    | (with_reducible show wpList _ _ _ _ _ _
       refine wpList_load_row rfl 35 (.tmp 2) rfl w.heap.size rfl 35 _ (0, 0) _ hB5 Tryd.underlying35 rfl infoIm ?_)
  refine hfd.mono ?_
  clear hfd c1 c2 c3 k1 k2 k3 k4 k5
  rintro e w6 ⟨rfl, b6⟩
  replace hB5 := hB5.below b6
  replace hE5 := hE5.below b6
  replace hQ5 := hQ5.below b6
  replace hO := hO.below b6
  replace bb := bb.thenB' b6
  replace hs5 : w.heap.size + 3 ≤ w6.heap.size := Nat.le_trans hs5 b6.size
  clear b6
  have c1 := hB5.cell 0
  have c2 := hB5.cell 1
  have c3 := hB5.cell 2
  have k1 := hE5.cell 2
  have k2 := hE5.cell 3
  have k3 := hE5.cell 4
  have k4 := hE5.cell 5
  have k5 := hE5.cell 6
  simp at c1 c2 c3 k1 k2 k3 k4 k5
  by_cases h1 : r < 0
  focus
    rw [if_pos h1] at E0
    have E := Lib.hid E0
    clear E0 hfb
    go_wp2_with fail
    refine (no18_any _ _).mono ?_
    rintro e w8 ⟨rfl, b8⟩
    have hQ := hQ5.below b8
    have bb := bb.thenB' b8
    unfold zI3
    go_wp2_with first
      | (with_reducible show wpList _ _ _ _ _ _
         refine wpList_rowB rfl 35 (.tmp 4) (.tmp 129) rfl (w.heap.size + 2) 35 _ zI3 rfl rfl hQ infoIm rfl (imA_ok ⟨none, [], 0, none, [], 0, 0⟩) ?_
         intro w4 hq4 m4)
    (try simp only [Exit.inBlock, Exit.then])
    refine bodyPost_ret (results_cell_tmp2 rfl _ _ (w.heap.size + 2) _ _ (0, 0) _ rfl hq4 Tryd.underlying35 rfl infoIm) rfl ?_
    rw [← HJP.out, E.out]
    exact ⟨⟨none, [], 0, none, [], 0, 0⟩, rfl, rfl, OwnIm.zero, bb.thenM m4 bb.size (fun i hi e => by omega)⟩
  rw [if_neg h1] at E0
  obtain ⟨k, rfl⟩ : ∃ k : Nat, r = (k : Int) := ⟨r.toNat, by omega⟩
  rw [Int.toNat_natCast] at E0
  have hk : k < S.length := by omega
  have h2 : ¬ (k : Int) < 0 := h1
  have h3 : (k : Int) < (S.length : Int) := by omega
  have h4 : (S.length : Int) ≤ 4 := by omega
  clear h1 hfb
  rw [if_pos trivial] at E0
  have E := Lib.hid E0
  clear E0
  have hob := fun i e => (World.ownsRow.lt hO.own i e).1
  dsimp only at hob
  have hdel := delete_any (w.heap.size + 3) C1 S cc k w6 hO.own hk (by omega)
  go_upto_region 37 with fail
  go_wp2_with fail
  refine hdel.mono ?_
  clear hdel
  rintro e w7 ⟨n, hn, rfl, o7, m7⟩
  have he : (S.eraseIdx k).length = n := by rw [List.length_eraseIdx, if_pos hk]; omega
  have hB7 := hB5.mod m7 (fun e => by have := hob _ e; omega)
  have hQ7 := hQ5.mod m7 (fun e => by have := hob _ e; omega)
  have hO7 := hO.less m7 (L := S.eraseIdx k) (fun s hs => List.mem_of_mem_eraseIdx hs) (by rw [he]; exact o7)
  have bb7 := bb.thenM m7 bb.size (fun i hi e => by have := hob i e; omega)
  dsimp only at hO7
  have HE := Lib.hid he
  clear he hn hB5 hE5 hQ5 hO bb m7 o7 c1 c2 c3 k1 k2 k3 k4 k5 hent
  go_upto_region 38 with first
    | (with_reducible show wpList _ _ _ _ _ _
       refine wpList_fldB rfl 33 (.tmp 149) (.tmp 148) rfl w.heap.size 1 35 _ (.slice C1 n cc) rfl rfl rfl infoC1 hB7 3 rfl (by decide) ?_
       intro w8 hB8 m8
       replace hB8 : Blk w8 w.heap.size 35 #[.slice A1 d.length dc, .slice C1 n cc, .int .i64 la] := hB8)
  have hQ8 := hQ7.mod m8 (by omega)
  have hO8 := hO7.mod m8 (fun i e => by omega)
  have bb8 := bb7.thenM m8 bb7.size (fun i hi e => by omega)
  rw [← HE.out] at hB8
  clear hB7 hQ7 hO7 bb7 m8
  generalize hSn : S.eraseIdx k = Sn at *
  have HSn := Lib.hid hSn
  clear hSn
  go_wp2_with first
    | (with_reducible show wpList _ _ _ _ _ _
       refine wpList_load_row rfl 35 (.tmp 2) rfl w.heap.size rfl 35 _ (0, 0) _ hB8 Tryd.underlying35 rfl infoIm ?_)
    | (with_reducible show wpList _ _ _ _ _ _
       refine wpList_rowB rfl 35 (.tmp 4) (.tmp 150) rfl (w.heap.size + 2) 35 _ (imA ⟨A1, d, dc, C1, Sn, cc, la⟩) rfl rfl hQ8 infoIm rfl (imA_ok _) ?_
       intro w9 hq9 m9)
  (try simp only [Exit.inBlock, Exit.then])
  refine bodyPost_ret (results_cell_tmp2 rfl _ _ (w.heap.size + 2) _ _ (0, 0) _ rfl hq9 Tryd.underlying35 rfl infoIm) rfl ?_
  rw [← HJP.out, E.out]
  exact ⟨⟨A1, d, dc, C1, Sn, cc, la⟩, rfl, by rw [← HSn.out]; show PI.mk d (pureC (S.eraseIdx k)) la = _; rw [pureC_erase], (hO8.mod m9 (fun i e => by omega)).low (by omega), bb8.thenM m9 bb8.size (fun i hi e => by omega)⟩

set_option maxHeartbeats 8000000 in
set_option maxRecDepth 100000 in
theorem Do_z (D De : Nat → Prop) (i : ImV) (e : E7) (A : Option Addr) (c : Nat) (w : World) (hr : ImR w D i) (hrd : RdB w De A e.data) (hdc : e.data.length ≤ c) (hcm : c ≤ 9223372036854775807) (hm : mayI i.p = true) (hme : mayE e = true) (hk : e.kind = 6) :
    Calls Tryd.prog 30 #[.agg (imA i), enV e A c] w fun x w' => ∃ j : ImV, x = .returned (.tuple #[.agg (imA j), .int .i64 (doP i.p e).2.1, .int .i64 (doP i.p e).2.2]) ∧ j.p = (doP i.p e).1 ∧ OwnIm w' w.heap.size j ∧ Below w.heap.size w w' := by
  obtain ⟨hB, hE, hQ, bb, hs0⟩ := do_pre i e A c w
  have hr0 := hr.below bb
  have hck := Check18_any D i _ hr0
  have hce := fun w => Check_any e A c w
  have hent : ∀ (args : Array Value) (w : World), (callFunc 52 args).run Tryd.prog w = .ok (.enter 52 args) w := Go.Proofs.enters_of Tryd.func52 (by kernel_rfl) rfl
  have hbd := mayI_bd hm
  have hcb := copiesO_bd _ _ _ hbd.2.2.2.2
  have hp := of_decide_eq_true (show decide (mayP e) = true from hme)
  have hown := fun W (hr : ImR W D i) => own18_any D i W hr (by have := hbd.1; show i.p.d.length ≤ 1000; omega) (by have := hbd.2.1; unfold ImV.p at this; rw [pureC_len] at this; omega) (fun s hs => by
    have := (hcb (s.id, s.m) (List.mem_map.2 ⟨s, hs, rfl⟩)).1
    dsimp only at this
    omega)
  have E0 := doP_c hm hme
  rw [hm, show eno true 1 = 0 from rfl] at hck
  rw [hme, show errE true = 0 from rfl] at hce
  have hcb' := fun s hs => (hcb s hs).1
  clear hm hme hcb
  obtain ⟨sq, ow, kd, off, len, sn, data⟩ := e
  dsimp only at *
  have hl0 : i.p.d.length ≤ 512 := hbd.1
  have hS0 : i.p.S.length ≤ 4 := hbd.2.1
  have hla0 : 0 ≤ i.p.last ∧ i.p.last ≤ 100 := ⟨hbd.2.2.1, hbd.2.2.2.1⟩
  clear hbd
  unfold mayP at hp
  dsimp only at hp
  subst hk
  clear hp
  rw [if_neg (by decide), if_neg (by decide), if_neg (by decide), if_neg (by decide)] at E0
  unfold enV at *
  unfold imA enA zI3 at *
  dsimp only at *
  generalize hw0 : ((w.alloc (.cells #[.slice i.DA i.d.length i.dc, .slice i.CA i.S.length i.cc, .int .i64 i.last] 35)).alloc (.cells #[.int .i64 sq, .int .i64 ow, .int .i64 6, .int .i64 off, .int .i64 len, .int .i64 sn, .slice A data.length c] 32)).alloc (.cells #[.slice none 0 0, .slice none 0 0, .int .i64 0] 35) = w0 at *
  go_enter Tryd.func30, Tryd.ntmps30
  go_wp2_with first
    | (with_reducible show wpList _ _ _ _ _ _
       refine wpList_load_row rfl 35 (.tmp 2) rfl w.heap.size rfl 35 _ (0, 0) _ hB Tryd.underlying35 rfl infoIm ?_)
  refine hck.mono ?_
  clear hck hw0
  rintro e w2 ⟨rfl, b2⟩
  replace hB := hB.below b2
  replace hE := hE.below b2
  replace hQ := hQ.below b2
  replace hr0 := hr0.below b2
  replace bb := bb.thenB' b2
  have hs2 : w.heap.size + 3 ≤ w2.heap.size := by have := b2.size; omega
  clear b2
  go_wp2_with first
    | (with_reducible show wpList _ _ _ _ _ _
       refine wpList_load_row rfl 32 (.tmp 3) rfl (w.heap.size + 1) rfl 32 _ (0, 0) _ hE Tryd.underlying32 rfl infoEy ?_)
  refine (hce w2).mono ?_
  clear hce
  rintro e w3 ⟨rfl, b3⟩
  replace hB := hB.below b3
  replace hE := hE.below b3
  replace hQ := hQ.below b3
  replace hr0 := hr0.below b3
  replace bb := bb.thenB' b3
  have hs3 : w.heap.size + 3 ≤ w3.heap.size := by have := b3.size; omega
  clear b3
  have hown := hown w3 hr0
  go_wp2_with first
    | (with_reducible show wpList _ _ _ _ _ _
       refine wpList_load_row rfl 35 (.tmp 2) rfl w.heap.size rfl 35 _ (0, 0) _ hB Tryd.underlying35 rfl infoIm ?_)
  refine hown.mono ?_
  clear hown
  rintro e w4 ⟨j, rfl, hjp, hO, b4⟩
  replace hB := hB.below b4
  replace hE := hE.below b4
  replace hQ := hQ.below b4
  replace bb := bb.thenB' b4
  replace hO := hO.low hs3
  have hs4 : w.heap.size + 3 ≤ w4.heap.size := by have := b4.size; omega
  clear b4 hr0
  rw [← hjp] at E0 hl0 hS0 hla0
  obtain ⟨A1, d, dc, C1, S, cc, la⟩ := j
  have HJP : Hid ((⟨d, pureC S, la⟩ : PI) = i.p) := hjp
  clear hjp
  unfold ImV.p at E0 hl0 hS0 hla0
  dsimp only at E0 hl0 hS0 hla0
  dsimp only
  obtain ⟨A9, c9, e1, hdl, hdm⟩ := OwnB.form hO.dat
  injection e1 with e8 e9 e1
  subst e1
  clear e8 e9 A9
  dsimp only at hdl hdm
  unfold maxLen at hdm
  rw [← ids_p S] at E0
  rw [pureC_len] at hS0
  have hfb := findO_bd (idsO S) sn
  rw [ids_len] at hfb
  have hfd := fun W (h : ImR W (fun b => w.heap.size + 3 ≤ b) ⟨A1, d, dc, C1, S, cc, la⟩) => find_any _ ⟨A1, d, dc, C1, S, cc, la⟩ sn W h
  unfold imA at hfd
  dsimp only at hfd
  generalize findO (idsO S) sn = r at *
  go_upto_region 8 with first
    | (with_reducible show wpList _ _ _ _ _ _
       refine wpList_rowB rfl 35 (.tmp 2) (.tmp 30) rfl w.heap.size 35 _ (imA ⟨A1, d, dc, C1, S, cc, la⟩) rfl rfl hB infoIm rfl (imA_ok _) ?_
       intro w5 hB5 m5
       replace hB5 : Blk w5 w.heap.size 35 #[.slice A1 d.length dc, .slice C1 S.length cc, .int .i64 la] := hB5
       have hE5 := hE.mod m5 (by omega)
       have c1 := hB5.cell 0
       have c2 := hB5.cell 1
       have c3 := hB5.cell 2
       have k1 := hE5.cell 2
       have k2 := hE5.cell 3
       have k3 := hE5.cell 4
       have k4 := hE5.cell 5
       have k5 := hE5.cell 6
       simp at c1 c2 c3 k1 k2 k3 k4 k5)
  have hQ5 := hQ.mod m5 (by omega)
  replace bb := bb.thenM m5 bb.size (fun i hi e => by omega)
  replace hO := hO.mod m5 (fun i e => by omega)
  have hs5 : w.heap.size + 3 ≤ w5.heap.size := by have := m5.size; omega
  clear hB hE hQ m5 c1 c2 c3 k1 k2 k3 k4 k5
  have c1 := hB5.cell 0
  have c2 := hB5.cell 1
  have c3 := hB5.cell 2
  have k1 := hE5.cell 2
  have k2 := hE5.cell 3
  have k3 := hE5.cell 4
  have k4 := hE5.cell 5
  have k5 := hE5.cell 6
  simp at c1 c2 c3 k1 k2 k3 k4 k5
  have hfd := hfd w5 hO.rd
  go_upto_region 32 with fail
  go_wp2_with first
    | (with_reducible show wpList _ _ _ _ _ _
       refine wpList_load_row rfl 35 (.tmp 2) rfl w.heap.size rfl 35 _ (0, 0) _ hB5 Tryd.underlying35 rfl infoIm ?_)
  refine hfd.mono ?_
  clear hfd c1 c2 c3 k1 k2 k3 k4 k5
  rintro e w6 ⟨rfl, b6⟩
  replace hB5 := hB5.below b6
  replace hE5 := hE5.below b6
  replace hQ5 := hQ5.below b6
  replace hO := hO.below b6
  replace bb := bb.thenB' b6
  replace hs5 : w.heap.size + 3 ≤ w6.heap.size := Nat.le_trans hs5 b6.size
  clear b6
  have c1 := hB5.cell 0
  have c2 := hB5.cell 1
  have c3 := hB5.cell 2
  have k1 := hE5.cell 2
  have k2 := hE5.cell 3
  have k3 := hE5.cell 4
  have k4 := hE5.cell 5
  have k5 := hE5.cell 6
  simp at c1 c2 c3 k1 k2 k3 k4 k5
  by_cases h1 : r < 0
  focus
    rw [if_pos h1] at E0
    have E := Lib.hid E0
    clear E0 hfb
    go_wp2_with fail
    refine (no18_any _ _).mono ?_
    rintro e w8 ⟨rfl, b8⟩
    have hQ := hQ5.below b8
    have bb := bb.thenB' b8
    unfold zI3
    go_wp2_with first
      | (with_reducible show wpList _ _ _ _ _ _
         refine wpList_rowB rfl 35 (.tmp 4) (.tmp 129) rfl (w.heap.size + 2) 35 _ zI3 rfl rfl hQ infoIm rfl (imA_ok ⟨none, [], 0, none, [], 0, 0⟩) ?_
         intro w4 hq4 m4)
    (try simp only [Exit.inBlock, Exit.then])
    refine bodyPost_ret (results_cell_tmp2 rfl _ _ (w.heap.size + 2) _ _ (0, 0) _ rfl hq4 Tryd.underlying35 rfl infoIm) rfl ?_
    rw [← HJP.out, E.out]
    exact ⟨⟨none, [], 0, none, [], 0, 0⟩, rfl, rfl, OwnIm.zero, bb.thenM m4 bb.size (fun i hi e => by omega)⟩
  rw [if_neg h1] at E0
  obtain ⟨k, rfl⟩ : ∃ k : Nat, r = (k : Int) := ⟨r.toNat, by omega⟩
  rw [Int.toNat_natCast] at E0
  have hk : k < S.length := by omega
  have h2 : ¬ (k : Int) < 0 := h1
  have h3 : (k : Int) < (S.length : Int) := by omega
  have h4 : (S.length : Int) ≤ 4 := by omega
  clear h1 hfb
  rw [if_neg (by decide), pureC_getD S k hk] at E0
  have E := Lib.hid E0
  clear E0
  obtain ⟨ad, rfl, d0, d1⟩ := (hO.own.rd).cp hk
  obtain ⟨rk, lk, mk⟩ := hO.cp S[k] (List.getElem_mem hk)
  have mk' : S[k].m.length ≤ big := by
    have := HJP.out
    have h0 : (S[k].id, S[k].m) ∈ i.p.S := by rw [← this]; exact List.mem_map.2 ⟨S[k], List.getElem_mem hk, rfl⟩
    have := (hcb' _ h0)
    dsimp only at this
    unfold big
    omega
  have hcl := cloneD_any _ S[k].A S[k].c S[k].m w6 rk mk'
  obtain ⟨x, hxe⟩ : ∃ x, x = S[k].m := ⟨_, rfl⟩
  rw [← hxe] at E d1 hcl
  clear rk lk mk mk' hxe
  generalize S[k].A = Ax at *
  generalize S[k].c = cx at *
  go_upto_region 36 with fail
  go_wp2_with fail
  refine hcl.mono ?_
  clear hcl
  rintro e w7 ⟨v7, rfl, o7, b7⟩
  obtain ⟨A9, c9, rfl, l9, m9⟩ := OwnB.form o7
  have hB7 := hB5.below b7
  have hQ7 := hQ5.below b7
  have hO7 := hO.newD b7 A9 x c9 o7 hs5
  have bb7 := bb.thenB' b7
  dsimp only at hO7
  clear hB5 hE5 hQ5 hO bb o7 b7 c1 c2 c3 k1 k2 k3 k4 k5 hent d0 d1
  go_upto_region 38 with first
    | (with_reducible show wpList _ _ _ _ _ _
       refine wpList_fldB rfl 23 (.tmp 142) (.tmp 141) rfl w.heap.size 0 35 _ (.slice A9 x.length c9) rfl rfl rfl infoD1 hB7 3 rfl (by decide) ?_
       intro w8 hB8 m8
       replace hB8 : Blk w8 w.heap.size 35 #[.slice A9 x.length c9, .slice (some ad) S.length cc, .int .i64 la] := hB8)
  have hQ8 := hQ7.mod m8 (by omega)
  have hO8 := hO7.mod m8 (fun i e => by omega)
  have bb8 := bb7.thenM m8 bb7.size (fun i hi e => by omega)
  clear hB7 hQ7 hO7 bb7 m8
  go_wp2_with first
    | (with_reducible show wpList _ _ _ _ _ _
       refine wpList_load_row rfl 35 (.tmp 2) rfl w.heap.size rfl 35 _ (0, 0) _ hB8 Tryd.underlying35 rfl infoIm ?_)
    | (with_reducible show wpList _ _ _ _ _ _
       refine wpList_rowB rfl 35 (.tmp 4) (.tmp 150) rfl (w.heap.size + 2) 35 _ (imA ⟨A9, x, c9, some ad, S, cc, la⟩) rfl rfl hQ8 infoIm rfl (imA_ok _) ?_
       intro w9 hq9 m9)
  (try simp only [Exit.inBlock, Exit.then])
  refine bodyPost_ret (results_cell_tmp2 rfl _ _ (w.heap.size + 2) _ _ (0, 0) _ rfl hq9 Tryd.underlying35 rfl infoIm) rfl ?_
  rw [← HJP.out, E.out]
  exact ⟨⟨A9, x, c9, some ad, S, cc, la⟩, rfl, rfl, (hO8.mod m9 (fun i e => by omega)).low (by omega), bb8.thenM m9 bb8.size (fun i hi e => by omega)⟩

theorem Do_any (D De : Nat → Prop) (i : ImV) (e : E7) (A : Option Addr) (c : Nat) (w : World) (hr : ImR w D i) (hrd : RdB w De A e.data) (hdc : e.data.length ≤ c) (hcm : c ≤ 9223372036854775807) :
    Calls Tryd.prog 30 #[.agg (imA i), enV e A c] w fun x w' => ∃ j : ImV, x = .returned (.tuple #[.agg (imA j), .int .i64 (doP i.p e).2.1, .int .i64 (doP i.p e).2.2]) ∧ j.p = (doP i.p e).1 ∧ OwnIm w' w.heap.size j ∧ Below w.heap.size w w' := by
  cases hm : mayI i.p
  · exact Do_a D De i e A c w hr hrd hdc hcm hm
  cases hme : mayE e
  · exact Do_b D De i e A c w hr hrd hdc hcm hm hme
  have hp := of_decide_eq_true (show decide (mayP e) = true from hme)
  unfold mayP at hp
  rcases hp.2 with h | h | h | h | ⟨h | h, _⟩
  · exact Do_w D De i e A c w hr hrd hdc hcm hm hme h.1
  · exact Do_d D De i e A c w hr hrd hdc hcm hm hme h.1
  · exact Do_r D De i e A c w hr hrd hdc hcm hm hme h.1
  · exact Do_s D De i e A c w hr hrd hdc hcm hm hme h
  · exact Do_x D De i e A c w hr hrd hdc hcm hm hme h
  · exact Do_z D De i e A c w hr hrd hdc hcm hm hme h
end Go.Proofs.YthkeoimjjgmppaaDoor

/- Bytes and as many noughts behind them: append(s, make([]byte, k)...), which the translation hands the number k; bytes with others laid over them (the document). -/
namespace Go.Proofs.YthkeoimjjgmppaaDoor
open Go.RowKit
set_option linter.unusedVariables false
set_option maxRecDepth 100000

def zC (k : Nat) : List Value := List.replicate k (Value.int .u8 0)
theorem zC_len (k : Nat) : (zC k).length = k := by unfold zC; rw [List.length_replicate]
theorem zC_map (k : Nat) : zC k = (List.replicate k (0 : UInt8)).map cB := by unfold zC; rw [List.map_replicate]; rfl
theorem zC_one (k : Nat) : ∀ v ∈ zC k, v.oneCell' = true := fun v hv => by rw [(List.mem_replicate.1 hv).2]; rfl
theorem zC_cells (k : Nat) : Builtin.zeroCells (Value.int IntKind.u8 0).cells k = (zC k).toArray := by
  unfold zC Builtin.zeroCells
  apply Array.ext
  · simp [show (Value.int IntKind.u8 0).cells = #[.int .u8 0] from rfl]
  · intro i h1 h2
    simp [show (Value.int IntKind.u8 0).cells = #[.int .u8 0] from rfl, Nat.mod_one]
theorem run_zeros_room {w : World} (ty e : TypeId) (i : TypeInfo) (he : e = 5) (hi : Tryd.prog.info? e = some i) (hz : i.zero = some (.int .u8 0)) (hs1 : i.size = 1) (hby : i.bytes = 1)
    (g sLen sCap k : Nat) (h0 : 0 < k) (hk : k ≤ 1000000) (cur : Array Value) (hg : w.heap[g]? = some (.cells cur e (0, 0))) (hroom : sLen + k ≤ sCap) (hfit : sLen + k ≤ cur.size) :
    (Builtin.append_ #[23, 3] ty #[.slice (some ⟨g, 0, none⟩) sLen sCap, .int .i64 k]).run Tryd.prog w =
      .ok (.slice (some ⟨g, 0, none⟩) (sLen + k) sCap) (w.setRow g (cur.toList.take sLen ++ zC k ++ cur.toList.drop (sLen + k)).toArray) := by
  subst he
  have hst := run_storeCells_at Tryd.prog g sLen 5 (zC k) 0 cur w hg (by simpa [zC_len] using hfit) (zC_one k)
  simp only [Nat.add_zero, zC_len] at hst
  have hw : IntKind.i64.wrap (k : Int) = k := by rw [IntKind.wrap_i64]; omega
  have hneg : ¬ ((k : Int) < 0) := by omega
  have hns : ¬ (k = 0) := by omega
  have h48 : ¬ (281474976710656 < (k : Int)) := by omega
  have hzc := zC_cells k
  simp [Builtin.append_, run_underlying Tryd.underlying23, run_underlying Tryd.underlying3, sizeOf, typeInfo, zeroValue, hi, hz, hs1, hby, asInt, asIntOf, hw, hneg, hns, h48, hroom, hzc, Addr.add_lit, hst]
theorem run_appZ (w : World) (ty : TypeId) (base : Nat) (v : Value) (bs : List UInt8) (hown : OwnB w base v bs) (k : Nat) (h0 : 0 < k) (hk : k ≤ 1000000) (hb : bs.length ≤ 1000000) (hbase : base ≤ w.heap.size) :
    ∃ v' w', (Builtin.append_ #[23, 3] ty #[v, .int .i64 k]).run Tryd.prog w = .ok v' w' ∧ OwnB w' base v' (bs ++ List.replicate k 0) ∧ Ext w w' v v' := by
  obtain ⟨i, hi, hz, hsize, hby⟩ := info_parts infoB
  have hxl : (bs.map cB).length = bs.length := by rw [List.length_map]
  have e1 : (bs ++ List.replicate k (0 : UInt8)).map cB = bs.map cB ++ zC k := by rw [List.map_append, zC_map]
  have e2 : (bs ++ List.replicate k (0 : UInt8)).length = bs.length + k := by rw [List.length_append, List.length_replicate]
  have hlen : (bs.map cB ++ zC k).length = (bs.length + k) * 1 := by rw [List.length_append, hxl, zC_len, Nat.mul_one]
  unfold OwnB at hown ⊢
  rw [e1, e2]
  generalize hxs : bs.map cB = xs at *
  generalize bs.length = n at *
  have grown : ∀ (old : Nat), old < n + k → ∀ (row : Option Nat),
      (w.drew.alloc (.cells (xs.toArray ++ (zC k).toArray ++ Builtin.zeroCells (Value.int .u8 0).cells (grownCap w (n + k) old 5 - (n + k))) 5)).ownsRow base 5 1
        (.slice (some ⟨w.heap.size, 0, none⟩) (n + k) (grownCap w (n + k) old 5)) (n + k) (xs ++ zC k) ∧
      w.grownBy (w.drew.alloc (.cells (xs.toArray ++ (zC k).toArray ++ Builtin.zeroCells (Value.int .u8 0).cells (grownCap w (n + k) old 5 - (n + k))) 5)) row := by
    intro old ho row
    have hge := grownCap_ge w (n + k) old 5
    have hcm : grownCap w (n + k) old 5 ≤ maxLen := grownCap_le_maxLen w (n + k) old 5 (by unfold maxLen; omega)
    refine ⟨⟨hlen, .inr ⟨w.heap.size, _, _, rfl, hbase, heap_alloc_new w.drew _, hge, hcm, ?_, ?_⟩⟩, ⟨rfl, rfl, rfl, by simp, fun k hk _ => heap_alloc_old w.drew _ hk⟩⟩
    · have hz1 : (Value.int IntKind.u8 0).cells.size = 1 := rfl
      simp only [Array.size_append, List.size_toArray, size_zeroCells, hz1, hxl, zC_len]
      omega
    · simp only [Array.toList_append, List.append_assoc]
      rw [← List.append_assoc, ← hlen]
      exact List.take_left
  rcases hown.2 with ⟨rfl, hn⟩ | ⟨g, cap, cur, rfl, hbg, hg, hnc, hcm, hcs, htake⟩
  · have hn0 : n = 0 := hn
    subst hn0
    have hx : xs = [] := List.eq_nil_of_length_eq_zero hxl
    subst hx
    have hr := Go.Lib.run_append_nil_zeros (P := Tryd.prog) w 23 3 ty 5 i (.int .u8 0) .i64 .i64 Tryd.underlying23 Tryd.underlying3 hi hz k h0 (by omega) (by omega) (by rw [hby]; omega)
    have hgr := grown 0 (by omega) (Value.ownBlock (.slice none 0 0))
    simp only [Nat.zero_add, List.nil_append, Array.empty_append] at hgr ⊢
    rw [zC_cells k] at hr
    exact ⟨_, _, hr, hgr.1, ⟨hgr.2, .inr fun j hj => by simp [Value.ownBlock] at hj; omega⟩⟩
  · by_cases hroom : n + k ≤ cap
    · have hcs' : cur.size = cap := by simpa using hcs
      have hr := run_zeros_room ty 5 i rfl hi hz hsize hby g n cap k h0 hk cur hg hroom (by omega)
      refine ⟨_, _, hr, ⟨hlen, .inr ⟨g, cap, _, rfl, hbg, setRow_heap w g cur _ _ _ hg, hroom, hcm, ?_, ?_⟩⟩, ⟨⟨rfl, rfl, rfl, by simp, fun k _ hk => setRow_other w g k _ (fun e => hk (by simp [Value.ownBlock, e]))⟩, .inl rfl⟩⟩
      · simp only [List.size_toArray, List.length_append, List.length_take, List.length_drop, Array.length_toList, zC_len]
        omega
      · have ht' : cur.toList.take n = xs := by simpa using htake
        rw [ht', ← hlen]
        exact List.take_left
    · have holds : ∀ j u, xs[j]? = some u → w.drew.cell? ((⟨g, 0, none⟩ : Addr).add j) = some u := hown.cells (g := g) rfl
      have hfo := run_firstCells_some (P := Tryd.prog) w.drew i.size n ⟨g, 0, none⟩ n cap xs (by rw [hsize]; omega) (by simpa using holds)
      have hr := Go.Lib.run_append_grow_zeros (P := Tryd.prog) w 23 3 ty 5 i (.int .u8 0) .i64 .i64 Tryd.underlying23 Tryd.underlying3 hi hz (some ⟨g, 0, none⟩) n cap xs hfo k h0 (by omega) (by omega) (by omega) (by rw [hby]; omega) (by rw [hby]; exact growslice_fits (by omega) (by omega))
      have hgr := grown cap (by omega) (Value.ownBlock (.slice (some ⟨g, 0, none⟩) n cap))
      rw [zC_cells k] at hr
      exact ⟨_, _, hr, hgr.1, ⟨hgr.2, .inr fun j hj => by simp [Value.ownBlock] at hj; omega⟩⟩
section
variable {w : World} {ops : Array Oper} {rest : List Oper} {o : Oper} {a : Act} {Q : Exit → Act → World → Prop}
theorem wpList_appZ (hgd : o.guard = none) (s x : Operand) (ho : o.op = .call { callee := .builtin .append, args := #[s, x], argTypes := #[23, 3] })
    (base : Nat) (v : Value) (bs : List UInt8) (hs : a.eval s = v) (hown : OwnB w base v bs) (k : Nat) (hx : a.eval x = .int .i64 k) (h0 : 0 < k) (hk : k ≤ 1000000) (hb : bs.length ≤ 1000000) (hbase : base ≤ w.heap.size)
    (h : ∀ v' w', OwnB w' base v' (bs ++ List.replicate k 0) → Ext w w' v v' → wpList Tryd.prog ops Q rest (a.put o.dst v') w') : wpList Tryd.prog ops Q (o :: rest) a w := by
  obtain ⟨v', w', hr, h1, h2⟩ := run_appZ w o.type base v bs hown k h0 hk hb hbase
  exact Go.Lib.wpList_append_run w hgd s x _ _ ho v _ hs hx v' w' hr (h v' w' h1 h2)
end
end Go.Proofs.YthkeoimjjgmppaaDoor

/- Bytes laid over others: the document. -/
namespace Go.Proofs.YthkeoimjjgmppaaDoor
open Go.RowKit
set_option linter.unusedVariables false
set_option maxRecDepth 100000

theorem laid18_any (D D' : Nat → Prop) (A : Option Addr) (c : Nat) (d : List UInt8) (o : Nat) (X : Option Addr) (cx : Nat) (x : List UInt8) (w : World) (h : RdB w D A d) (hc : d.length ≤ c) (hcm : c ≤ 9223372036854775807) (hx : RdB w D' X x) (hxc : x.length ≤ cx) (ho : o + x.length ≤ d.length) (hd : d.length ≤ 1000) :
    Calls Tryd.prog 34 #[.slice A d.length c, .int .i64 (o : Int), .slice X x.length cx] w fun e w' => ∃ v, e = .returned v ∧ OwnB w' w.heap.size v (laidO d o x) ∧ Below w.heap.size w w' := by
  have i0 : (o : Int) ≤ (c : Int) := by omega
  have i1 : (o : Int) + (x.length : Int) ≤ (d.length : Int) := by omega
  have i2 : (d.length : Int) ≤ (c : Int) := by omega
  have i3 : (o : Int) + (x.length : Int) ≤ 1000 := by omega
  have hx3 : x.length ≤ 1000 := by omega
  have ho3 : o ≤ 1000 := by omega
  have i0n : o ≤ c := by omega
  have i4n : o + x.length ≤ c := by omega
  have i5n : o + x.length ≤ d.length := ho
  go_enter Tryd.func34, Tryd.ntmps34
  go_wp2_with first
    | (with_reducible show wpList _ _ _ _ _ _
       refine wpList_appB rfl (.tmp 8) (.tmp 11) rfl w.heap.size (.slice none 0 0) [] rfl OwnB.nil D A o c (d.take o) rfl (by rw [List.length_take]; omega) (h.take (by omega)) (by rw [List.length_take]; unfold big; simp; omega) (Nat.le_refl _) ?_
       intro v1 w1 o1 x1
       have b1 : Below w.heap.size w w1 := Ext.of_nil x1)
    | (with_reducible show wpList _ _ _ _ _ _
       refine wpList_appB rfl (.tmp 13) (.tmp 14) rfl w.heap.size _ ([] ++ d.take o) rfl o1 D' X x.length cx x rfl rfl (hx.below b1) (by simp; unfold big; omega) b1.size ?_
       intro v2 w2 o2 x2
       have b2 : Below w.heap.size w w2 := b1.trans (x2.below o1 (Nat.le_refl _) b1.size))
    | (with_reducible show wpList _ _ _ _ _ _
       refine wpList_appB rfl (.tmp 16) (.tmp 22) rfl w.heap.size _ ([] ++ d.take o ++ x) rfl o2 D (cutA A (o + x.length) c 1) (d.length - (o + x.length)) (c - (o + x.length)) (d.drop (o + x.length)) rfl (by rw [List.length_drop]) ((h.below b2).drop (by omega) (by omega)) (by simp; unfold big; omega) b2.size ?_
       intro v3 w3 o3 x3
       have b3 : Below w.heap.size w w3 := b2.trans (x3.below o2 (Nat.le_refl _) b2.size))
  go_ret
  exact ⟨v3, rfl, by unfold laidO; simpa using o3, b3⟩
end Go.Proofs.YthkeoimjjgmppaaDoor

/- The document's Do: refused, a write, a resize, back. -/
namespace Go.Proofs.YthkeoimjjgmppaaDoor
open Go.RowKit
set_option linter.unusedVariables false
set_option maxRecDepth 100000

def NB (g : Nat) (b : Nat) : Prop := b ≠ g
/-- What an image behind an operation reads: what was read ahead of it, or new memory. -/
def DoD (D : Nat → Prop) (n : Nat) (b : Nat) : Prop := D b ∨ n ≤ b
theorem ImR.setD {w w' : World} {D : Nat → Prop} {i : ImV} (h : ImR w D i) (b : Below w.heap.size w w') {A : Option Addr} {d : List UInt8} {c : Nat} {D' : Nat → Prop} (r : RdB w' D' A d) (l : d.length ≤ c) (m : c ≤ 9223372036854775807) (hD : ∀ b, D' b → D b ∨ w.heap.size ≤ b) : ImR w' (DoD D w.heap.size) ⟨A, d, c, i.CA, i.S, i.cc, i.last⟩ :=
  ⟨Rd.imp r (fun b _ hb => hD b hb) (by decide), l, m, (RdL.below h.rS b).imp cpC_pos fun _ _ hb => .inl hb, h.sl, h.sm, fun s hs => ((h.cp s hs).below b).imp fun _ _ hb => .inl hb⟩
theorem ImR.setS {w w' : World} {D : Nat → Prop} {i : ImV} (h : ImR w D i) (b : Below w.heap.size w w') {A : Option Addr} {L : List CpV} {c : Nat} {D' : Nat → Prop} (r : RdL w' D' 2 cpC A L) (l : L.length ≤ c) (m : c ≤ 9223372036854775807) (hD : ∀ b, D' b → D b ∨ w.heap.size ≤ b) (hL : ∀ s ∈ L, CpR w' (DoD D w.heap.size) s) (la : Int) : ImR w' (DoD D w.heap.size) ⟨i.DA, i.d, i.dc, A, L, c, la⟩ :=
  ⟨Rd.imp (h.rd.below b) (fun _ _ hb => .inl hb) (by decide), h.dl, h.dm, r.imp cpC_pos fun b _ hb => hD b hb, l, m, hL⟩
theorem size_take (d : List UInt8) (n : Nat) (h : n ≤ 512) (hd : d.length ≤ 512) : (d ++ List.replicate 512 (0 : UInt8)).take n = sizeO d n := by
  unfold sizeO
  rw [List.take_append, List.take_replicate, Nat.min_eq_left (by omega)]
theorem OwnB.form' {w : World} {base : Nat} {v : Value} {bs : List UInt8} (h : OwnB w base v bs) : ∃ A n c, v = .slice A n c ∧ Hid (n = bs.length) ∧ n ≤ c ∧ c ≤ maxLen := by
  obtain ⟨A, c, e, h1, h2⟩ := OwnB.form h
  exact ⟨A, _, c, e, rfl, h1, h2⟩

set_option maxHeartbeats 8000000 in
set_option maxRecDepth 100000 in
theorem rDo_a (D De : Nat → Prop) (i : ImV) (e : E7) (A : Option Addr) (c : Nat) (w : World) (hr : ImR w D i) (hrd : RdB w De A e.data) (hdc : e.data.length ≤ c) (hcm : c ≤ 9223372036854775807) (hm : mayI i.p = false) :
    Calls Tryd.prog 12 #[.agg (imA i), enV e A c] w fun x w' => ∃ j : ImV, x = .returned (.tuple #[.agg (imA j), .int .i64 (doP i.p e).2.1, .int .i64 (doP i.p e).2.2]) ∧ j.p = (doP i.p e).1 ∧ ImR w' (DoD D w.heap.size) j ∧ Below w.heap.size w w' := by
  obtain ⟨hB, hE, hQ, bb, hs0⟩ := do_pre i e A c w
  have hr0 := hr.below bb
  have hck := rMay18_any D i _ hr0
  have hce := fun w => rMay_any e A c w
  have E := Lib.hid (doP_a (e := e) hm)
  rw [hm] at hck
  clear hm hr0 hce
  unfold enV at *
  unfold imA enA zI3 at *
  generalize hw0 : ((w.alloc (.cells #[.slice i.DA i.d.length i.dc, .slice i.CA i.S.length i.cc, .int .i64 i.last] 35)).alloc (.cells #[.int .i64 e.seq, .int .i64 e.owner, .int .i64 e.kind, .int .i64 e.off, .int .i64 e.len, .int .i64 e.snap, .slice A e.data.length c] 32)).alloc (.cells #[.slice none 0 0, .slice none 0 0, .int .i64 0] 35) = w0 at *
  go_enter Tryd.func12, Tryd.ntmps12
  go_wp2_with first
    | (with_reducible show wpList _ _ _ _ _ _
       refine wpList_load_row rfl 35 (.tmp 2) rfl w.heap.size rfl 35 _ (0, 0) _ hB Tryd.underlying35 rfl infoIm ?_)
  refine hck.mono ?_
  clear hck hw0
  rintro e w2 ⟨rfl, b2⟩
  replace hQ := hQ.below b2
  replace bb := bb.thenB' b2
  go_wp2_with first
    | (with_reducible show wpList _ _ _ _ _ _
       refine wpList_rowB rfl 35 (.tmp 4) (.tmp 16) rfl (w.heap.size + 2) 35 _ zI3 rfl rfl hQ infoIm rfl (imA_ok ⟨none, [], 0, none, [], 0, 0⟩) ?_
       intro w4 hq4 m4)
  (try simp only [Exit.inBlock, Exit.then])
  refine bodyPost_ret (results_cell_tmp2 rfl _ _ (w.heap.size + 2) _ _ (0, 0) _ rfl hq4 Tryd.underlying35 rfl infoIm) rfl ?_
  rw [E.out]
  exact ⟨⟨none, [], 0, none, [], 0, 0⟩, rfl, rfl, zeroIm _ _, bb.thenM m4 bb.size (fun i hi e => by omega)⟩

set_option maxHeartbeats 8000000 in
set_option maxRecDepth 100000 in
theorem rDo_b (D De : Nat → Prop) (i : ImV) (e : E7) (A : Option Addr) (c : Nat) (w : World) (hr : ImR w D i) (hrd : RdB w De A e.data) (hdc : e.data.length ≤ c) (hcm : c ≤ 9223372036854775807) (hm : mayI i.p = true) (hme : mayE e = false) :
    Calls Tryd.prog 12 #[.agg (imA i), enV e A c] w fun x w' => ∃ j : ImV, x = .returned (.tuple #[.agg (imA j), .int .i64 (doP i.p e).2.1, .int .i64 (doP i.p e).2.2]) ∧ j.p = (doP i.p e).1 ∧ ImR w' (DoD D w.heap.size) j ∧ Below w.heap.size w w' := by
  obtain ⟨hB, hE, hQ, bb, hs0⟩ := do_pre i e A c w
  have hr0 := hr.below bb
  have hck := rMay18_any D i _ hr0
  have hce := fun w => rMay_any e A c w
  have E := Lib.hid (doP_b hm hme)
  rw [hm] at hck
  rw [hme] at hce
  clear hm hme
  unfold enV at *
  unfold imA enA zI3 at *
  generalize hw0 : ((w.alloc (.cells #[.slice i.DA i.d.length i.dc, .slice i.CA i.S.length i.cc, .int .i64 i.last] 35)).alloc (.cells #[.int .i64 e.seq, .int .i64 e.owner, .int .i64 e.kind, .int .i64 e.off, .int .i64 e.len, .int .i64 e.snap, .slice A e.data.length c] 32)).alloc (.cells #[.slice none 0 0, .slice none 0 0, .int .i64 0] 35) = w0 at *
  go_enter Tryd.func12, Tryd.ntmps12
  go_wp2_with first
    | (with_reducible show wpList _ _ _ _ _ _
       refine wpList_load_row rfl 35 (.tmp 2) rfl w.heap.size rfl 35 _ (0, 0) _ hB Tryd.underlying35 rfl infoIm ?_)
  refine hck.mono ?_
  clear hck hw0
  rintro e w2 ⟨rfl, b2⟩
  replace hB := hB.below b2
  replace hE := hE.below b2
  replace hQ := hQ.below b2
  replace hr0 := hr0.below b2
  replace bb := bb.thenB' b2
  go_wp2_with first
    | (with_reducible show wpList _ _ _ _ _ _
       refine wpList_load_row rfl 32 (.tmp 3) rfl (w.heap.size + 1) rfl 32 _ (0, 0) _ hE Tryd.underlying32 rfl infoEy ?_)
  refine (hce w2).mono ?_
  clear hce
  rintro e w3 ⟨rfl, b3⟩
  replace hB := hB.below b3
  replace hE := hE.below b3
  replace hQ := hQ.below b3
  replace hr0 := hr0.below b3
  replace bb := bb.thenB' b3
  go_wp2_with first
    | (with_reducible show wpList _ _ _ _ _ _
       refine wpList_rowB rfl 35 (.tmp 4) (.tmp 20) rfl (w.heap.size + 2) 35 _ zI3 rfl rfl hQ infoIm rfl (imA_ok ⟨none, [], 0, none, [], 0, 0⟩) ?_
       intro w4 hq4 m4)
  (try simp only [Exit.inBlock, Exit.then])
  refine bodyPost_ret (results_cell_tmp2 rfl _ _ (w.heap.size + 2) _ _ (0, 0) _ rfl hq4 Tryd.underlying35 rfl infoIm) rfl ?_
  rw [E.out]
  exact ⟨⟨none, [], 0, none, [], 0, 0⟩, rfl, rfl, zeroIm _ _, bb.thenM m4 bb.size (fun i hi e => by omega)⟩

set_option maxHeartbeats 8000000 in
set_option maxRecDepth 100000 in
theorem rDo_w (D De : Nat → Prop) (i : ImV) (e : E7) (A : Option Addr) (c : Nat) (w : World) (hr : ImR w D i) (hrd : RdB w De A e.data) (hdc : e.data.length ≤ c) (hcm : c ≤ 9223372036854775807) (hm : mayI i.p = true) (hme : mayE e = true) (hk : e.kind = 1) :
    Calls Tryd.prog 12 #[.agg (imA i), enV e A c] w fun x w' => ∃ j : ImV, x = .returned (.tuple #[.agg (imA j), .int .i64 (doP i.p e).2.1, .int .i64 (doP i.p e).2.2]) ∧ j.p = (doP i.p e).1 ∧ ImR w' (DoD D w.heap.size) j ∧ Below w.heap.size w w' := by
  obtain ⟨hB, hE, hQ, bb, hs0⟩ := do_pre i e A c w
  have hr0 := hr.below bb
  have hck := rMay18_any D i _ hr0
  have hce := fun w => rMay_any e A c w
  have hbd := mayI_bd hm
  have hcb := copiesO_bd _ _ _ hbd.2.2.2.2
  have hp := of_decide_eq_true (show decide (mayP e) = true from hme)
  have E0 := doP_c hm hme
  rw [hm] at hck
  rw [hme] at hce
  clear hm hme
  obtain ⟨sq, ow, kd, off, len, sn, data⟩ := e
  obtain ⟨A1, d, dc, C1, S, cc, la⟩ := i
  unfold ImV.p at *
  dsimp only at *
  have hl0 : d.length ≤ 512 := hbd.1
  have hS0 : S.length ≤ 4 := by have := hbd.2.1; rw [pureC_len] at this; exact this
  have hla0 : 0 ≤ la ∧ la ≤ 100 := ⟨hbd.2.2.1, hbd.2.2.2.1⟩
  clear hbd
  unfold mayP at hp
  dsimp only at hp
  have hdl : d.length ≤ dc := hr.dl
  have hdm : dc ≤ 9223372036854775807 := hr.dm
  rw [← ids_p S, pureC_len] at E0
  have hfb := findO_bd (idsO S) sn
  rw [ids_len] at hfb
  have hfd := fun W (h : ImR W D ⟨A1, d, dc, C1, S, cc, la⟩) => rfind_any D ⟨A1, d, dc, C1, S, cc, la⟩ sn W h
  unfold imA at hfd
  dsimp only at hfd
  generalize findO (idsO S) sn = r at *
  subst hk
  replace hp : 0 ≤ off ∧ off ≤ 512 ∧ 1 ≤ data.length ∧ data.length ≤ 128 := by omega
  obtain ⟨o, rfl⟩ : ∃ o : Nat, off = o := ⟨off.toNat, by omega⟩
  rw [if_pos rfl, Int.toNat_natCast] at E0
  unfold enV at *
  unfold imA enA zI3 at *
  dsimp only at *
  generalize hw0 : ((w.alloc (.cells #[.slice A1 d.length dc, .slice C1 S.length cc, .int .i64 la] 35)).alloc (.cells #[.int .i64 sq, .int .i64 ow, .int .i64 1, .int .i64 (o : Int), .int .i64 len, .int .i64 sn, .slice A data.length c] 32)).alloc (.cells #[.slice none 0 0, .slice none 0 0, .int .i64 0] 35) = w0 at *
  go_enter Tryd.func12, Tryd.ntmps12
  go_wp2_with first
    | (with_reducible show wpList _ _ _ _ _ _
       refine wpList_load_row rfl 35 (.tmp 2) rfl w.heap.size rfl 35 _ (0, 0) _ hB Tryd.underlying35 rfl infoIm ?_)
  refine hck.mono ?_
  clear hck hw0
  rintro e w2 ⟨rfl, b2⟩
  replace hB := hB.below b2
  replace hE := hE.below b2
  replace hQ := hQ.below b2
  replace hr0 := hr0.below b2
  replace bb := bb.thenB' b2
  clear b2
  go_wp2_with first
    | (with_reducible show wpList _ _ _ _ _ _
       refine wpList_load_row rfl 32 (.tmp 3) rfl (w.heap.size + 1) rfl 32 _ (0, 0) _ hE Tryd.underlying32 rfl infoEy ?_)
  refine (hce w2).mono ?_
  clear hce
  rintro e w3 ⟨rfl, b3⟩
  replace hB := hB.below b3
  replace hE := hE.below b3
  replace hQ := hQ.below b3
  replace hr0 := hr0.below b3
  replace bb := bb.thenB' b3
  clear b3
  have hfd := hfd w3 hr0
  have k4 := hE.cell 5
  simp at k4
  go_wp2_with first
    | (with_reducible show wpList _ _ _ _ _ _
       refine wpList_load_row rfl 35 (.tmp 2) rfl w.heap.size rfl 35 _ (0, 0) _ hB Tryd.underlying35 rfl infoIm ?_)
  refine hfd.mono ?_
  clear hfd k4
  rintro e w5 ⟨rfl, b5⟩
  replace hB := hB.below b5
  replace hE := hE.below b5
  replace hQ := hQ.below b5
  replace hr0 := hr0.below b5
  replace bb := bb.thenB' b5
  have hs5 : w.heap.size + 3 ≤ w5.heap.size := by have := bb.size; have := hQ.lt; omega
  clear b5
  have c1 := hB.cell 0
  have c2 := hB.cell 1
  have c3 := hB.cell 2
  have k1 := hE.cell 2
  have k2 := hE.cell 3
  have k3 := hE.cell 4
  have k4 := hE.cell 5
  have k5 := hE.cell 6
  simp at c1 c2 c3 k1 k2 k3 k4 k5
  by_cases h1 : (d.length : Int) < (o : Int) + (data.length : Int)
  focus
    rw [if_pos h1] at E0
    have E := Lib.hid E0
    clear E0
    go_wp2_with first
      | (with_reducible show wpList _ _ _ _ _ _
         refine wpList_rowB rfl 35 (.tmp 4) (.tmp 39) rfl (w.heap.size + 2) 35 _ zI3 rfl rfl hQ infoIm rfl (imA_ok ⟨none, [], 0, none, [], 0, 0⟩) ?_
         intro w4 hq4 m4)
    (try simp only [Exit.inBlock, Exit.then])
    refine bodyPost_ret (results_cell_tmp2 rfl _ _ (w.heap.size + 2) _ _ (0, 0) _ rfl hq4 Tryd.underlying35 rfl infoIm) rfl ?_
    rw [E.out]
    exact ⟨⟨none, [], 0, none, [], 0, 0⟩, rfl, rfl, zeroIm _ _, bb.thenM m4 bb.size (fun i hi e => by omega)⟩
  rw [if_neg h1] at E0
  have E := Lib.hid E0
  clear E0
  have hlc := laid18_any D De A1 dc d o A c data w5 hr0.rd hdl hdm (hrd.below bb) hdc (by omega) (by omega)
  have hl8 := laidO_len d o data (by omega)
  go_upto_region 11 with fail
  go_wp2_with fail
  refine hlc.mono ?_
  clear hlc
  clear c1 c2 c3 k1 k2 k3 k4 k5
  rintro e w7 ⟨v7, rfl, o7, b7⟩
  obtain ⟨A9, c9, rfl, l9, mx9⟩ := OwnB.form o7
  rw [hl8] at l9
  have hB7 := hB.below b7
  have hQ7 := hQ.below b7
  have bb7 := bb.thenB' b7
  have o7' := o7.rdG
  have HL8 := Lib.hid hl8
  clear hl8 hB hE hQ bb b7 o7 hr0
  go_upto_region 41 with first
    | (with_reducible show wpList _ _ _ _ _ _
       refine wpList_fldB rfl 23 (.tmp 47) (.tmp 46) rfl w.heap.size 0 35 _ (.slice A9 (laidO d o data).length c9) rfl rfl rfl infoD1 hB7 3 rfl (by decide) ?_
       intro w8 hB8 m8
       replace hB8 : Blk w8 w.heap.size 35 #[.slice A9 (laidO d o data).length c9, .slice C1 S.length cc, .int .i64 la] := hB8)
  have hQ8 := hQ7.mod m8 (by omega)
  have bb8 := bb7.thenM m8 bb7.size (fun i hi e => by omega)
  have o8 : RdB w8 (w5.heap.size ≤ ·) A9 (laidO d o data) := Rd.mod o7' m8 (fun b hb e => by omega)
  clear hB7 hQ7 bb7 m8 o7'
  go_wp2_with first
    | (with_reducible show wpList _ _ _ _ _ _
       refine wpList_load_row rfl 35 (.tmp 2) rfl w.heap.size rfl 35 _ (0, 0) _ hB8 Tryd.underlying35 rfl infoIm ?_)
    | (with_reducible show wpList _ _ _ _ _ _
       refine wpList_rowB rfl 35 (.tmp 4) (.tmp 147) rfl (w.heap.size + 2) 35 _ (imA ⟨A9, laidO d o data, c9, C1, S, cc, la⟩) rfl rfl hQ8 infoIm rfl (imA_ok _) ?_
       intro w9 hq9 m9)
  (try simp only [Exit.inBlock, Exit.then])
  refine bodyPost_ret (results_cell_tmp2 rfl _ _ (w.heap.size + 2) _ _ (0, 0) _ rfl hq9 Tryd.underlying35 rfl infoIm) rfl ?_
  rw [E.out]
  exact ⟨⟨A9, laidO d o data, c9, C1, S, cc, la⟩, rfl, rfl, hr.setD (bb8.thenM m9 bb8.size (fun i hi e => by omega)) (Rd.mod o8 m9 (fun b hb e => by omega)) (by rw [HL8.out]; exact l9) (by unfold maxLen at mx9; omega) (fun b hb => .inr (by first | (have := hb.1; omega) | (have := hb; omega))), bb8.thenM m9 bb8.size (fun i hi e => by omega)⟩

set_option maxHeartbeats 8000000 in
set_option maxRecDepth 100000 in
theorem rDo_r (D De : Nat → Prop) (i : ImV) (e : E7) (A : Option Addr) (c : Nat) (w : World) (hr : ImR w D i) (hrd : RdB w De A e.data) (hdc : e.data.length ≤ c) (hcm : c ≤ 9223372036854775807) (hm : mayI i.p = true) (hme : mayE e = true) (hk : e.kind = 3) :
    Calls Tryd.prog 12 #[.agg (imA i), enV e A c] w fun x w' => ∃ j : ImV, x = .returned (.tuple #[.agg (imA j), .int .i64 (doP i.p e).2.1, .int .i64 (doP i.p e).2.2]) ∧ j.p = (doP i.p e).1 ∧ ImR w' (DoD D w.heap.size) j ∧ Below w.heap.size w w' := by
  obtain ⟨hB, hE, hQ, bb, hs0⟩ := do_pre i e A c w
  have hr0 := hr.below bb
  have hck := rMay18_any D i _ hr0
  have hce := fun w => rMay_any e A c w
  have hbd := mayI_bd hm
  have hcb := copiesO_bd _ _ _ hbd.2.2.2.2
  have hp := of_decide_eq_true (show decide (mayP e) = true from hme)
  have E0 := doP_c hm hme
  rw [hm] at hck
  rw [hme] at hce
  clear hm hme
  obtain ⟨sq, ow, kd, off, len, sn, data⟩ := e
  obtain ⟨A1, d, dc, C1, S, cc, la⟩ := i
  unfold ImV.p at *
  dsimp only at *
  have hl0 : d.length ≤ 512 := hbd.1
  have hS0 : S.length ≤ 4 := by have := hbd.2.1; rw [pureC_len] at this; exact this
  have hla0 : 0 ≤ la ∧ la ≤ 100 := ⟨hbd.2.2.1, hbd.2.2.2.1⟩
  clear hbd
  unfold mayP at hp
  dsimp only at hp
  have hdl : d.length ≤ dc := hr.dl
  have hdm : dc ≤ 9223372036854775807 := hr.dm
  rw [← ids_p S, pureC_len] at E0
  have hfb := findO_bd (idsO S) sn
  rw [ids_len] at hfb
  have hfd := fun W (h : ImR W D ⟨A1, d, dc, C1, S, cc, la⟩) => rfind_any D ⟨A1, d, dc, C1, S, cc, la⟩ sn W h
  unfold imA at hfd
  dsimp only at hfd
  generalize findO (idsO S) sn = r at *
  subst hk
  replace hp : 0 ≤ len ∧ len ≤ 512 := by omega
  obtain ⟨n, rfl⟩ : ∃ n : Nat, len = n := ⟨len.toNat, by omega⟩
  rw [if_neg (by decide), if_neg (by decide), if_pos rfl, Int.toNat_natCast] at E0
  unfold enV at *
  unfold imA enA zI3 at *
  dsimp only at *
  generalize hw0 : ((w.alloc (.cells #[.slice A1 d.length dc, .slice C1 S.length cc, .int .i64 la] 35)).alloc (.cells #[.int .i64 sq, .int .i64 ow, .int .i64 3, .int .i64 off, .int .i64 (n : Int), .int .i64 sn, .slice A data.length c] 32)).alloc (.cells #[.slice none 0 0, .slice none 0 0, .int .i64 0] 35) = w0 at *
  go_enter Tryd.func12, Tryd.ntmps12
  go_wp2_with first
    | (with_reducible show wpList _ _ _ _ _ _
       refine wpList_load_row rfl 35 (.tmp 2) rfl w.heap.size rfl 35 _ (0, 0) _ hB Tryd.underlying35 rfl infoIm ?_)
  refine hck.mono ?_
  clear hck hw0
  rintro e w2 ⟨rfl, b2⟩
  replace hB := hB.below b2
  replace hE := hE.below b2
  replace hQ := hQ.below b2
  replace hr0 := hr0.below b2
  replace bb := bb.thenB' b2
  clear b2
  go_wp2_with first
    | (with_reducible show wpList _ _ _ _ _ _
       refine wpList_load_row rfl 32 (.tmp 3) rfl (w.heap.size + 1) rfl 32 _ (0, 0) _ hE Tryd.underlying32 rfl infoEy ?_)
  refine (hce w2).mono ?_
  clear hce
  rintro e w3 ⟨rfl, b3⟩
  replace hB := hB.below b3
  replace hE := hE.below b3
  replace hQ := hQ.below b3
  replace hr0 := hr0.below b3
  replace bb := bb.thenB' b3
  clear b3
  have hfd := hfd w3 hr0
  have k4 := hE.cell 5
  simp at k4
  go_wp2_with first
    | (with_reducible show wpList _ _ _ _ _ _
       refine wpList_load_row rfl 35 (.tmp 2) rfl w.heap.size rfl 35 _ (0, 0) _ hB Tryd.underlying35 rfl infoIm ?_)
  refine hfd.mono ?_
  clear hfd k4
  rintro e w5 ⟨rfl, b5⟩
  replace hB := hB.below b5
  replace hE := hE.below b5
  replace hQ := hQ.below b5
  replace hr0 := hr0.below b5
  replace bb := bb.thenB' b5
  have hs5 : w.heap.size + 3 ≤ w5.heap.size := by have := bb.size; have := hQ.lt; omega
  clear b5
  have c1 := hB.cell 0
  have c2 := hB.cell 1
  have c3 := hB.cell 2
  have k1 := hE.cell 2
  have k2 := hE.cell 3
  have k3 := hE.cell 4
  have k4 := hE.cell 5
  have k5 := hE.cell 6
  simp at c1 c2 c3 k1 k2 k3 k4 k5
  have E := Lib.hid E0
  clear E0
  have rd := hr0.rd
  dsimp only at rd
  clear hr0
  go_upto_region 18 with fail
  clear c2 c3 k1 k2 k3 k4 k5
  go_upto_region 19 with first
    | (with_reducible show wpList _ _ _ _ _ _
       refine wpList_appB rfl (.tmp 71) (.tmp 73) rfl w5.heap.size (.slice none 0 0) [] rfl OwnB.nil D A1 d.length dc d rfl rfl rd (by unfold big; simp; omega) (Nat.le_refl _) ?_
       intro v6 w6 o6 x6)
  have b6 : Below w5.heap.size w5 w6 := Ext.of_nil x6
  clear c1
  go_upto_region 20 with first
    | (with_reducible show wpList _ _ _ _ _ _
       refine wpList_appZ rfl (.tmp 75) _ rfl w5.heap.size v6 _ rfl o6 512 rfl (by decide) (by decide) (by simp; omega) b6.size ?_
       intro v7 w7 o7 x7)
  have b7 : Below w5.heap.size w5 w7 := b6.trans (x7.below o6 (Nat.le_refl _) b6.size)
  obtain ⟨A9, n9, c9, rfl, HN9, l9, mx9⟩ := OwnB.form' o7
  have hB7 := hB.below b7
  have hE7 := hE.below b7
  have hQ7 := hQ.below b7
  have bb7 := bb.thenB' b7
  rw [HN9.out] at o7
  have o7' := o7.rdG
  have hn9 : 512 ≤ n9 := by rw [HN9.out]; simp
  unfold maxLen at mx9
  have i1 : (n : Int) ≤ (c9 : Int) := by omega
  have i2 : n ≤ c9 := by omega
  have k3 := hE7.cell 4
  simp at k3
  clear hB hE hQ bb b7 b6 o6 o7 x6 x7 hE7 rd
  go_upto_region 41 with first
    | (with_reducible show wpList _ _ _ _ _ _
       refine wpList_fldB rfl 23 (.tmp 81) (.tmp 80) rfl w.heap.size 0 35 _ (.slice A9 n c9) rfl rfl rfl infoD1 hB7 3 rfl (by decide) ?_
       intro w8 hB8 m8
       replace hB8 : Blk w8 w.heap.size 35 #[.slice A9 n c9, .slice C1 S.length cc, .int .i64 la] := hB8)
  have hQ8 := hQ7.mod m8 (by omega)
  have bb8 := bb7.thenM m8 bb7.size (fun i hi e => by omega)
  have o8 : RdB w8 (w5.heap.size ≤ ·) A9 (sizeO d n) := by
    have := (RdB.take (k := n) o7' (by rw [← HN9.out]; omega))
    rw [List.nil_append, size_take d n (by omega) hl0] at this
    exact Rd.mod this m8 (fun b hb e => by omega)
  rw [show Value.slice A9 n c9 = .slice A9 (sizeO d n).length c9 from by rw [sizeO_len]] at hB8
  clear hB7 hQ7 bb7 m8 o7' k3
  go_wp2_with first
    | (with_reducible show wpList _ _ _ _ _ _
       refine wpList_load_row rfl 35 (.tmp 2) rfl w.heap.size rfl 35 _ (0, 0) _ hB8 Tryd.underlying35 rfl infoIm ?_)
    | (with_reducible show wpList _ _ _ _ _ _
       refine wpList_rowB rfl 35 (.tmp 4) (.tmp 147) rfl (w.heap.size + 2) 35 _ (imA ⟨A9, sizeO d n, c9, C1, S, cc, la⟩) rfl rfl hQ8 infoIm rfl (imA_ok _) ?_
       intro w9 hq9 m9)
  (try simp only [Exit.inBlock, Exit.then])
  refine bodyPost_ret (results_cell_tmp2 rfl _ _ (w.heap.size + 2) _ _ (0, 0) _ rfl hq9 Tryd.underlying35 rfl infoIm) rfl ?_
  rw [E.out]
  exact ⟨⟨A9, sizeO d n, c9, C1, S, cc, la⟩, rfl, rfl, hr.setD (bb8.thenM m9 bb8.size (fun i hi e => by omega)) (Rd.mod o8 m9 (fun b hb e => by omega)) (by rw [sizeO_len]; exact i2) (by omega) (fun b hb => .inr (by first | (have := hb.1; omega) | (have := hb; omega))), bb8.thenM m9 bb8.size (fun i hi e => by omega)⟩
end Go.Proofs.YthkeoimjjgmppaaDoor
