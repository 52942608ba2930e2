/- Parts of the proof, joined: HdM HdN HdO. -/
import Derived.Test.YtpgfhbkggchliaaQj
/- Clones of maps and of rows of snapshots; a store into a row of snapshots of the call's own. -/
namespace Go.Proofs.Ytpgfhbkggchliaa
open Go.RowKit
set_option linter.unusedVariables false

theorem snF_inv : ∀ (L : List SnV) (j : Nat) (u : Value), (snF L)[j]? = some u → ∃ i s r, j = i * 3 + r ∧ L[i]? = some s ∧ (snC s)[r]? = some u
  | [], j, u, h => by simp [snF] at h
  | x :: L, j, u, h => by
    have e : snF (x :: L) = snC x ++ snF L := by unfold snF; rw [List.flatMap_cons]
    rw [e, List.getElem?_append] at h
    split at h
    · exact ⟨0, x, j, by omega, rfl, h⟩
    · rename_i hj
      obtain ⟨i, s, r, hjr, hs, hu⟩ := snF_inv L _ u h
      have hl : (snC x).length = 3 := rfl
      exact ⟨i + 1, s, r, by omega, by simpa using hs, hu⟩
theorem RdL.flat {w : World} {D : Nat → Prop} {A : Option Addr} {L : List SnV} (h : RdL w D 3 snC A L) : Rd w D 3 A L.length (snF L) := by
  refine ⟨snF_len L, fun hn => ?_⟩
  obtain ⟨ad, e, hb, hc⟩ := h hn
  refine ⟨ad, e, hb, fun j u hu => ?_⟩
  obtain ⟨i, s, r, rfl, hs, hr⟩ := snF_inv L j u hu
  exact hc i s hs r u hr
@[go_sem] theorem eqSn_nil (w : World) (A : Option Addr) (n c : Nat) : (binOp .eql 25 (.slice A n c) (.slice none 0 0)).run Try.prog w = .ok (.bool A.isNone) w := Lib.run_eql_slice_nil w _ 52 A n c 0 0 Try.underlying25

theorem cloneI_any (D : Nat → Prop) (A : Option Addr) (c : Nat) (bs : List Int) (w : World) (h : RdI w D A bs) (hl : bs.length ≤ big) :
    Calls Try.prog 82 #[.slice A bs.length c] w fun e w' => ∃ v, e = .returned v ∧ OwnI w' w.heap.size v bs ∧ Below w.heap.size w w' := by
  rcases A with _ | ad
  · have hz : bs = [] := by
      rcases Nat.eq_zero_or_pos bs.length with h0 | h0
      · exact List.eq_nil_of_length_eq_zero h0
      · obtain ⟨ad, h, _⟩ := h.2 h0
        cases h
    subst hz
    go_enter Try.func82, Try.ntmps82
    go_wp2
    go_ret
    exact ⟨_, rfl, OwnI.nil, Below.refl _ _⟩
  · have hem : OwnI (w.alloc (.cells #[] 3)) w.heap.size (.slice (some ⟨w.heap.size, 0, none⟩) 0 0) [] := own_lit w _ [] _ (Nat.le_refl _) (by simp)
    go_enter Try.func82, Try.ntmps82
    go_wp2_with (at_builtin; refine wpList_appI rfl (.tmp 5) (.tmp 6) rfl w.heap.size (.slice (some ⟨w.heap.size, 0, none⟩) 0 0) [] rfl hem D _ _ c bs rfl rfl (Rd.alloc h _) (by simpa using hl) (by simp) ?_; intro v' w' h1 h2)
    go_ret
    exact ⟨_, rfl, h1, below_app ((Below.refl _ _).alloc (Nat.le_refl _) _) hem h2.grown (Nat.le_refl _) (by simp)⟩

theorem own_litSn (w : World) (base : Nat) (hb : base ≤ w.heap.size) : OwnSn (w.alloc (.cells #[] 52)) base (.slice (some ⟨w.heap.size, 0, none⟩) 0 0) [] :=
  World.ownsRow_lit (base := base) (e := 52) (size := 3) w #[] 0 hb (by simp) (by simp)
theorem cloneSn_any (D : Nat → Prop) (A : Option Addr) (c : Nat) (L : List SnV) (w : World) (h : RdL w D 3 snC A L) (hl : L.length ≤ 1000) :
    Calls Try.prog 83 #[.slice A L.length c] w fun e w' => ∃ v, e = .returned v ∧ OwnSn w' w.heap.size v L ∧ Below w.heap.size w w' := by
  rcases A with _ | ad
  · have hz : L = [] := by
      rcases Nat.eq_zero_or_pos L.length with h0 | h0
      · exact List.eq_nil_of_length_eq_zero h0
      · obtain ⟨ad, h, _⟩ := h h0
        cases h
    subst hz
    go_enter Try.func83, Try.ntmps83
    go_wp2
    go_ret
    exact ⟨_, rfl, OwnSn.nil, Below.refl _ _⟩
  · have hem := own_litSn w w.heap.size (Nat.le_refl _)
    have hf := (h.flat).alloc (.cells #[] 52)
    go_enter Try.func83, Try.ntmps83
    go_wp2_with (at_builtin; refine wpList_appSn rfl (.tmp 5) (.tmp 6) rfl w.heap.size (.slice (some ⟨w.heap.size, 0, none⟩) 0 0) [] L rfl hem D _ _ c rfl rfl hf (by simp only [List.length_nil]; omega) (by simp) ?_; intro v' w' h1 h2)
    go_ret
    exact ⟨_, rfl, h1, below_app ((Below.refl _ _).alloc (Nat.le_refl _) _) hem h2.grown (Nat.le_refl _) (by simp)⟩

theorem snF_set : ∀ (L : List SnV) (k : Nat) (hk : k < L.length) (A : Option Addr) (m : List Int) (c : Nat), snF (L.set k ⟨L[k].id, L[k].size, A, m, c⟩) = (snF L).set (k * 3 + 2) (.slice A m.length c)
  | x :: L, 0, _, A, m, c => by
    unfold snF
    simp [List.flatMap_cons, snC]
  | x :: L, k + 1, hk, A, m, c => by
    have := snF_set L k (by simpa using hk) A m c
    unfold snF at this ⊢
    rw [List.set_cons_succ, List.flatMap_cons, List.flatMap_cons]
    simp only [List.getElem_cons_succ]
    rw [this, List.set_append, if_neg (by simp [snC]; omega)]
    congr 2
    simp [snC]; omega
/-- What a store into a snapshot's map wants and leaves. -/
theorem OwnSn.store {w : World} {base : Nat} {v : Value} {L : List SnV} (h : OwnSn w base v L) {k : Nat} (hk : k < L.length) : ∃ ad c, v = .slice (some ad) L.length c ∧ base ≤ ad.block ∧ v.ownBlock = some ad.block ∧ L.length ≤ c ∧ c ≤ maxLen ∧
    w.cell? ⟨(ad.add (k * 3)).block, (ad.add (k * 3)).off + 2, none⟩ = some (.slice L[k].A L[k].m.length L[k].c) ∧ w.frozen? ⟨(ad.add (k * 3)).block, (ad.add (k * 3)).off + 2, none⟩ = false ∧ (ad.add (k * 3)).block = ad.block ∧
    ∀ A m c', OwnSn (w.setCell ⟨(ad.add (k * 3)).block, (ad.add (k * 3)).off + 2, none⟩ (.slice A m.length c')) base v (L.set k ⟨L[k].id, L[k].size, A, m, c'⟩) := by
  have hl := snF_len L
  rcases h.2 with ⟨_, h0⟩ | ⟨g, cap, cur, rfl, hg, hh, hnc, hcm, hcs, htake⟩
  · omega
  · have hB : Blk w g 52 cur := hh
    have h2 := snF_at L k L[k] (List.getElem?_eq_getElem hk) 2 _ rfl
    rw [← htake, List.getElem?_take, if_pos (by omega)] at h2
    have e : (⟨((⟨g, 0, none⟩ : Addr).add (k * 3)).block, ((⟨g, 0, none⟩ : Addr).add (k * 3)).off + 2, none⟩ : Addr) = ⟨g, k * 3 + 2, none⟩ := by rw [add_head]
    refine ⟨⟨g, 0, none⟩, cap, rfl, hg, rfl, hnc, hcm, ?_, ?_, by rw [add_head], fun A m c' => ?_⟩
    · rw [e, hB.cell, ← h2]; simp
    · rw [e]; exact hB.frozen _
    · rw [e]
      refine ⟨by rw [snF_len], .inr ⟨g, cap, cur.setIfInBounds (k * 3 + 2) (.slice A m.length c'), by rw [List.length_set], hg, hB.set_ _ _, by rw [List.length_set]; exact hnc, hcm, by rw [Array.size_setIfInBounds]; exact hcs, ?_⟩⟩
      rw [snF_set L k hk, ← htake, List.length_set, Array.toList_setIfInBounds, List.take_set]
end Go.Proofs.Ytpgfhbkggchliaa

/- A head of one's own. -/
namespace Go.Proofs.Ytpgfhbkggchliaa
open Go.RowKit
set_option linter.unusedVariables false

theorem OwnSn.store' {w : World} {base n c : Nat} {A : Option Addr} {L : List SnV} (h : OwnSn w base (.slice A n c) L) {k : Nat} (hk : k < L.length) : ∃ ad, A = some ad ∧ base ≤ ad.block ∧ (Value.slice A n c).ownBlock = some ad.block ∧
    w.cell? ⟨(ad.add (k * 3)).block, (ad.add (k * 3)).off + 2, none⟩ = some (.slice L[k].A L[k].m.length L[k].c) ∧ w.frozen? ⟨(ad.add (k * 3)).block, (ad.add (k * 3)).off + 2, none⟩ = false ∧ (ad.add (k * 3)).block = ad.block ∧
    ∀ A' m c', OwnSn (w.setCell ⟨(ad.add (k * 3)).block, (ad.add (k * 3)).off + 2, none⟩ (.slice A' m.length c')) base (.slice A n c) (L.set k ⟨L[k].id, L[k].size, A', m, c'⟩) := by
  obtain ⟨ad, c1, hv, h1, h2, _, _, h3, h4, h5, h6⟩ := h.store hk
  have hA : A = some ad := by injection hv
  exact ⟨ad, hA, h1, h2, h3, h4, h5, h6⟩
theorem alt_none {P : Program} {ops : Array Oper} {Q : Exit → Act → World → Prop} {R : World → World → Prop} {i fuel : Nat} {o : Oper} {L : Array Bool} {a : Act} {w : World} (L' : Array Bool) (ho : ops[i]? = some o) (hd : o.dst = none) (hl : L.setIfInBounds i true = L') (hw : Region.wanted o (yielded ops a.tmps) = true) {w' : World}
    (hrun : (execOp a.eval o).run P w = .ok .skip w') (h1 : R w w') (h : wpR P ops R Q fuel L' a w') : Alt P ops R Q fuel L a w i := by
  subst hl
  unfold Alt wpOp
  simp only [ho, hw, if_true]
  refine .inl ?_
  unfold Oper.wp
  rw [hrun]
  exact ⟨h1, by rw [hd]; exact h⟩
theorem cell_below {w w' : World} {a : Addr} {v : Value} (h : w.cell? a = some v) (b : Below w.heap.size w w') : w'.cell? a = some v := by
  rw [World.cell?_of_block (w := w) (b.block _ (World.block_lt_of_cell? w _ h))]
  exact h
theorem mod_fld (w : World) (ad : Addr) (k j : Nat) (u : Value) : Mod (· = ad.block) w (w.setCell ⟨(ad.add k).block, (ad.add k).off + j, none⟩ u) :=
  (Mod.refl (· = ad.block) w).setCell (p := ⟨(ad.add k).block, (ad.add k).off + j, none⟩) (.inl (block_of_add ad k)) u
def DH (B : Nat) (v : Value) (b : Nat) : Prop := B ≤ b ∧ v.ownBlock ≠ some b
/-- A head whose memory is the call's own. -/
structure OwnH (w : World) (B : Nat) (h : HdV) : Prop where
  own : OwnSn w B (.slice h.SA h.S.length h.sc) h.S
  rm : RdI w (DH B (.slice h.SA h.S.length h.sc)) h.MA h.m
  lm : h.m.length ≤ h.mc
  mm : h.mc ≤ 9223372036854775807
  sn : ∀ s ∈ h.S, SnR w (DH B (.slice h.SA h.S.length h.sc)) s
theorem OwnH.below {w w' : World} {B : Nat} {h : HdV} (k : OwnH w B h) (b : Below w.heap.size w w') : OwnH w' B h := ⟨k.own.below b, RdI.below k.rm b, k.lm, k.mm, fun s hs => (k.sn s hs).below b⟩
theorem OwnH.low {w : World} {B B' : Nat} {h : HdV} (k : OwnH w B h) (b : B' ≤ B) : OwnH w B' h :=
  ⟨k.own.low b, Rd.imp k.rm (fun i _ hi => ⟨Nat.le_trans b hi.1, hi.2⟩) (by decide), k.lm, k.mm, fun s hs => (k.sn s hs).imp fun i _ hi => ⟨Nat.le_trans b hi.1, hi.2⟩⟩
theorem OwnH.mod {w w' : World} {B : Nat} {X : Nat → Prop} {h : HdV} (k : OwnH w B h) (m : Mod X w w') (hX : ∀ i, X i → i < B) : OwnH w' B h :=
  ⟨k.own.mod m fun i hi hx => by have := (k.own.lt i hi).1; have := hX i hx; omega, Rd.mod k.rm m fun i hi hx => by have := hi.1; have := hX i hx; omega, k.lm, k.mm, fun s hs => (k.sn s hs).mod m fun i hi hx => by have := hi.1; have := hX i hx; omega⟩
theorem OwnH.rd {w : World} {B : Nat} {h : HdV} (k : OwnH w B h) : HdR w (fun b => B ≤ b) h := by
  obtain ⟨A, c, e, h1, h2⟩ := k.own.form
  injection e with _ _ e
  refine ⟨Rd.imp k.rm (fun _ _ hb => hb.1) (by decide), k.lm, k.mm, (k.own.rd).imp snC_pos fun b _ hb => (k.own.lt b hb).1, by rw [e]; exact h1, by rw [e]; unfold maxLen at h2; exact h2, fun s hs => (k.sn s hs).imp fun _ _ hb => hb.1⟩
theorem HdR.imp {w : World} {D D' : Nat → Prop} {h : HdV} (k : HdR w D h) (hd : ∀ b, D b → D' b) : HdR w D' h :=
  ⟨Rd.imp k.1 (fun b _ => hd b) (by decide), k.2.1, k.2.2.1, k.2.2.2.1.imp snC_pos fun b _ => hd b, k.2.2.2.2.1, k.2.2.2.2.2.1, fun s hs => (k.2.2.2.2.2.2 s hs).imp fun b _ => hd b⟩

set_option maxHeartbeats 8000000 in
set_option maxRecDepth 100000 in
theorem own_any6 (D : Nat → Prop) (h : HdV) (w : World) (hr : HdR w D h) (hm1 : h.m.length ≤ 1000) (hS1 : h.S.length ≤ 100) (hs1 : ∀ s ∈ h.S, s.m.length ≤ 1000) :
    Calls Try.prog 57 #[hdV h] w fun e w' => ∃ h' : HdV, e = .returned (hdV h') ∧ h'.p = h.p ∧ OwnH w' w.heap.size h' ∧ Below w.heap.size w w' := by
  obtain ⟨rm, lm, mm, hS, hl, hm, hrs0⟩ := hr
  have hrs := fun s hs => (hrs0 s hs).imp (D' := (· < w.heap.size)) (fun b hb _ => hb)
  clear hrs0
  have b1 := below_new w (.cells (hdA h) 27)
  have hB := Blk.new w 27 (hdA h)
  have s1 : (w.alloc (.cells (hdA h) 27)).heap.size = w.heap.size + 1 := Array.size_push ..
  have b2 := below_new (w.alloc (.cells (hdA h) 27)) (.cells hzA 27)
  have hQ := Blk.new (w.alloc (.cells (hdA h) 27)) 27 hzA
  have s2 : ((w.alloc (.cells (hdA h) 27)).alloc (.cells hzA 27)).heap.size = w.heap.size + 1 + 1 := by rw [← s1]; exact Array.size_push ..
  rw [s1] at hQ
  have hB := hB.below b2
  have bb := b1.thenB' b2
  clear b1 b2 s1
  obtain ⟨u, n, o, hz, MA, m, mc, A, L, sc, la, sq⟩ := h
  unfold hdV HdV.p
  unfold hdA hzA at *
  dsimp only at *
  generalize hw0 : (w.alloc (.cells #[.int .i64 u, .int .i64 n, .int .i64 o, .int .i64 hz, .slice MA m.length mc, .slice A L.length sc, .int .i64 la, .int .i64 sq] 27)).alloc (.cells #[.int .i64 0, .int .i64 0, .int .i64 0, .int .i64 0, .slice none 0 0, .slice none 0 0, .int .i64 0, .int .i64 0] 27) = w0 at *
  have hs0 : w.heap.size + 2 ≤ w0.heap.size := by omega
  have c4 := hB.cell 4
  simp at c4
  clear s2
  have rm0 := rm.below bb
  go_enter Try.func57, Try.ntmps57
  go_wp2_with fail
  clear hw0 c4
  refine (cloneI_any D MA mc m w0 rm0 (by unfold big; omega)).mono ?_
  rintro e w1 ⟨v1, rfl, o1, b1⟩
  obtain ⟨A1, c1, rfl, l1, k1⟩ := o1.form
  have hB1 := hB.below b1
  have hQ1 := hQ.below b1
  have bb := bb.thenB' b1
  go_wp2_with first
    | (with_reducible show wpList _ _ _ _ _ _
       refine wpList_fldB rfl 24 (.tmp 7) (.tmp 6) rfl w.heap.size 4 27 _ (.slice A1 m.length c1) rfl rfl rfl infoM1 hB1 8 rfl (by decide) ?_
       intro w2 hB2 m2
       replace hB2 : Blk w2 w.heap.size 27 #[.int .i64 u, .int .i64 n, .int .i64 o, .int .i64 hz, .slice A1 m.length c1, .slice A L.length sc, .int .i64 la, .int .i64 sq] := hB2
       have c5 := hB2.cell 5
       simp at c5)
  have hQ2 := hQ1.mod m2 (by omega)
  have bb := bb.thenM m2 bb.size (fun i hi e => by omega)
  have hs1' := b1.size
  have r1 : RdI w2 (fun b => w.heap.size + 2 ≤ b ∧ b < w2.heap.size) A1 m := Rd.imp (Rd.mod (Rd.imp o1.rdG (D' := fun b => w.heap.size + 2 ≤ b) (fun b _ hb => by omega) (by decide)) m2 (fun b hb e => by omega)) (fun b hb hd => ⟨hd, hb⟩) (by decide)
  have hs2 : w.heap.size + 2 ≤ w2.heap.size := by have := m2.size; omega
  clear m2 hB1 hQ1 c5
  have c5 := hB2.cell 5
  simp at c5
  have hrs2 := fun s hs => (hrs s hs).below bb
  refine (cloneSn_any D A sc L w2 (hS.below bb) (by omega)).mono ?_
  rintro e w3 ⟨v3, rfl, o3, b3⟩
  obtain ⟨A3, c3, rfl, l3, k3⟩ := o3.form
  have hB3 := hB2.below b3
  have hQ3 := hQ2.below b3
  have bb := bb.thenB' b3
  have hrs3 := fun s hs => (hrs2 s hs).below b3
  have r3 := r1.below b3
  have hob2 : ∀ b, (Value.slice A3 L.length c3).ownBlock = some b → w2.heap.size ≤ b := fun b hb => (o3.lt b hb).1
  have o3 := o3.low hs2
  have hobl0 : ∀ b, (Value.slice A3 L.length c3).ownBlock = some b → w.heap.size + 2 ≤ b ∧ b < w3.heap.size := fun b hb => o3.lt b hb
  go_wp2_with first
    | (with_reducible show wpList _ _ _ _ _ _
       refine wpList_fldB rfl 25 (.tmp 11) (.tmp 10) rfl w.heap.size 5 27 _ (.slice A3 L.length c3) rfl rfl rfl infoS1 hB3 8 rfl (by decide) ?_
       intro w4 hB4 m4
       replace hB4 : Blk w4 w.heap.size 27 #[.int .i64 u, .int .i64 n, .int .i64 o, .int .i64 hz, .slice A1 m.length c1, .slice A3 L.length c3, .int .i64 la, .int .i64 sq] := hB4
       have c5 := hB4.cell 5
       simp at c5)
  have hQ4 := hQ3.mod m4 (by omega)
  have hobl := fun b hb => Nat.lt_of_lt_of_le (hobl0 b hb).2 m4.size
  have o4 := o3.mod m4 (fun b hb e => by have := (hobl0 b hb).1; omega)
  have r4 : RdI w4 (DH (w.heap.size + 2) (.slice A3 L.length c3)) A1 m := Rd.imp (Rd.mod r3 m4 (fun b hb e => by omega)) (fun b _ hd => ⟨hd.1, fun e => by have := hob2 b e; omega⟩) (by decide)
  have bb := bb.thenM m4 bb.size (fun i hi e => by omega)
  clear hB3 hQ3 c5 m4 hrs2 hrs3 o3 r3 b3 o1 r1 hB2 hQ2 b1 hB hQ
  have hrs4 := fun s hs => (hrs s hs).below bb
  have hL1 : Hid (L.length ≤ 100) := hS1
  have hs4 : w.heap.size + 2 ≤ w4.heap.size := by have := bb.size; have := hQ4.lt; omega
  have hq1 : ∀ b, (Value.slice A3 L.length c3).ownBlock = some b → w.heap.size + 2 ≤ b := fun b hb => (hobl0 b hb).1
  go_loopw [3, 15] (fun s3 i wr => ∃ (k : Nat) (S : List SnV), k ≤ L.length ∧ i = .int .i64 (k : Int) ∧ S.length = L.length ∧ pureS S = pureS L ∧ (∀ j s, j < k → S[j]? = some s → SnR wr (DH (w.heap.size + 2) (.slice A3 L.length c3)) s) ∧ (∀ j, k ≤ j → S[j]? = L[j]?) ∧ OwnSn wr (w.heap.size + 2) (.slice A3 L.length c3) S ∧ Mod (fun b => (Value.slice A3 L.length c3).ownBlock = some b) w4 wr) (fun _ i _ => L.length - (intOf i).toNat)
  case atStart => exact ⟨0, L, Nat.zero_le _, rfl, rfl, rfl, fun j s hj => by omega, fun j _ => rfl, o4, Mod.refl _ _⟩
  case round =>
    obtain ⟨k, S, hk, rfl, hSl, hP, hN, hO, oS, mm⟩ := hrel
    have hB1 := hB4.mod mm (fun e => by have := hq1 _ e; omega)
    have hSL := Lib.hid hSl
    clear hSl
    have c5 := hB1.cell 5
    simp at c5
    by_cases hlt : k < L.length
    · have hkS : k < S.length := by rw [hSL.out]; exact hlt
      have hSk : S[k] = L[k] := by
        have := hO k (Nat.le_refl _)
        rw [List.getElem?_eq_getElem hkS, List.getElem?_eq_getElem hlt] at this
        injection this
      obtain ⟨ad, rfl, hadB, hob, hcell, hfr, hbl, _⟩ := oS.store' hkS
      rw [hSk] at hcell
      have hsk := hrs4 L[k] (List.getElem_mem hlt)
      have hx1k := hs1 L[k] (List.getElem_mem hlt)
      have rx := ((hsk).mod mm (fun b hb e => by have := hq1 b e; omega)).1
      have hkn : (k : Int) < (L.length : Int) := by omega
      have hLn : (L.length : Int) ≤ 9223372036854775807 := by have := hL1.out; omega
      have hq1' : ¬ w.heap.size = ad.block := by omega
      have hq2 := hq1
      replace hq1 : ¬ w.heap.size = ad.block := hq1'
      have hobl : ∀ b, (Value.slice (some ad) L.length c3).ownBlock = some b → b < wr.heap.size := fun b hb => Nat.lt_of_lt_of_le (hobl b hb) mm.size
      have HBL := Lib.hid hbl
      have HOB := Lib.hid hob
      clear hsk hq1' hbl hob
      obtain ⟨x, hxe⟩ : ∃ x, x = L[k].m := ⟨_, rfl⟩
      have hx : Hid (L[k].m = x) := hxe.symm
      rw [← hxe] at rx hcell hx1k
      clear hxe
      generalize L[k].A = Ax at *
      generalize L[k].c = cx at *
      go_wp2_with fail
      refine r_start (R := RG ad.block) (by rfl) (n := 13) (L := #[false, false, false, false, false, false, false, false, false, false, false, false, false]) rfl rfl ?_
      have bd : Below wr.heap.size wr wr.drew := (Below.refl _ _).drew
      have hB1 := hB1.below bd
      have oS := oS.below bd
      have rx := rx.below bd
      have hN := fun j s hj hs => (hN j s hj hs).below bd
      have mm := mm.thenB bd
      have hszd := mm.size
      have hsz : wr.heap.size ≤ wr.drew.heap.size := bd.size
      have hfr : wr.drew.frozen? ⟨(ad.add (k * 3)).block, (ad.add (k * 3)).off + 2, none⟩ = false := hfr
      have hcell := cell_below hcell bd
      clear bd
      generalize wr.drew = wd at *
      have c5 := hB1.cell 5
      simp at c5
      refine r_flt (RG_refl ad.block) 0 18 #[true, false, false, false, false, false, false, false, false, false, false, false, false] (by simp only [List.getElem?_toArray, List.getElem?_cons_zero]; rfl) (by rfl) (by kernel_rfl) (by kernel_rfl) (by kernel_rfl) (fun _ _ _ _ h => h) rfl (by rfl) ?_
      apply Exists.intro
      apply And.intro
      · intro W hW
        first | (go_simp; with_reducible rfl) | go_simp
      (try simp only [Act.put, List.setIfInBounds_toArray]); (try simp only [List.set_cons_succ]); (try simp only [List.set_cons_zero])
      refine r_flt (RG_refl ad.block) 1 19 #[true, true, false, false, false, false, false, false, false, false, false, false, false] (by simp only [List.getElem?_toArray, List.getElem?_cons_succ, List.getElem?_cons_zero]; rfl) (by rfl) (by kernel_rfl) (by kernel_rfl) (by kernel_rfl) (fun _ _ _ _ h => h) rfl (by rfl) ?_
      apply Exists.intro
      apply And.intro
      · intro W hW
        have c := (hB1.mod hW hq1).cell 5
        simp at c
        go_simp; rfl
      (try simp only [Act.put, List.setIfInBounds_toArray]); (try simp only [List.set_cons_succ]); (try simp only [List.set_cons_zero])
      refine r_flt (RG_refl ad.block) 2 20 #[true, true, true, false, false, false, false, false, false, false, false, false, false] (by simp only [List.getElem?_toArray, List.getElem?_cons_succ, List.getElem?_cons_zero]; rfl) (by rfl) (by kernel_rfl) (by kernel_rfl) (by kernel_rfl) (fun _ _ _ _ h => h) rfl (by rfl) ?_
      apply Exists.intro
      apply And.intro
      · intro W hW
        first | (go_simp; with_reducible rfl) | go_simp
      (try simp only [Act.put, List.setIfInBounds_toArray]); (try simp only [List.set_cons_succ]); (try simp only [List.set_cons_zero])
      refine r_flt (RG_refl ad.block) 3 21 #[true, true, true, true, false, false, false, false, false, false, false, false, false] (by simp only [List.getElem?_toArray, List.getElem?_cons_succ, List.getElem?_cons_zero]; rfl) (by rfl) (by kernel_rfl) (by kernel_rfl) (by kernel_rfl) (fun _ _ _ _ h => h) rfl (by rfl) ?_
      apply Exists.intro
      apply And.intro
      · intro W hW
        first | (go_simp; with_reducible rfl) | go_simp
      (try simp only [Act.put, List.setIfInBounds_toArray]); (try simp only [List.set_cons_succ]); (try simp only [List.set_cons_zero])
      refine r_flt (RG_refl ad.block) 4 22 #[true, true, true, true, true, false, false, false, false, false, false, false, false] (by simp only [List.getElem?_toArray, List.getElem?_cons_succ, List.getElem?_cons_zero]; rfl) (by rfl) (by kernel_rfl) (by kernel_rfl) (by kernel_rfl) (fun _ _ _ _ h => h) rfl (by rfl) ?_
      apply Exists.intro
      apply And.intro
      · intro W hW
        have c := (hB1.mod hW hq1).cell 5
        simp at c
        go_simp; rfl
      (try simp only [Act.put, List.setIfInBounds_toArray]); (try simp only [List.set_cons_succ]); (try simp only [List.set_cons_zero])
      refine r_flt (RG_refl ad.block) 5 23 #[true, true, true, true, true, true, false, false, false, false, false, false, false] (by simp only [List.getElem?_toArray, List.getElem?_cons_succ, List.getElem?_cons_zero]; rfl) (by rfl) (by kernel_rfl) (by kernel_rfl) (by kernel_rfl) (fun _ _ _ _ h => h) rfl (by rfl) ?_
      apply Exists.intro
      apply And.intro
      · intro W hW
        first | (go_simp; with_reducible rfl) | go_simp
      (try simp only [Act.put, List.setIfInBounds_toArray]); (try simp only [List.set_cons_succ]); (try simp only [List.set_cons_zero])
      refine r_flt (RG_refl ad.block) 6 24 #[true, true, true, true, true, true, true, false, false, false, false, false, false] (by simp only [List.getElem?_toArray, List.getElem?_cons_succ, List.getElem?_cons_zero]; rfl) (by rfl) (by kernel_rfl) (by kernel_rfl) (by kernel_rfl) (fun _ _ _ _ h => h) rfl (by rfl) ?_
      apply Exists.intro
      apply And.intro
      · intro W hW
        go_simp; rfl
      (try simp only [Act.put, List.setIfInBounds_toArray]); (try simp only [List.set_cons_succ]); (try simp only [List.set_cons_zero])
      refine r_flt (RG_refl ad.block) 7 25 #[true, true, true, true, true, true, true, true, false, false, false, false, false] (by simp only [List.getElem?_toArray, List.getElem?_cons_succ, List.getElem?_cons_zero]; rfl) (by rfl) (by kernel_rfl) (by kernel_rfl) (by kernel_rfl) (fun _ _ _ _ h => h) rfl (by rfl) ?_
      apply Exists.intro
      apply And.intro
      · intro W hW
        first | (go_simp; with_reducible rfl) | go_simp
      (try simp only [Act.put, List.setIfInBounds_toArray]); (try simp only [List.set_cons_succ]); (try simp only [List.set_cons_zero])
      refine r_one (RG_trans ad.block) 8 (by kernel_rfl) ?_
      refine alt_val 26 #[true, true, true, true, true, true, true, true, true, false, false, false, false] (by simp only [List.getElem?_toArray, List.getElem?_cons_succ, List.getElem?_cons_zero]; rfl) (by rfl) rfl (by rfl) (by go_simp; first | exact ⟨rfl, rfl⟩ | rfl) ?_ ?_
      · exact RG_refl _ _
      (try simp only [Act.put, List.setIfInBounds_toArray]); (try simp only [List.set_cons_succ]); (try simp only [List.set_cons_zero])
      refine r_one (RG_trans ad.block) 9 (by kernel_rfl) ?_
      refine alt_call 27 #[true, true, true, true, true, true, true, true, true, true, false, false, false] (by simp only [List.getElem?_toArray, List.getElem?_cons_succ, List.getElem?_cons_zero]; rfl) (by rfl) rfl (by rfl) (by go_simp; first | exact ⟨rfl, rfl⟩ | rfl) ?_
      with_reducible refine (cloneI_any _ Ax cx x _ rx (by unfold big; omega)).mono ?_
      rintro e' w9 ⟨v9, rfl, o9, b9⟩
      obtain ⟨A9, c9, rfl, lx9, mx9⟩ := o9.form
      refine ⟨_, rfl, RG.of_below b9, ?_⟩
      obtain ⟨ad', hA', -, -, hcell9, hfr9, -, hset9⟩ := OwnSn.store' (oS.below b9) hkS
      injection hA' with hA'
      subst hA'
      have hN := fun j s hj hs => (hN j s hj hs).below b9
      have mm := mm.thenB b9
      (try simp only [Act.put, List.setIfInBounds_toArray]); (try simp only [List.set_cons_succ]); (try simp only [List.set_cons_zero])
      refine r_flt (RG_refl ad.block) 10 28 #[true, true, true, true, true, true, true, true, true, true, true, false, false] (by simp only [List.getElem?_toArray, List.getElem?_cons_succ, List.getElem?_cons_zero]; rfl) (by rfl) (by kernel_rfl) (by kernel_rfl) (by kernel_rfl) (fun _ _ _ _ h => h) rfl (by rfl) ?_
      apply Exists.intro
      apply And.intro
      · intro W hW
        go_simp; rfl
      (try simp only [Act.put, List.setIfInBounds_toArray]); (try simp only [List.set_cons_succ]); (try simp only [List.set_cons_zero])
      refine r_flt (RG_refl ad.block) 11 29 #[true, true, true, true, true, true, true, true, true, true, true, true, false] (by simp only [List.getElem?_toArray, List.getElem?_cons_succ, List.getElem?_cons_zero]; rfl) (by rfl) (by kernel_rfl) (by kernel_rfl) (by kernel_rfl) (fun _ _ _ _ h => h) rfl (by rfl) ?_
      apply Exists.intro
      apply And.intro
      · intro W hW
        first | (go_simp; with_reducible rfl) | go_simp
      (try simp only [Act.put, List.setIfInBounds_toArray]); (try simp only [List.set_cons_succ]); (try simp only [List.set_cons_zero])
      refine r_one (RG_trans ad.block) 12 (by kernel_rfl) ?_
      refine alt_none #[true, true, true, true, true, true, true, true, true, true, true, true, true] (by simp only [List.getElem?_toArray, List.getElem?_cons_succ, List.getElem?_cons_zero]; rfl) (by rfl) rfl (by rfl) (by go_simp; first | exact ⟨rfl, rfl⟩ | rfl) ?_ ?_
      · exact mod_fld _ ad _ _ _
      (try simp only [Act.put, List.setIfInBounds_toArray]); (try simp only [List.set_cons_succ]); (try simp only [List.set_cons_zero])
      refine r_done (by kernel_rfl) ?_
      go_wp2_with fail
      go_roundw
      case rel =>
        have h9 := hset9 A9 x c9
        rw [hSk] at h9
        refine ⟨k + 1, S.set k ⟨L[k].id, L[k].size, A9, x, c9⟩, by omega, by go_num, by rw [List.length_set]; exact hSL.out, ?_, ?_, ?_, h9, mm.trans ((mod_fld _ ad _ _ _).mono fun i _ hi => by rw [hi]; exact HOB.out)⟩
        · rw [← hP]
          unfold pureS
          rw [List.map_set]
          apply List.ext_getElem?
          intro j
          rw [List.getElem?_set]
          split
          · rename_i hj
            subst hj
            rw [if_pos (by rw [List.length_map]; exact hkS), List.getElem?_map, List.getElem?_eq_getElem hkS, hSk]
            simp only [Option.map_some, hx.out]
          · rfl
        · intro j s hj hs
          rw [List.getElem?_set] at hs
          split at hs
          · rename_i hj
            subst hj
            simp only [Option.some.injEq] at hs
            subst hs
            refine ⟨Rd.mod (X := (· = ad.block)) (Rd.imp o9.rdG (D' := DH (w.heap.size + 2) (.slice (some ad) L.length c3)) (fun b _ hb => ⟨by omega, fun e => ?_⟩) (by decide)) (mod_fld _ ad _ _ _) (fun b hb e => hb.2 (by rw [e]; exact HOB.out)), lx9, by unfold maxLen at mx9; exact mx9⟩
            have := hobl b e
            omega
          · exact (hN j s (by omega) hs).mod (X := (· = ad.block)) (mod_fld _ ad _ _ _) (fun b hb e => hb.2 (by rw [e]; exact HOB.out))
        · intro j hj
          rw [List.getElem?_set, if_neg (by omega)]
          exact hO j (by omega)
      case measure => simp [intOf] <;> omega
    · obtain rfl : k = L.length := by omega
      go_wp2_with first
        | (with_reducible show wpList _ _ _ _ _ _
           refine wpList_load_row rfl 27 (.tmp 1) rfl w.heap.size rfl 27 _ (0, 0) _ hB1 Try.underlying27 rfl infoH ?_)
        | (with_reducible show wpList _ _ _ _ _ _
           refine wpList_rowB rfl 27 (.tmp 2) (.tmp 31) rfl (w.heap.size + 1) 27 _ #[.int .i64 u, .int .i64 n, .int .i64 o, .int .i64 hz, .slice A1 m.length c1, .slice A3 L.length c3, .int .i64 la, .int .i64 sq] rfl rfl (hQ4.mod mm (fun e => by have := hq1 _ e; omega)) infoH rfl (hdA_ok ⟨u, n, o, hz, A1, m, c1, A3, L, c3, la, sq⟩) ?_
           intro w6 hq6 m6)
      (try simp only [Exit.inBlock, Exit.then])
      refine bodyPost_ret (results_cell_row rfl _ _ (w.heap.size + 1) _ _ (0, 0) _ rfl hq6 Try.underlying27 rfl infoH) rfl ?_
      have hO : OwnH wr (w.heap.size + 2) ⟨u, n, o, hz, A1, m, c1, A3, S, c3, la, sq⟩ := by
        refine ⟨?_, ?_, l1, by unfold maxLen at k1; exact k1, fun s hs => ?_⟩
        · rw [hSL.out]; exact oS
        · rw [hSL.out]; exact Rd.mod r4 mm (fun b hb => hb.2)
        · obtain ⟨j, hj, rfl⟩ := List.getElem_of_mem hs
          dsimp only
          rw [hSL.out]
          exact hN j _ (by rw [← hSL.out]; exact hj) (List.getElem?_eq_getElem hj)
      refine ⟨⟨u, n, o, hz, A1, m, c1, A3, S, c3, la, sq⟩, ?_, ?_, (hO.mod m6 fun i e => by omega).low (by omega), ((bb.thenM mm bb.size fun i hi e => by have := hq1 i e; omega).thenM m6 (by have := bb.size; have := mm.size; omega) fun i hi e => by omega)⟩
      · dsimp only
        rw [hSL.out]
      · rw [← hP]
end Go.Proofs.Ytpgfhbkggchliaa

/- A head with one snapshot more: the code. -/
namespace Go.Proofs.Ytpgfhbkggchliaa
open Go.RowKit
set_option linter.unusedVariables false

def snapP (p : PH) : PH × Int × Int :=
  if mayP p then (if 4 ≤ p.S.length ∨ 100 ≤ p.last then (zeroP, 0, 110) else ({ p with last := p.last + 1, S := p.S ++ [(p.last + 1, p.size, p.m)], m := freshO p.m }, p.last + 1, 0)) else (zeroP, 0, 60)
/-- A row of snapshots with one more that shares the head's map. -/
theorem OwnH.push {w w' : World} {B : Nat} {h : HdV} {v' : Value} {x : SnV} (k : OwnH w B h) (e : Ext w w' (.slice h.SA h.S.length h.sc) v') (hx : x.A = h.MA ∧ x.m = h.m ∧ x.c = h.mc) :
    RdI w' (DH B v') h.MA h.m ∧ ∀ s ∈ h.S ++ [x], SnR w' (DH B v') s := by
  have h1 : RdI w' (DH B v') h.MA h.m := Rd.imp (RdI.ext k.rm e fun b hb => hb.2) (fun b _ hb => ⟨hb.1.1, hb.2⟩) (by decide)
  refine ⟨h1, fun s hs => ?_⟩
  rcases List.mem_append.1 hs with hs | hs
  · exact ((k.sn s hs).ext e fun b hb => hb.2).imp fun b _ hb => ⟨hb.1.1, hb.2⟩
  · obtain rfl : s = x := by simpa using hs
    obtain ⟨e1, e2, e3⟩ := hx
    unfold SnR
    rw [e1, e2, e3]
    exact ⟨h1, k.lm, k.mm⟩
theorem all8 {a b c d e f g i : Value} (h1 : a.oneCell' = true) (h2 : b.oneCell' = true) (h3 : c.oneCell' = true) (h4 : d.oneCell' = true) (h5 : e.oneCell' = true) (h6 : f.oneCell' = true) (h7 : g.oneCell' = true) (h8 : i.oneCell' = true) :
    (#[a, b, c, d, e, f, g, i] : Array Value).all (·.oneCell') = true := by simp [h1, h2, h3, h4, h5, h6, h7, h8]
/-- The head in memory that is told of one's own row and of a map beside it. -/
theorem hd_of {w : World} {B : Nat} {u n o size last seq : Int} {MA SA : Option Addr} {m : List Int} {mc sc : Nat} {S : List SnV} {D : Nat → Prop} (hm : RdI w D MA m) (lm : m.length ≤ mc) (mm : mc ≤ 9223372036854775807) (hS : OwnSn w B (.slice SA S.length sc) S)
    (l : S.length ≤ sc) (k : sc ≤ maxLen) (hs : ∀ s ∈ S, SnR w (DH B (.slice SA S.length sc)) s) : HdR w (fun _ => True) ⟨u, n, o, size, MA, m, mc, SA, S, sc, last, seq⟩ :=
  ⟨Rd.imp hm (fun _ _ _ => trivial) (by decide), lm, mm, (hS.rd).imp snC_pos fun _ _ _ => trivial, l, by unfold maxLen at k; exact k, fun s h => (hs s h).imp fun _ _ _ => trivial⟩
theorem results_cell_tmp2 {P : Program} {fn : Func} {p t s : Tmp} {ty : TypeId} (h : fn.results = #[.cell p ty, .tmp t, .tmp s]) (tmps : Array Value) (w : World) (g : Nat) (T : TypeId) (cs : Array Value) (fr : Nat × Nat) (d : TypeDesc)
    (hp : tmps.getD p undef = .pointer (some ⟨g, 0, none⟩)) (hg : w.heap[g]? = some (.cells cs T fr))
    (hu : P.underlying ty = some d) (hd : (match d with | .struct _ | .array _ _ => true | _ => false) = true) (hi : (P.info? ty).map (·.size) = some cs.size) :
    (results fn tmps).run P w = .ok (.tuple #[.agg cs, tmps.getD t undef, tmps.getD s undef]) w := by
  have hp' : tmps[p]?.getD undef = .pointer (some ⟨g, 0, none⟩) := by simpa using hp
  simp [results, h, hp', asAddr, run_loadVar_row w g T ty cs fr d hg hu hd hi]
theorem exec_load_row {ρ : Operand → Value} {o : Oper} {w : World} {ty : TypeId} {x : Operand} {g : Nat} {t : TypeId} {cs : Array Value} {fs : Array Field} (ho : o.op = .load ty x) (hx : ρ x = .pointer (some ⟨g, 0, none⟩)) (hg : Blk w g t cs)
    (hu : Try.prog.underlying ty = some (.struct fs)) (hi : (Try.prog.info? ty).map (·.size) = some cs.size) : (execOp ρ o).run Try.prog w = .ok (.value (.agg cs)) w := by
  unfold execOp
  simp only [ho, hx, Instr.loadAt, Instr.sureAddr, Sem.run_bind, Sem.run_pure, Result.andThen_ok, run_loadVar_row w g t ty cs (0, 0) _ hg hu rfl hi]
theorem exec_store_row {ρ : Operand → Value} {o : Oper} {w : World} {ty : TypeId} {x y : Operand} {g : Nat} {t : TypeId} {old cells : Array Value} (ho : o.op = .store ty x y) (hx : ρ x = .pointer (some ⟨g, 0, none⟩)) (hy : ρ y = .agg cells) (hg : Blk w g t old)
    (hi : (Try.prog.info? ty).map (·.size) = some cells.size) (hold : old.size = cells.size) (h1 : cells.all (·.oneCell') = true) : (execOp ρ o).run Try.prog w = .ok .skip (w.setRow g cells) := by
  unfold execOp
  simp only [ho, hx, hy, Instr.storeAt, Instr.sureAddr, Sem.run_bind, Sem.run_pure, Result.andThen_ok, run_storeVar_row w g t ty old cells hg hi hold h1]

set_option maxHeartbeats 8000000 in
set_option maxRecDepth 100000 in
theorem Snap_any6 (D : Nat → Prop) (h : HdV) (w : World) (hr : HdR w D h) :
    Calls Try.prog 28 #[hdV h] w fun e w' => ∃ h' : HdV, e = .returned (.tuple #[hdV h', .int .i64 (snapP h.p).2.1, .int .i64 (snapP h.p).2.2]) ∧ h'.p = (snapP h.p).1 ∧ HdR w' (fun _ => True) h' ∧ Below w.heap.size w w' := by
  have b1 := below_new w (.cells (hdA h) 27)
  have hB := Blk.new w 27 (hdA h)
  have s1 : (w.alloc (.cells (hdA h) 27)).heap.size = w.heap.size + 1 := Array.size_push ..
  have b2 := below_new (w.alloc (.cells (hdA h) 27)) (.cells hzA 27)
  have hQ := Blk.new (w.alloc (.cells (hdA h) 27)) 27 hzA
  have s2 : ((w.alloc (.cells (hdA h) 27)).alloc (.cells hzA 27)).heap.size = w.heap.size + 1 + 1 := by rw [← s1]; exact Array.size_push ..
  rw [s1] at hQ
  have hB := hB.below b2
  have bb := b1.thenB' b2
  have hr0 := (hr.below b1).below b2
  clear b1 b2 s1
  have hmp := may_p h
  have hck := Check_any6 D h _ hr0
  generalize hw0 : (w.alloc (.cells (hdA h) 27)).alloc (.cells hzA 27) = w0 at *
  have hs0 : w.heap.size + 2 ≤ w0.heap.size := by omega
  clear s2 hr
  cases hmay : mayH h
  focus
    have E : Hid (snapP h.p = (zeroP, 0, 60)) := by unfold Hid snapP; rw [← hmp, hmay]; rfl
    rw [hmay, show eno false 60 = 60 from rfl] at hck
    clear hmay hmp hr0
    obtain ⟨u, n, o, hz, MA, m, mc, A, L, sc, la, sq⟩ := h
    unfold hdV at *
    unfold hdA hzA at *
    dsimp only at *
    go_enter Try.func28, Try.ntmps28
    go_wp2_with first
      | (with_reducible show wpList _ _ _ _ _ _
         refine wpList_load_row rfl 27 (.tmp 1) rfl w.heap.size rfl 27 _ (0, 0) _ hB Try.underlying27 rfl infoH ?_)
    refine hck.mono ?_
    rintro e w2 ⟨rfl, b2⟩
    have hQ := hQ.below b2
    go_wp2_with first
      | (with_reducible show wpList _ _ _ _ _ _
         refine wpList_rowB rfl 27 (.tmp 2) (.tmp 10) rfl (w.heap.size + 1) 27 _ hzA rfl rfl hQ infoH rfl hzA_ok ?_
         intro w4 hq4 m4)
    (try simp only [Exit.inBlock, Exit.then])
    refine bodyPost_ret (results_cell_tmp2 rfl _ _ (w.heap.size + 1) _ _ (0, 0) _ rfl hq4 Try.underlying27 rfl infoH) rfl ?_
    rw [E.out]
    have bb := bb.thenB' b2
    exact ⟨zeroH, rfl, rfl, freshH_rd 0 0 0 0 _ _, bb.thenM m4 bb.size (fun i hi e => by omega)⟩
  have hbd := mayP_bd (hmp ▸ hmay)
  have E0 : snapP h.p = if 4 ≤ h.p.S.length ∨ 100 ≤ h.p.last then (zeroP, 0, 110) else ({ h.p with last := h.p.last + 1, S := h.p.S ++ [(h.p.last + 1, h.p.size, h.p.m)], m := freshO h.p.m }, h.p.last + 1, 0) := by unfold snapP; rw [← hmp, hmay]; rfl
  have E0 := Lib.hid E0
  rw [hmay, show eno true 60 = 0 from rfl] at hck
  clear hmay hmp
  have hmbd : h.m.length ≤ 512 := by
    have := hbd.size.2.2
    unfold mayO at this
    simp only [Bool.and_eq_true, decide_eq_true_eq] at this
    exact this.1.1
  have hSbd : h.S.length ≤ 4 := by have := hbd.four; unfold HdV.p at this; rw [pure_len] at this; exact this
  have hsbd : ∀ s ∈ h.S, s.m.length ≤ 1000 := fun s hs => by
    have hm : (s.id, s.size, s.m) ∈ h.p.S := List.mem_map.2 ⟨s, hs, rfl⟩
    have := (hbd.snaps _ hm).2.2.2.2
    unfold mayO at this
    simp only [Bool.and_eq_true, decide_eq_true_eq] at this
    have := this.1.1
    omega
  obtain ⟨p9, p10⟩ := hbd.last
  clear hbd
  have hown := fun w2 (hr : HdR w2 D h) => own_any6 D h w2 hr (by omega) (by omega) hsbd
  have hhd : hdV h = .agg (hdA h) := rfl
  obtain ⟨u, n, o, hz, MA, m, mc, A, L, sc, la, sq⟩ := h
  unfold hdV at *
  unfold hdA hzA HdV.p at *
  dsimp only at *
  have E : Hid (snapP ⟨u, n, o, hz, m, pureS L, la, sq⟩ = if 4 ≤ L.length ∨ 100 ≤ la then (zeroP, 0, 110) else (⟨u, n, o, hz, freshO m, pureS L ++ [(la + 1, hz, m)], la + 1, sq⟩, la + 1, 0)) := by
    unfold Hid
    rw [E0.out, pure_len]
  clear E0
  go_enter Try.func28, Try.ntmps28
  go_wp2_with first
    | (with_reducible show wpList _ _ _ _ _ _
       refine wpList_load_row rfl 27 (.tmp 1) rfl w.heap.size rfl 27 _ (0, 0) _ hB Try.underlying27 rfl infoH ?_)
  refine hck.mono ?_
  clear hck hw0
  rintro e w2 ⟨rfl, b2⟩
  have hB := hB.below b2
  have hQ := hQ.below b2
  have hr0 := hr0.below b2
  have bb := bb.thenB' b2
  have hs2 : w.heap.size + 2 ≤ w2.heap.size := by have := b2.size; omega
  clear b2
  have c5 := hB.cell 5
  have c6 := hB.cell 6
  simp at c5 c6
  by_cases h4 : (4 : Int) ≤ (L.length : Int)
  focus
    have F : Hid (snapP ⟨u, n, o, hz, m, pureS L, la, sq⟩ = (zeroP, 0, 110)) := by unfold Hid; rw [E.out, if_pos (by omega)]
    clear E hown
    go_wp2_with first
      | (with_reducible show wpList _ _ _ _ _ _
         refine wpList_rowB rfl 27 (.tmp 2) (.tmp 21) rfl (w.heap.size + 1) 27 _ hzA rfl rfl hQ infoH rfl hzA_ok ?_
         intro w4 hq4 m4)
    (try simp only [Exit.inBlock, Exit.then])
    refine bodyPost_ret (results_cell_tmp2 rfl _ _ (w.heap.size + 1) _ _ (0, 0) _ rfl hq4 Try.underlying27 rfl infoH) rfl ?_
    rw [F.out]
    exact ⟨zeroH, rfl, rfl, freshH_rd 0 0 0 0 _ _, bb.thenM m4 bb.size (fun i hi e => by omega)⟩
  by_cases h5 : (100 : Int) ≤ la
  focus
    have F : Hid (snapP ⟨u, n, o, hz, m, pureS L, la, sq⟩ = (zeroP, 0, 110)) := by unfold Hid; rw [E.out, if_pos (by omega)]
    clear E hown
    go_wp2_with first
      | (with_reducible show wpList _ _ _ _ _ _
         refine wpList_rowB rfl 27 (.tmp 2) (.tmp 21) rfl (w.heap.size + 1) 27 _ hzA rfl rfl hQ infoH rfl hzA_ok ?_
         intro w4 hq4 m4)
    (try simp only [Exit.inBlock, Exit.then])
    refine bodyPost_ret (results_cell_tmp2 rfl _ _ (w.heap.size + 1) _ _ (0, 0) _ rfl hq4 Try.underlying27 rfl infoH) rfl ?_
    rw [F.out]
    exact ⟨zeroH, rfl, rfl, freshH_rd 0 0 0 0 _ _, bb.thenM m4 bb.size (fun i hi e => by omega)⟩
  have F : Hid (snapP ⟨u, n, o, hz, m, pureS L, la, sq⟩ = (⟨u, n, o, hz, freshO m, pureS L ++ [(la + 1, hz, m)], la + 1, sq⟩, la + 1, 0)) := by unfold Hid; rw [E.out, if_neg (by omega)]
  clear E
  have hown := hown w2 hr0
  go_wp2_with first
    | (with_reducible show wpList _ _ _ _ _ _
       refine wpList_load_row rfl 27 (.tmp 1) rfl w.heap.size rfl 27 _ (0, 0) _ hB Try.underlying27 rfl infoH ?_)
  refine hown.mono ?_
  clear hown c5 c6
  rintro e w3 ⟨⟨u', n', o', hz', MA', m', mc', A', L', sc', la', sq'⟩, rfl, hp, hO, b3⟩
  simp only [PH.mk.injEq] at hp
  obtain ⟨rfl, rfl, rfl, rfl, rfl, hPL, rfl, rfl⟩ := hp
  have hB := hB.below b3
  have hQ := hQ.below b3
  have bb := bb.thenB' b3
  have hO := hO.low hs2
  clear b3 hr0
  have hL4 : L'.length ≤ 4 := by rw [← pure_len L', hPL, pure_len]; exact hSbd
  go_wp2_with first
    | (with_reducible show wpList _ _ _ _ _ _
       refine wpList_rowB rfl 27 (.tmp 1) (.tmp 23) rfl w.heap.size 27 _ (hdA ⟨u', n', o', hz', MA', m', mc', A', L', sc', la', sq'⟩) rfl rfl hB infoH rfl (hdA_ok _) ?_
       intro w4 hB m4
       have c6 := hB.cell 6
       unfold hdA at c6
       simp at c6)
    | (with_reducible show wpList _ _ _ _ _ _
       refine wpList_fldB rfl 3 (.tmp 27) (.tmp 26) rfl w.heap.size 6 27 _ (.int .i64 (la' + 1)) rfl rfl rfl infoI1 hB 8 rfl (by decide) ?_
       intro w5 hB m5
       replace hB : Blk w5 w.heap.size 27 #[.int .i64 u', .int .i64 n', .int .i64 o', .int .i64 hz', .slice MA' m'.length mc', .slice A' L'.length sc', .int .i64 (la' + 1), .int .i64 sq'] := hB
       have c3 := hB.cell 3
       have c4 := hB.cell 4
       have c5 := hB.cell 5
       have c6 := hB.cell 6
       simp at c3 c4 c5 c6
       have hO5 := (hO.mod m4 (fun i e => by omega)).mod m5 (fun i e => by omega)
       have bb5 := (bb.thenM m4 bb.size (fun i hi e => by omega)).thenM m5 (by have := bb.size; have := m4.size; omega) (fun i hi e => by omega)
       have hQ5 := (hQ.mod m4 (by omega)).mod m5 (by omega)
       have hs5 : w.heap.size + 2 ≤ w5.heap.size := by have := hQ5.lt; omega
       have bn := below_new w5 (.cells #[.int .i64 (la' + 1), .int .i64 hz', .slice MA' m'.length mc'] 52)
       have hO6 := hO5.below bn
       have rS := rd_newSn w5 ⟨la' + 1, hz', MA', m', mc'⟩
       rw [← snF_single] at rS
       have hLn : L'.length + [(⟨la' + 1, hz', MA', m', mc'⟩ : SnV)].length ≤ 1000000 := by simp only [List.length_singleton]; omega
       have hbs6 : w.heap.size + 2 ≤ (w5.alloc (.cells #[.int .i64 (la' + 1), .int .i64 hz', .slice MA' m'.length mc'] 52)).heap.size := by have := bn.size; omega)
    | (at_builtin
       refine wpList_appSn rfl (.tmp 29) (.tmp 37) rfl (w.heap.size + 2) (.slice A' L'.length sc') L' [⟨la' + 1, hz', MA', m', mc'⟩] rfl hO6.own _ _ 1 1 rfl rfl rS hLn hbs6 ?_
       intro v7 w7 o7 e7
       have hB7 := (hB.below bn).ext e7 (fun e => by have := (hO6.own.lt _ e).1; omega)
       have hQ7 := (hQ5.below bn).ext e7 (fun e => by have := (hO6.own.lt _ e).1; omega))
    | (with_reducible show wpList _ _ _ _ _ _
       refine wpList_fldB rfl 25 (.tmp 39) (.tmp 38) rfl w.heap.size 5 27 _ v7 rfl rfl (own_one o7) infoS1 hB7 8 rfl (by decide) ?_
       intro w8 hB8 m8
       replace hB8 : Blk w8 w.heap.size 27 #[.int .i64 u', .int .i64 n', .int .i64 o', .int .i64 hz', .slice MA' m'.length mc', v7, .int .i64 (la' + 1), .int .i64 sq'] := hB8
       have d4 := hB8.cell 4
       simp at d4)
  obtain ⟨rm7, sn7⟩ := hO6.push e7 ⟨rfl, rfl, rfl⟩ (x := ⟨la' + 1, hz', MA', m', mc'⟩)
  have hv7 : ∀ b, v7.ownBlock = some b → w.heap.size + 2 ≤ b := fun b hb => (o7.lt b hb).1
  have bb7 := (bb5.thenB' bn).trans (e7.below hO6.own (Nat.le_trans (by omega) (Nat.le_refl (w.heap.size + 2))) (by have := bb5.size; have := bn.size; omega))
  have rm8 := Rd.mod rm7 m8 (fun b hb e => by have := hb.1; omega)
  have sn8 := fun s hs => (sn7 s hs).mod m8 (fun b hb e => by have := hb.1; omega)
  have o8 := o7.mod m8 (fun b hb e => by have := hv7 b hb; omega)
  have hQ8 := hQ7.mod m8 (by omega)
  have bb8 := bb7.thenM m8 bb7.size (fun i hi e => by omega)
  have hs8 : w.heap.size + 2 ≤ w8.heap.size := by have := m8.size; have := e7.grown.size; have := bn.size; omega
  have hone := own_one o7
  have hF := Fresh_any _ MA' mc' m' w8 rm8
  have lm := hO.lm
  have mm := hO.mm
  dsimp only at lm mm
  clear hB hB7 hQ hQ5 hQ7 hO hO5 hO6 bb bb5 bb7 rm7 sn7 o7 e7 m8 m4 m5 bn rS hLn hbs6 c3 c4 c5 c6
  generalize hfm : freshO m' = fm at *
  refine hF.mono ?_
  clear hF
  rintro e w9 ⟨A9, c9, rfl, r9, l9, k9, b9⟩
  have hB9 := hB8.below b9
  go_wp2_with first
    | (with_reducible show wpList _ _ _ _ _ _
       refine wpList_fldB rfl 24 (.tmp 43) (.tmp 42) rfl w.heap.size 4 27 _ (.slice A9 fm.length c9) rfl rfl rfl infoM1 hB9 8 rfl (by decide) ?_
       intro w10 hBz m10
       replace hBz : Blk w10 w.heap.size 27 #[.int .i64 u', .int .i64 n', .int .i64 o', .int .i64 hz', .slice A9 fm.length c9, v7, .int .i64 (la' + 1), .int .i64 sq'] := hBz)
  have rm9 : RdI w10 (fun b => w.heap.size + 2 ≤ b) A9 fm := Rd.mod (Rd.imp r9.rd (D' := fun b => w.heap.size + 2 ≤ b) (fun b _ hb => Nat.le_trans hs8 hb) (by decide)) m10 (fun b hb e => by omega)
  have sn9 := fun s hs => ((sn8 s hs).below b9).mod m10 (fun b hb e => by have := hb.1; omega)
  have o9 := (o8.below b9).mod m10 (fun b hb e => by have := hv7 b hb; omega)
  have hQ9 := (hQ8.below b9).mod m10 (by omega)
  have bb9 := (bb8.thenB' b9).thenM m10 (bb8.thenB' b9).size (fun i hi e => by omega)
  clear rm8 sn8 o8 hQ8 bb8 b9 m10 hB8 hB9 r9 d4
  have hq12 : ¬ w.heap.size = w.heap.size + 1 := by omega
  refine r_start (R := RG (w.heap.size + 1)) (by rfl) (n := 6) (L := #[false, false, false, false, false, false]) rfl rfl ?_
  have bd : Below w10.heap.size w10 w10.drew := (Below.refl _ _).drew
  have hBz := hBz.below bd
  have hQ9 := hQ9.below bd
  have rm9 := rm9.below bd
  have sn9 := fun s hs => (sn9 s hs).below bd
  have o9 := o9.below bd
  have bb9 := bb9.thenB' bd
  clear bd
  generalize w10.drew = wd at *
  have hall := all8 (a := .int .i64 u') (b := .int .i64 n') (c := .int .i64 o') (d := .int .i64 hz') (e := .slice A9 fm.length c9) (f := v7) (g := .int .i64 (la' + 1)) (i := .int .i64 sq') rfl rfl rfl rfl rfl hone rfl rfl
  refine r_flt (RG_refl (w.heap.size + 1)) 0 44 #[true, false, false, false, false, false] (by simp only [List.getElem?_toArray, List.getElem?_cons_zero]; rfl) (by rfl) (by kernel_rfl) (by kernel_rfl) (by kernel_rfl) (fun _ _ _ _ h => h) rfl (by rfl) ?_
  apply Exists.intro
  apply And.intro
  · intro W hW
    exact exec_load_row rfl rfl (hBz.mod hW hq12) Try.underlying27 infoH
  (try simp only [Act.put, List.setIfInBounds_toArray]); (try simp only [List.set_cons_succ]); (try simp only [List.set_cons_zero])
  refine r_flt (RG_refl (w.heap.size + 1)) 1 45 #[true, true, false, false, false, false] (by simp only [List.getElem?_toArray, List.getElem?_cons_succ, List.getElem?_cons_zero]; rfl) (by rfl) (by kernel_rfl) (by kernel_rfl) (by kernel_rfl) (fun _ _ _ _ h => h) rfl (by rfl) ?_
  apply Exists.intro
  apply And.intro
  · intro W hW
    first | (go_simp; with_reducible rfl) | go_simp
  (try simp only [Act.put, List.setIfInBounds_toArray]); (try simp only [List.set_cons_succ]); (try simp only [List.set_cons_zero])
  refine r_flt (RG_refl (w.heap.size + 1)) 2 46 #[true, true, true, false, false, false] (by simp only [List.getElem?_toArray, List.getElem?_cons_succ, List.getElem?_cons_zero]; rfl) (by rfl) (by kernel_rfl) (by kernel_rfl) (by kernel_rfl) (fun _ _ _ _ h => h) rfl (by rfl) ?_
  apply Exists.intro
  apply And.intro
  · intro W hW
    have c := (hBz.mod hW hq12).cell 6
    simp at c
    go_simp; rfl
  (try simp only [Act.put, List.setIfInBounds_toArray]); (try simp only [List.set_cons_succ]); (try simp only [List.set_cons_zero])
  refine r_one (RG_trans (w.heap.size + 1)) 3 (by kernel_rfl) ?_
  refine alt_none #[true, true, true, true, false, false] (by simp only [List.getElem?_toArray, List.getElem?_cons_succ, List.getElem?_cons_zero]; rfl) (by rfl) rfl (by rfl) (exec_store_row (cells := #[.int .i64 u', .int .i64 n', .int .i64 o', .int .i64 hz', .slice A9 fm.length c9, v7, .int .i64 (la' + 1), .int .i64 sq']) rfl rfl rfl hQ9 infoH rfl hall) ?_ ?_
  · exact mod_setRow _
  (try simp only [Act.put, List.setIfInBounds_toArray]); (try simp only [List.set_cons_succ]); (try simp only [List.set_cons_zero])
  refine r_flt (RG_refl (w.heap.size + 1)) 4 3 #[true, true, true, true, true, false] (by simp only [List.getElem?_toArray, List.getElem?_cons_succ, List.getElem?_cons_zero]; rfl) (by rfl) (by kernel_rfl) (by kernel_rfl) (by kernel_rfl) (fun _ _ _ _ h => h) rfl (by rfl) ?_
  apply Exists.intro
  apply And.intro
  · intro W hW
    first | (go_simp; with_reducible rfl) | go_simp
  (try simp only [Act.put, List.setIfInBounds_toArray]); (try simp only [List.set_cons_succ]); (try simp only [List.set_cons_zero])
  refine r_flt (RG_refl (w.heap.size + 1)) 5 4 #[true, true, true, true, true, true] (by simp only [List.getElem?_toArray, List.getElem?_cons_succ, List.getElem?_cons_zero]; rfl) (by rfl) (by kernel_rfl) (by kernel_rfl) (by kernel_rfl) (fun _ _ _ _ h => h) rfl (by rfl) ?_
  apply Exists.intro
  apply And.intro
  · intro W hW
    first | (go_simp; with_reducible rfl) | go_simp
  (try simp only [Act.put, List.setIfInBounds_toArray]); (try simp only [List.set_cons_succ]); (try simp only [List.set_cons_zero])
  refine r_done (by kernel_rfl) ?_
  go_wp2_with fail
  (try simp only [Exit.inBlock, Exit.then])
  refine bodyPost_ret (results_cell_tmp2 rfl _ _ (w.heap.size + 1) _ _ (0, 0) _ rfl (setRow_heap _ _ _ _ _ _ hQ9) Try.underlying27 rfl infoH) rfl ?_
  rw [F.out]
  have m11 : Mod (· = w.heap.size + 1) wd (wd.setRow (w.heap.size + 1) #[.int .i64 u', .int .i64 n', .int .i64 o', .int .i64 hz', .slice A9 fm.length c9, v7, .int .i64 (la' + 1), .int .i64 sq']) := mod_setRow _
  obtain ⟨A7, k7, rfl, l7, x7⟩ := o9.form
  refine ⟨⟨u', n', o', hz', A9, fm, c9, A7, _, k7, la' + 1, sq'⟩, rfl, ?_, hd_of (Rd.mod rm9 m11 (fun b hb e => by omega)) l9 k9 (o9.mod m11 (fun b hb e => by have := hv7 b hb; omega)) l7 x7 (fun s hs => (sn9 s hs).mod m11 (fun b hb e => by have := hb.1; omega)), bb9.thenM m11 bb9.size (fun i hi e => by omega)⟩
  show PH.mk u' n' o' hz' fm _ (la' + 1) sq' = _
  rw [← hPL]
  unfold pureS
  rw [List.map_append]
  rfl
end Go.Proofs.Ytpgfhbkggchliaa
