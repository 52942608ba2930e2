/- A net in memory, and what only reads it. -/
import Derived.Test.YtpfbiamgnmbhnaaNt2
import Derived.Test.YtpfbiamgnmbhnaaCan
namespace Go.Proofs.Ytpfbiamgnmbhnaa
open Go.RowKit
set_option linter.unusedVariables false
set_option maxRecDepth 100000

/-! ### plain -/
abbrev Msg := (Int × Int) × List UInt8
def bagN (S : List Msg) (k : Int × Int) : List (List UInt8) := (S.filter fun e => e.1 == k).map (·.2)
def EndP (n : Int) : Prop := 0 ≤ n ∧ n ≤ 8
instance (n : Int) : Decidable (EndP n) := by unfold EndP; infer_instance
theorem bagN_len (S : List Msg) (k : Int × Int) : (bagN S k).length ≤ S.length := by unfold bagN; rw [List.length_map]; exact List.length_filter_le _ _
theorem bagN_app (S : List Msg) (k : Int × Int) (b : List UInt8) (j : Int × Int) : bagN (S ++ [(k, b)]) j = if j = k then bagN S j ++ [b] else bagN S j := by
  unfold bagN
  rw [List.filter_append, List.map_append]
  by_cases h : j = k
  · subst h; simp
  · have h' : ¬ k = j := fun e => h e.symm
    simp [h, h']

/-! ### a row of slices of bytes -/
structure BV where
  A : Option Addr
  l : List UInt8
  c : Nat
def cS (s : BV) : Value := .slice s.A s.l.length s.c
theorem infoS : (Try.prog.info? 27).map (fun i => (i.zero, i.size, i.bytes)) = some (some (.slice none 0 0), 1, 24) := by kernel_rfl
/-- A row of slices of bytes, of the call's own. -/
def OwnS (w : World) (base : Nat) (v : Value) (vs : List Value) : Prop := w.ownsRow base 27 1 v vs.length vs
def Sep (u v : Value) : Prop := ∀ k, u.ownBlock = some k → v.ownBlock ≠ some k
theorem Sep.symm {u v : Value} (h : Sep u v) : Sep v u := fun k h1 h2 => h k h2 h1
theorem Sep.nil (u : Value) : Sep u (.slice none 0 0) := fun k _ h2 => by simp [Value.ownBlock] at h2

/-! ### the memory of a net -/
/-- What a net's blocks look like. -/
def nettyO : Option Obj → Prop
  | some (.map _ _) => True
  | some (.cells _ T _) => T = 50 ∨ T = 27
  | _ => False
def NX (base : Nat) (w : World) (k : Nat) : Prop := base ≤ k ∧ nettyO w.heap[k]?
/-- Only blocks that look like a net's have turned. -/
def NMod (base : Nat) (w w' : World) : Prop := Mod (NX base w) w w'
theorem NMod.refl (base : Nat) (w : World) : NMod base w w := Mod.refl _ _
theorem NMod.trans {base : Nat} {a b c : World} (h : NMod base a b) (k : NMod base b c) : NMod base a c := Mod.then_ h k fun i hi hy => by
  by_cases hx : NX base a i
  · exact hx
  · have e := h.block i hi hx
    exact ⟨hy.1, by rw [← e]; exact hy.2⟩
theorem NMod.of_below {base : Nat} {a b : World} (h : Below a.heap.size a b) : NMod base a b := Mod.of_below h _
theorem NMod.below {base : Nat} {a b : World} (h : NMod base a b) (hb : base ≤ a.heap.size) : Below base a b := Mod.below h hb fun k hk hx => by have := hx.1; omega
theorem NMod.low {base b2 : Nat} {a b : World} (h : NMod base a b) (hb : b2 ≤ base) : NMod b2 a b := Mod.mono h fun k _ hx => ⟨Nat.le_trans hb hx.1, hx.2⟩
/-- One block of a net's has turned. -/
theorem NMod.of_one {base g : Nat} {a b : World} (h : Mod (· = g) a b) (hb : base ≤ g) (hn : nettyO a.heap[g]?) : NMod base a b := Mod.mono h fun k _ hk => by subst hk; exact ⟨hb, hn⟩
theorem NMod.own {base b2 : Nat} {a b : World} {e : TypeId} {size n : Nat} {v : Value} {xs : List Value} (m : NMod base a b) (h : a.ownsRow b2 e size v n xs) (h1 : e ≠ 50) (h2 : e ≠ 27) : b.ownsRow b2 e size v n xs := by
  refine ⟨h.1, ?_⟩
  rcases h.2 with h0 | ⟨g, cap, cur, hv, hg, hh, r⟩
  · exact .inl h0
  · refine .inr ⟨g, cap, cur, hv, hg, ?_, r⟩
    rw [Mod.block m g (Array.getElem?_eq_some_iff.1 hh).1 (fun hx => by
      have := hx.2
      rw [hh] at this
      rcases this with h | h
      · exact h1 h
      · exact h2 h)]
    exact hh
theorem NMod.ownB {base b2 : Nat} {a b : World} {v : Value} {xs : List UInt8} (m : NMod base a b) (h : OwnB a b2 v xs) : OwnB b b2 v xs := NMod.own m h (by decide) (by decide)
theorem NMod.blk {base g : Nat} {a b : World} {t : TypeId} {cs : Array Value} (m : NMod base a b) (h : Blk a g t cs) (h1 : t ≠ 50) (h2 : t ≠ 27) : Blk b g t cs := Blk.mod h m fun hx => by
  have := hx.2
  unfold Blk at h
  rw [h] at this
  rcases this with h | h
  · exact h1 h
  · exact h2 h

/-! ### what stands in whose block -/
theorem own_blk {w : World} {base : Nat} {e : TypeId} {size n : Nat} {v : Value} {xs : List Value} (h : w.ownsRow base e size v n xs) (k : Nat) (hk : v.ownBlock = some k) : k < w.heap.size := by
  rcases h.2 with ⟨rfl, _⟩ | ⟨g, cap, cur, rfl, hg, hh, r⟩
  · simp [Value.ownBlock] at hk
  · have : g = k := by simpa [Value.ownBlock] using hk
    subst this
    exact (Array.getElem?_eq_some_iff.1 hh).1
theorem own_keepX {w w' : World} {base : Nat} {e : TypeId} {size n : Nat} {v : Value} {xs : List Value} (h : w.ownsRow base e size v n xs) (hk : ∀ k cs, v.ownBlock = some k → w.heap[k]? = some (.cells cs e (0, 0)) → w'.heap[k]? = w.heap[k]?) : w'.ownsRow base e size v n xs := by
  refine ⟨h.1, ?_⟩
  rcases h.2 with h0 | ⟨g, cap, cur, hv, hg, hh, r⟩
  · exact .inl h0
  · exact .inr ⟨g, cap, cur, hv, hg, (hk g cur (by rw [hv]; rfl) hh).trans hh, r⟩
theorem own_low {w : World} {base b2 : Nat} {e : TypeId} {size n : Nat} {v : Value} {xs : List Value} (h : w.ownsRow base e size v n xs) (hb : b2 ≤ base) : w.ownsRow b2 e size v n xs :=
  h.imp id fun o => o.imp id fun ⟨g, c, cur, h1, h2, h3⟩ => ⟨g, c, cur, h1, Nat.le_trans hb h2, h3⟩

theorem own_below' {w w' : World} {base : Nat} {e : TypeId} {size n : Nat} {v : Value} {xs : List Value} (h : w.ownsRow base e size v n xs) (hb : Below w.heap.size w w') : w'.ownsRow base e size v n xs := own_keepX h fun k cs _ hB => hb.block k (Array.getElem?_eq_some_iff.1 hB).1

/-- A bag's row: nil, or at the head of a block of the net's; its room is all of the block, or it is full. -/
def BagO (w : World) (base : Nat) (v : Value) (vs : List Value) : Prop :=
  (v = .slice none 0 0 ∧ vs = []) ∨ ∃ g cap cs, v = .slice (some ⟨g, 0, none⟩) vs.length cap ∧ base ≤ g ∧ Blk w g 27 cs ∧ vs.length ≤ cap ∧ cap ≤ maxLen ∧ cs.toList.take vs.length = vs ∧ (cs.size = cap ∨ cap = vs.length)
section
variable {w w' : World} {base : Nat} {v : Value} {vs : List Value}
theorem BagO.of_own (h : OwnS w base v vs) : BagO w base v vs := by
  rcases h.2 with ⟨h1, h2⟩ | ⟨g, cap, cur, hv, hg, hh, hnc, hcm, hcs, ht⟩
  · exact .inl ⟨h1, List.eq_nil_of_length_eq_zero h2⟩
  · exact .inr ⟨g, cap, cur, hv, hg, hh, hnc, hcm, by simpa using ht, .inl (by simpa using hcs)⟩
theorem BagO.form (h : BagO w base v vs) : ∃ A c, v = .slice A vs.length c ∧ vs.length ≤ c ∧ c ≤ 9223372036854775807 := by
  rcases h with ⟨rfl, rfl⟩ | ⟨g, cap, cs, rfl, _, _, h1, h2, _⟩
  · exact ⟨none, 0, rfl, Nat.le_refl _, by omega⟩
  · exact ⟨_, cap, rfl, h1, by unfold maxLen at h2; exact h2⟩
theorem BagO.rd (h : BagO w base v vs) {A : Option Addr} {n c : Nat} (hv : v = .slice A n c) : n = vs.length ∧ Rd w (fun k => v.ownBlock = some k) 1 A vs.length vs := by
  subst hv
  rcases h with ⟨h, rfl⟩ | ⟨g, cap, cs, h, _, hB, h1, h2, ht, _⟩
  · injection h with hA hn hc
    subst hA hn hc
    exact ⟨rfl, Rd.none_⟩
  · injection h with hA hn hc
    subst hA hn hc
    refine ⟨rfl, by simp, fun hn => ⟨_, rfl, rfl, fun j u hu => ?_⟩⟩
    rw [add_head, hB.cell]
    have hj := (List.getElem?_eq_some_iff.1 hu).1
    rw [← ht, List.getElem?_take, if_pos hj] at hu
    simpa using hu
theorem BagO.keep (h : BagO w base v vs) (hk : ∀ k cs, v.ownBlock = some k → Blk w k 27 cs → w'.heap[k]? = w.heap[k]?) : BagO w' base v vs := by
  rcases h with h | ⟨g, cap, cs, hv, hg, hB, r⟩
  · exact .inl h
  · exact .inr ⟨g, cap, cs, hv, hg, (hk g cs (by rw [hv]; rfl) hB).trans hB, r⟩
theorem BagO.below (h : BagO w base v vs) (hb : Below w.heap.size w w') : BagO w' base v vs := h.keep fun k cs _ hB => hb.block k hB.lt
theorem BagO.low (h : BagO w base v vs) {b2 : Nat} (hb : b2 ≤ base) : BagO w b2 v vs := h.imp id fun ⟨g, c, cs, h1, h2, r⟩ => ⟨g, c, cs, h1, Nat.le_trans hb h2, r⟩
theorem BagO.blk (h : BagO w base v vs) {k : Nat} (hk : v.ownBlock = some k) : base ≤ k ∧ ∃ cs, Blk w k 27 cs := by
  rcases h with ⟨rfl, _⟩ | ⟨g, cap, cs, rfl, hg, hB, _⟩
  · simp [Value.ownBlock] at hk
  · have : g = k := by simpa [Value.ownBlock] using hk
    subst this
    exact ⟨hg, cs, hB⟩
end

/-- A link's bag in memory. -/
structure BagV (w : World) (base : Nat) (v : Value) (bs : List (List UInt8)) (rows : List BV) : Prop where
  own : BagO w base v (rows.map cS)
  txt : rows.map (·.l) = bs
  all : ∀ s ∈ rows, OwnB w base (.slice s.A s.l.length s.c) s.l
/-- A net's messages in memory. -/
structure NetM (w : World) (base : Nat) (m cl : Nat) (L : List NE) (S : List Msg) : Prop where
  hm : base ≤ m
  map : MapN w m L cl
  bags : ∀ x ∈ L, bagN S x.k ≠ [] ∧ ∃ rows, BagV w base x.v (bagN S x.k) rows
  keys : ∀ k, bagN S k ≠ [] → ∃ x ∈ L, x.k = k
  sep : ∀ x ∈ L, ∀ y ∈ L, x.k ≠ y.k → Sep x.v y.v
  few : S.length ≤ 1000
  ends : ∀ e ∈ S, EndP e.1.1 ∧ EndP e.1.2
structure NetL (w : World) (base : Nat) (g m cl : Nat) (L : List NE) (S : List Msg) : Prop where
  blk : Blk w g 50 #[.map (some m), .int .i64 (S.length : Int)]
  hg : base ≤ g
  msg : NetM w base m cl L S
/-- A net. -/
def NetV (w : World) (base g : Nat) (S : List Msg) : Prop := ∃ m cl L, NetL w base g m cl L S

section
variable {w w' : World} {base g m cl : Nat} {L : List NE} {S : List Msg}
theorem BagV.below {v : Value} {bs : List (List UInt8)} {rows : List BV} (h : BagV w base v bs rows) (hb : Below w.heap.size w w') : BagV w' base v bs rows :=
  ⟨h.own.below hb, h.txt, fun s hs => own_keepX (h.all s hs) fun k cs _ hB => hb.block k (Array.getElem?_eq_some_iff.1 hB).1⟩
/-- What holds no bytes and no slices of bytes may turn. -/
theorem BagV.mod {X : Nat → Prop} {v : Value} {bs : List (List UInt8)} {rows : List BV} (h : BagV w base v bs rows) (M : Mod X w w') (hx : ∀ k cs T, X k → w.heap[k]? = some (.cells cs T (0, 0)) → T ≠ 27 ∧ T ≠ 5) : BagV w' base v bs rows :=
  ⟨h.own.keep fun k cs _ hB => M.block k hB.lt fun hX => (hx k _ _ hX hB).1 rfl, h.txt, fun s hs => own_keepX (h.all s hs) fun k cs _ hB => M.block k (Array.getElem?_eq_some_iff.1 hB).1 fun hX => (hx k _ _ hX hB).2 rfl⟩
theorem NetM.below (h : NetM w base m cl L S) (hb : Below w.heap.size w w') : NetM w' base m cl L S where
  hm := h.hm
  map := h.map.below hb
  bags x hx := ⟨(h.bags x hx).1, (h.bags x hx).2.imp fun rows hr => hr.below hb⟩
  keys := h.keys
  sep := h.sep
  few := h.few
  ends := h.ends
theorem NetM.mod {X : Nat → Prop} (h : NetM w base m cl L S) (M : Mod X w w') (hm : ¬ X m) (hx : ∀ k cs T, X k → w.heap[k]? = some (.cells cs T (0, 0)) → T ≠ 27 ∧ T ≠ 5) : NetM w' base m cl L S where
  hm := h.hm
  map := h.map.mod M hm
  bags x hx' := ⟨(h.bags x hx').1, (h.bags x hx').2.imp fun rows hr => hr.mod M hx⟩
  keys := h.keys
  sep := h.sep
  few := h.few
  ends := h.ends
theorem NetL.below (h : NetL w base g m cl L S) (hb : Below w.heap.size w w') : NetL w' base g m cl L S := ⟨h.blk.below hb, h.hg, h.msg.below hb⟩
theorem NetV.below (h : NetV w base g S) (hb : Below w.heap.size w w') : NetV w' base g S := by
  obtain ⟨m, cl, L, h⟩ := h
  exact ⟨m, cl, L, h.below hb⟩
theorem NetM.low (h : NetM w base m cl L S) {b2 : Nat} (hb : b2 ≤ base) : NetM w b2 m cl L S where
  hm := Nat.le_trans hb h.hm
  map := h.map
  bags x hx := ⟨(h.bags x hx).1, (h.bags x hx).2.imp fun rows hr => ⟨hr.own.low hb, hr.txt, fun s hs => own_low (hr.all s hs) hb⟩⟩
  keys := h.keys
  sep := h.sep
  few := h.few
  ends := h.ends
theorem NetV.low (h : NetV w base g S) {b2 : Nat} (hb : b2 ≤ base) : NetV w b2 g S := by
  obtain ⟨m, cl, L, h⟩ := h
  exact ⟨m, cl, L, h.blk, Nat.le_trans hb h.hg, h.msg.low hb⟩
theorem NetV.few (h : NetV w base g S) : S.length ≤ 1000 := by
  obtain ⟨m, cl, L, h⟩ := h
  exact h.msg.few
/-- What is read at a link. -/
theorem NetM.look (h : NetM w base m cl L S) (k : Int × Int) : ∃ v rows, (Instr.lookup 48 (.map (some m)) (kV k) false).run Try.prog w = .ok v w ∧ LookN L k v ∧ BagV w base v (bagN S k) rows := by
  obtain ⟨v, h1, h2⟩ := h.map.lookup k
  rcases id h2 with ⟨x, hx, rfl, rfl⟩ | ⟨h3, rfl⟩
  · obtain ⟨_, rows, hr⟩ := h.bags x hx
    exact ⟨_, rows, h1, h2, hr⟩
  · refine ⟨_, [], h1, h2, .inl ⟨rfl, rfl⟩, ?_, by simp⟩
    rcases Classical.em (bagN S k = []) with e | e
    · rw [e]; rfl
    · obtain ⟨x, hx, hk⟩ := h.keys k e
      exact absurd hk (h3 x hx)
theorem NetM.at_look (h : NetM w base m cl L S) {k : Int × Int} {v : Value} (hl : LookN L k v) : ∃ rows, BagV w base v (bagN S k) rows := by
  rcases hl with ⟨x, hx, rfl, rfl⟩ | ⟨h3, rfl⟩
  · exact (h.bags x hx).2
  · refine ⟨[], .inl ⟨rfl, rfl⟩, ?_, by simp⟩
    rcases Classical.em (bagN S k = []) with e | e
    · rw [e]; rfl
    · obtain ⟨x, hx, hk⟩ := h.keys k e
      exact absurd hk (h3 x hx)
theorem rd_newS (w : World) (s : BV) : Rd (w.alloc (.cells #[cS s] 27)) (· = w.heap.size) 1 (some ⟨w.heap.size, 0, none⟩) 1 [cS s] := ⟨rfl, fun _ => ⟨_, rfl, rfl, cell_one_new w (cS s) _⟩⟩
theorem BagV.form {v : Value} {bs : List (List UInt8)} {rows : List BV} (h : BagV w base v bs rows) : ∃ A c, v = .slice A bs.length c ∧ bs.length ≤ c ∧ c ≤ 9223372036854775807 := by
  obtain ⟨A, c, h1, h2, h3⟩ := h.own.form
  have e : (rows.map cS).length = bs.length := by rw [← h.txt, List.length_map, List.length_map]
  rw [e] at h1 h2
  exact ⟨A, c, h1, h2, h3⟩
end

theorem end_any (n : Int) (w : World) : Calls Try.prog 25 #[.int .i64 n] w fun e w' => e = .returned (.bool (decide (EndP n))) ∧ w = w' := by
  have e : decide (EndP n) = (decide (0 ≤ n) && decide (n ≤ 8)) := by unfold EndP; by_cases h1 : 0 ≤ n <;> by_cases h2 : n ≤ 8 <;> simp [h1, h2]
  rw [e]
  by_cases h : 0 ≤ n
  · go_enter Try.func25, Try.ntmps25
    go_wp2_with fail
    go_ret
    exact ⟨by rw [decide_eq_true h]; rfl, rfl⟩
  · go_enter Try.func25, Try.ntmps25
    go_wp2_with fail
    go_ret
    exact ⟨by rw [decide_eq_false (show ¬ 0 ≤ n by omega)]; rfl, rfl⟩
theorem New_any (w : World) : Calls Try.prog 8 #[] w fun e w' => ∃ g, e = .returned (.pointer (some ⟨g, 0, none⟩)) ∧ NetV w' w.heap.size g [] ∧ Below w.heap.size w w' := by
  go_enter Try.func8, Try.ntmps8
  have hmm : (Instr.makeMap 48 none).run Try.prog w = .ok (.map (some w.heap.size)) (w.alloc (.map #[] 0)) := by simp [Instr.makeMap]
  have hm := MapN.new w
  have b1 := below_new w (.map #[] 0)
  go_wp2_with fail
  go_ret
  have b2 := below_new (w.alloc (.map #[] 0)) (.cells #[.map (some w.heap.size), .int .i64 0] 50)
  have hB := Blk.new (w.alloc (.map #[] 0)) 50 #[.map (some w.heap.size), .int .i64 0]
  refine ⟨_, rfl, ⟨w.heap.size, 0, [], ?_, ?_, ⟨Nat.le_refl _, hm.below b2, by simp, by simp [bagN], by simp, by simp, by simp⟩⟩, b1.thenB' b2⟩
  · simpa using hB
  · simp
set_option maxHeartbeats 1000000 in
theorem Total_any (base g : Nat) (S : List Msg) (w : World) (h : NetV w base g S) : Calls Try.prog 10 #[.pointer (some ⟨g, 0, none⟩)] w fun e w' => e = .returned (.int .i64 (S.length : Int)) ∧ w = w' := by
  obtain ⟨m, cl, L, h⟩ := h
  have c1 := h.blk.cell 1
  simp at c1
  go_enter Try.func10, Try.ntmps10
  go_wp2_with fail
  go_ret
  exact ⟨rfl, rfl⟩
set_option maxHeartbeats 1000000 in
theorem Count_any (base g : Nat) (S : List Msg) (a b : Int) (w : World) (h : NetV w base g S) : Calls Try.prog 11 #[.pointer (some ⟨g, 0, none⟩), .int .i64 a, .int .i64 b] w fun e w' => e = .returned (.int .i64 ((bagN S (a, b)).length : Int)) ∧ w = w' := by
  obtain ⟨m, cl, L, h⟩ := h
  have c0 := h.blk.cell 0
  simp at c0
  obtain ⟨v, rows, hl, _, hb⟩ := h.msg.look (a, b)
  obtain ⟨A, c, rfl, hc, hcm⟩ := hb.form
  unfold kV at hl
  simp only at hl
  go_enter Try.func11, Try.ntmps11
  go_wp2_with fail
  go_ret
  exact ⟨rfl, rfl⟩
end Go.Proofs.Ytpfbiamgnmbhnaa
