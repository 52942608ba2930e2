/- Rows of strings; the plain laws of one link; masks. -/
import Derived.Test.YtpfbiamgnmbhnaaNtG
namespace Go.Proofs.Ytpfbiamgnmbhnaa
open Go.RowKit
set_option linter.unusedVariables false
set_option maxRecDepth 100000

theorem toNat64 (n : Nat) (h : n < 9223372036854775808) : (BitVec.ofInt 64 (n : Int)).toNat = n := by
  rw [BitVec.toNat_ofInt]
  omega
theorem and_mask (c : Int) (m : Nat) (hm : m < 9223372036854775808) : ∃ j : Nat, bits .and .i64 c (m : Int) = (j : Int) ∧ j ≤ m := by
  refine ⟨(BitVec.ofInt 64 c &&& BitVec.ofInt 64 (m : Int)).toNat, ?_, ?_⟩
  · show IntKind.i64.wrap (((BitVec.ofInt 64 c &&& BitVec.ofInt 64 (m : Int)).toNat : Nat) : Int) = _
    have h : (BitVec.ofInt 64 c &&& BitVec.ofInt 64 (m : Int)).toNat ≤ m := by
      rw [BitVec.toNat_and, toNat64 m hm]
      exact Nat.and_le_right
    rw [IntKind.wrap_i64]
    omega
  · rw [BitVec.toNat_and, toNat64 m hm]
    exact Nat.and_le_right

/-! ### rows of strings -/
def stC (s : List UInt8) : List Value := [.string (str s)]
theorem stC_len (s : List UInt8) : (stC s).length = 1 := rfl
theorem stC_one (s : List UInt8) : ∀ v ∈ stC s, v.oneCell' = true := by
  intro v hv
  obtain rfl : v = .string (str s) := by simpa [stC] using hv
  rfl
def OwnSt (w : World) (base : Nat) (v : Value) (L : List (List UInt8)) : Prop := OwnC 9 1 stC w base v L
theorem infoSt : (Try.prog.info? 9).map (fun i => (i.zero, i.size, i.bytes)) = some (some (.string (str [])), 1, 16) := by kernel_rfl
section
variable {w : World} {ops : Array Oper} {rest : List Oper} {o : Oper} {a : Act} {Q : Exit → Act → World → Prop}
theorem wpList_appSt (hgd : o.guard = none) (s x : Operand) (ho : o.op = .call { callee := .builtin .append, args := #[s, x], argTypes := #[40, 40] })
    (base : Nat) (v : Value) (L news : List (List UInt8)) (hs : a.eval s = v) (hown : OwnSt w base v L)
    (D : Nat → Prop) (A : Option Addr) (n c : Nat) (hx : a.eval x = .slice A n c) (hn : n = news.length) (hr : Rd w D 1 A n (flC stC news))
    (hlen : L.length + news.length ≤ 1000000) (hbase : base ≤ w.heap.size)
    (h : ∀ v' w', OwnSt w' base v' (L ++ news) → Ext w w' v v' → wpList Try.prog ops Q rest (a.put o.dst v') w') :
    wpList Try.prog ops Q (o :: rest) a w := by
  subst hn
  refine wpList_plain hgd fun _ hK => wp_app s x _ ho base 9 _ 1 16 Try.underlying40 infoSt rfl (by decide) v _ _ hs hown D A _ c _ hx hr (flC_one stC_one news) ?_ ?_ hbase fun v' w' h2 h3 h4 => hK _ _ (h v' w' ?_ ⟨h3, h4.imp id fun e k hk => by rw [e] at hk; injection hk with hk; omega⟩)
  · unfold maxLen; omega
  · omega
  · unfold OwnSt OwnC
    rw [List.length_append, flC_app]
    exact h2
end
theorem OwnSt.flat {w : World} {base n c : Nat} {A : Option Addr} {L : List (List UInt8)} (h : OwnSt w base (.slice A n c) L) : n = L.length ∧ Rd w (fun k => base ≤ k ∧ (Value.slice A n c).ownBlock = some k) 1 A L.length (flC stC L) := by
  obtain ⟨A', c', hv, _, _⟩ := OwnC.form h
  injection hv with h1 h2 h3
  subst h2
  exact ⟨rfl, Rd.imp (Rd.of_own h) (fun k _ hk => ⟨hk.1, hk.2.2⟩) (by decide)⟩
theorem rd_newSt (w : World) (e : List UInt8) : Rd (w.alloc (.cells #[.string (str e)] 9)) (· = w.heap.size) 1 (some ⟨w.heap.size, 0, none⟩) 1 (flC stC [e]) := by
  rw [flC_single]
  refine ⟨rfl, fun _ => ⟨_, rfl, rfl, fun j u hu => ?_⟩⟩
  rw [add_head, (Blk.new w 9 #[.string (str e)]).cell]
  unfold stC at hu
  simpa using hu
theorem Rd.takeSt {w : World} {D : Nat → Prop} {A : Option Addr} {L : List (List UInt8)} (h : Rd w D 1 A L.length (flC stC L)) {k : Nat} (hk : k ≤ L.length) : Rd w D 1 A k (flC stC (L.take k)) := by
  have := Rd.take h hk
  rwa [flC_take stC_len] at this
theorem Rd.cutSt {w : World} {D : Nat → Prop} {A : Option Addr} {L : List (List UInt8)} (h : Rd w D 1 A L.length (flC stC L)) {k c : Nat} (hk : k ≤ L.length) (hc : L.length ≤ c) : Rd w D 1 (cutA A k c 1) (L.length - k) (flC stC (L.drop k)) := by
  have := Rd.cut h hk hc
  rwa [flC_drop stC_len] at this
theorem Rd.atSt {w : World} {D : Nat → Prop} {A : Option Addr} {L : List (List UInt8)} (h : Rd w D 1 A L.length (flC stC L)) {k : Nat} (hk : k < L.length) : ∃ ad, A = some ad ∧ w.cell? (ad.add k) = some (.string (str L[k])) := by
  obtain ⟨ad, e, _, hc⟩ := h.2 (by omega)
  refine ⟨ad, e, ?_⟩
  have := hc (k * 1 + 0) _ (flC_at stC_len L k L[k] (List.getElem?_eq_getElem hk) 0 _ rfl)
  simpa using this
/-- A row of the call's own that grows: a net beside it stays. -/
theorem own_type {w : World} {base : Nat} {e : TypeId} {size n : Nat} {v : Value} {xs : List Value} (h : w.ownsRow base e size v n xs) {k : Nat} (hk : v.ownBlock = some k) : ∃ cs, w.heap[k]? = some (.cells cs e (0, 0)) := by
  rcases h.2 with ⟨rfl, _⟩ | ⟨g, cap, cur, rfl, hg, hh, _⟩
  · simp [Value.ownBlock] at hk
  · have : g = k := by simpa [Value.ownBlock] using hk
    subst this
    exact ⟨_, hh⟩
theorem NetV.ext {w w' : World} {base g b2 n size : Nat} {S : List Msg} {e : TypeId} {v v' : Value} {xs : List Value} (h : NetV w base g S) (x : Ext w w' v v') (o : w.ownsRow b2 e size v n xs) (h1 : e ≠ 50) (h2 : e ≠ 27) (h3 : e ≠ 5) : NetV w' base g S := by
  obtain ⟨m, cl, L, h⟩ := h
  have M : Mod (fun k => v.ownBlock = some k) w w' := Mod.of_grown x.grown fun k hk => .inl hk
  refine ⟨m, cl, L, h.blk.mod M fun hg => ?_, h.hg, h.msg.mod M (fun hm => ?_) fun k cs T hk hB => ?_⟩
  · obtain ⟨cs, hc⟩ := own_type o hg
    have := h.blk
    unfold Blk at this
    rw [hc] at this
    injection this with this
    injection this with _ this
    exact h1 this
  · obtain ⟨cs, hc⟩ := own_type o hm
    have := h.msg.map.obj
    rw [hc] at this
    cases this
  · obtain ⟨cs', hc⟩ := own_type o hk
    rw [hc] at hB
    injection hB with hB
    injection hB with _ hB
    subst hB
    exact ⟨h2, h3⟩
theorem NMod.st {base b2 : Nat} {a b : World} {v : Value} {L : List (List UInt8)} (m : NMod base a b) (h : OwnSt a b2 v L) : OwnSt b b2 v L := NMod.own m h (by decide) (by decide)

/-! ### one link -/
def mkB (B : List (List UInt8)) : List Msg := B.map fun b => ((3, 8), b)
theorem mkB_len (B : List (List UInt8)) : (mkB B).length = B.length := by unfold mkB; rw [List.length_map]
theorem bag_mk (B : List (List UInt8)) : bagN (mkB B) (3, 8) = B := by
  unfold bagN mkB
  induction B with
  | nil => rfl
  | cons b B ih => rw [List.map_cons, List.filter_cons, if_pos (by rfl), List.map_cons, ih]
theorem bag_mk' (B : List (List UInt8)) : bagN (mkB B) (8, 3) = [] := by
  unfold bagN mkB
  induction B with
  | nil => rfl
  | cons b B ih => rw [List.map_cons, List.filter_cons, if_neg (show ¬ (((3 : Int), (8 : Int)) == ((8 : Int), (3 : Int))) = true by decide), ih]
theorem put_mk (B : List (List UInt8)) (x : List UInt8) (h : B.length < 1000) : putP (mkB B) 3 8 x = (mkB (B ++ [x]), true) := by
  unfold putP
  rw [if_pos ⟨by decide, by decide, by rw [mkB_len]; exact h⟩]
  unfold mkB
  rw [List.map_append]
  rfl
theorem place_mk : ∀ (B : List (List UInt8)) (i : Nat), placeN (3, 8) (mkB B) i = if i < B.length then some i else none
  | [], i => rfl
  | b :: B, 0 => rfl
  | b :: B, i + 1 => by
    have ih := place_mk B i
    unfold mkB at ih ⊢
    rw [List.map_cons]
    unfold placeN
    rw [if_pos rfl]
    simp only [ih]
    by_cases h : i < B.length
    · rw [if_pos h, if_pos (by simpa using h)]; rfl
    · rw [if_neg h, if_neg (by simpa using h)]; rfl
theorem mk_get (B : List (List UInt8)) (k : Nat) (h : k < B.length) : ((mkB B).getD k ((0, 0), [])).2 = B[k] := by
  rw [List.getD_eq_getElem?_getD, List.getElem?_eq_getElem (by rw [mkB_len]; exact h)]
  simp [mkB]
theorem double_mk (B : List (List UInt8)) (k : Nat) (h : k < B.length) (hl : B.length < 1000) : doubleP (mkB B) 3 8 (k : Int) = (mkB (B ++ [B[k]]), true) := by
  unfold doubleP atP
  rw [if_pos (by omega), Int.toNat_natCast, place_mk, if_pos h]
  show putP (mkB B) 3 8 ((mkB B).getD k ((0, 0), [])).2 = _
  rw [mk_get B k h]
  exact put_mk B _ hl
theorem double_mk' (B : List (List UInt8)) (i : Int) (h : i < 0 ∨ (B.length : Int) ≤ i) : doubleP (mkB B) 3 8 i = (mkB B, false) := by
  unfold doubleP atP
  by_cases h0 : 0 ≤ i
  · rw [if_pos h0, place_mk, if_neg (by omega)]
  · rw [if_neg h0]
theorem take_mk (B : List (List UInt8)) (k : Nat) (h : k < B.length) : takeP (mkB B) 3 8 (k : Int) = (mkB (B.eraseIdx k), B[k], true) := by
  unfold takeP atP
  rw [if_pos (by omega), Int.toNat_natCast, place_mk, if_pos h]
  show ((mkB B).eraseIdx k, ((mkB B).getD k ((0, 0), [])).2, true) = _
  rw [mk_get B k h]
  unfold mkB
  rw [List.eraseIdx_eq_take_drop_succ, List.eraseIdx_eq_take_drop_succ, List.map_append, List.map_take, List.map_drop]
theorem sz_mk {B : List (List UInt8)} (h : ∀ b ∈ B, b.length ≤ 1000) : ∀ e ∈ mkB B, e.2.length ≤ 1000000 := by
  intro e he
  obtain ⟨b, hb, rfl⟩ := List.mem_map.1 he
  exact Nat.le_trans (h b hb) (by decide)
end Go.Proofs.Ytpfbiamgnmbhnaa
