/- The document's medium beside the medium: what each step leaves. -/
import Derived.Test.YtodfejeifbhoeaaDoorMdI
import Derived.Test.YtodfejeifbhoeaaDoorMdJ
namespace Go.Proofs.YtodfejeifbhoeaaDoor
open Go.RowKit
set_option linter.unusedVariables false

theorem rCrash_S (D : Nat → Prop) (s : MS) (A : Option Addr) (c : Nat) (w : World) (h : RdB w D A s.b) (hc : s.b.length ≤ c) (hm : c ≤ 9223372036854775807) : Calls Tryd.prog 23 #[mW s A s.b.length c] w (RefS D w s.crash) :=
  (rCrash_any s A _ c w).mono fun e w' he => ⟨A, _, c, he.1, Lib.hid rfl, hc, hm, Rd.imp (RdB.below h he.2) (fun _ _ h => .inl h) (by decide), he.2⟩
theorem set_b (s : MS) (k : Int) : (s.set k).b = s.b := by unfold MS.set; split <;> rfl
theorem rSet_S (D : Nat → Prop) (s : MS) (A : Option Addr) (c : Nat) (k : Int) (w : World) (h : RdB w D A s.b) (hc : s.b.length ≤ c) (hm : c ≤ 9223372036854775807) : Calls Tryd.prog 22 #[mW s A s.b.length c, .int .i64 k] w (RefS D w (s.set k)) :=
  (rSet_any s A _ c k w).mono fun e w' he => ⟨A, _, c, he.1, Lib.hid (by rw [set_b]), hc, hm, by rw [set_b]; exact Rd.imp (RdB.below h he.2) (fun _ _ h => .inl h) (by decide), he.2⟩
theorem rBoot_S (D : Nat → Prop) (s : MS) (A : Option Addr) (c : Nat) (w : World) (h : RdB w D A s.b) (hl : s.b.length ≤ 1000000) (hc : s.b.length ≤ c) (hm : c ≤ 9223372036854775807) : Calls Tryd.prog 24 #[mW s A s.b.length c] w (RefS D w s.boot) :=
  (rBoot_any D A c s w h hl hc hm).mono fun e w' ⟨n', e1, e2, e3, e4, e5⟩ => ⟨A, n', c, e1, e2, e3, hm, Rd.imp e4 (fun _ _ h => .inl h) (by decide), e5⟩
theorem rSpoil_S (D : Nat → Prop) (s : MS) (A : Option Addr) (c : Nat) (at_ : Int) (bt : UInt8) (w : World) (h : RdB w D A s.b) (hl : s.b.length ≤ 1000000) (hc : s.b.length ≤ c) (hm : c ≤ 9223372036854775807) (ia : I64 at_) :
    Calls Tryd.prog 26 #[mW s A s.b.length c, .int .i64 at_, .int .u8 (bt.toNat : Int)] w (RefS D w (s.spoilR at_ bt)) := by
  unfold MS.spoilR
  by_cases hz : at_ < 0 ∨ s.b.length = 0
  · rw [if_pos hz]; exact rSpoil_none D A c s at_ bt w h hc hm hz
  · rw [if_neg hz]
    have := rSpoil_one D A c s at_.toNat bt w h hl hc hm (by omega) (by unfold I64 at ia; omega)
    rwa [Int.toNat_of_nonneg (by omega)] at this
set_option maxRecDepth 100000 in
theorem Spoil_off (base g : Nat) (v : Value) (s : MS) (n b : Int) (w : World) (h : Med w base g v s) (h0 : n < 0 ∨ s.b.length = 0) : Calls Tryd.prog 25 #[.pointer (some ⟨g, 0, none⟩), .int .i64 n, .int .u8 b] w fun e w' => e = .returned (.tuple #[]) ∧ w = w' := by
  obtain ⟨sv, h1, h2, h3, h4, h5⟩ := id h
  obtain ⟨A, n', c, rfl, en, hnc, hcm⟩ := OwnB.form' h2
  have c0 := h1.cell 0
  simp at c0
  have hcases : decide (n < 0) = true ∨ decide (n < 0) = false ∧ ((n' : Int) == 0) = true := by
    by_cases h : n < 0
    · exact .inl (by simp [h])
    · exact .inr ⟨by simp; omega, by rcases h0 with h0 | h0; exact absurd h0 h; rw [en.out, h0]; rfl⟩
  clear h0
  rcases hcases with hd | ⟨hd, he⟩
  all_goals
    go_enter Tryd.func25, Tryd.ntmps25
    go_wp2_with fail
    ((try simp only [Exit.inBlock, Exit.then]); refine bodyPost_ret (results_none rfl _ _ _) rfl ?_)
    exact ⟨rfl, rfl⟩
theorem Spoil_S (base g : Nat) (v : Value) (s : MS) (at_ : Int) (bt : UInt8) (w : World) (h : Med w base g v s) (hl : s.b.length ≤ 1000000) (ia : I64 at_) :
    Calls Tryd.prog 25 #[.pointer (some ⟨g, 0, none⟩), .int .i64 at_, .int .u8 (bt.toNat : Int)] w fun e w' => e = .returned (.tuple #[]) ∧ Med w' base g v (s.spoilR at_ bt) ∧ Mod (Own2 g v) w w' := by
  unfold MS.spoilR
  by_cases hz : at_ < 0 ∨ s.b.length = 0
  · rw [if_pos hz]
    exact (Spoil_off base g v s at_ bt.toNat w h hz).mono fun e w' ⟨he, hw⟩ => by subst hw; exact ⟨he, h, Mod.refl _ _⟩
  · rw [if_neg hz]
    have := Spoil_any base g v s at_.toNat bt w h (by omega) hl (by unfold I64 at ia; omega)
    rw [Int.toNat_of_nonneg (by omega)] at this
    exact this.mono fun e w' ⟨m, _, hm, e1, e2, e3⟩ => by subst hm; exact ⟨e1, e2, e3⟩

/-! ### how long -/
theorem makeO_le (kind : Int) (body : List UInt8) : (makeO kind body).1.length ≤ body.length + 12 := by
  unfold makeO
  split
  · exact Nat.zero_le _
  · split
    · exact Nat.zero_le _
    · rw [frameO_len]; omega
theorem app_le (s : MS) (kind : Int) (body : List UInt8) : (s.app kind body).1.b.length ≤ s.b.length + (body.length + 12) := by
  have hm := makeO_le kind body
  unfold MS.app
  split
  · simp
  · split
    · simp
    · split
      · simp
      · split <;> simp only [List.length_append, List.length_take] <;> omega
theorem boot_le (s : MS) : s.boot.b.length ≤ s.b.length := by unfold MS.boot; simp only [List.length_take]; omega
theorem spoilR_le (s : MS) (at_ : Int) (bt : UInt8) : (s.spoilR at_ bt).b.length = s.b.length := by
  unfold MS.spoilR
  split
  · rfl
  · unfold MS.spoil; simp

/-! ### the two media side by side -/
def DM (base g gw : Nat) (v : Value) (k : Nat) : Prop := base ≤ k ∧ ¬ Own2 g v k ∧ k ≠ gw
def rowM (s : MS) (A : Option Addr) (n c : Nat) : Array Value := #[.slice A n c, .int .i64 s.room, .bool s.up, .int .i64 (cutI s.cut)]
def RM (w : World) (base g gw : Nat) (v : Value) (s : MS) : Prop :=
  base ≤ gw ∧ ¬ Own2 g v gw ∧ ∃ A c, Blk w gw 43 (rowM s A s.b.length c) ∧ s.b.length ≤ c ∧ c ≤ 9223372036854775807 ∧ RdB w (DM base g gw v) A s.b
theorem RM.below {w w' : World} {base g gw : Nat} {v : Value} {s : MS} (h : RM w base g gw v s) (hb : Below w.heap.size w w') : RM w' base g gw v s := by
  obtain ⟨h1, h2, A, c, h3, h4, h5, h6⟩ := h
  exact ⟨h1, h2, A, c, h3.below hb, h4, h5, RdB.below h6 hb⟩
theorem RM.turned {w w' : World} {base g gw : Nat} {v v' : Value} {s : MS} (h : RM w base g gw v s) (hm : Mod (Own2 g v) w w') (hs : Same2 w v v') : RM w' base g gw v' s := by
  obtain ⟨h1, h2, A, c, h3, h4, h5, h6⟩ := h
  have key : ∀ k, k < w.heap.size → ¬ Own2 g v k → ¬ Own2 g v' k := fun k hk hn hx => by
    rcases hx with rfl | hx
    · exact hn (.inl rfl)
    · rcases hs with e | e
      · exact hn (.inr (e ▸ hx))
      · have := e k hx; omega
  exact ⟨h1, key gw h3.lt h2, A, c, h3.mod hm h2, h4, h5, Rd.imp (Rd.mod (Rd.imp h6 (fun b hb hD => (⟨hD, hb⟩ : DM base g gw v b ∧ b < w.heap.size)) (by decide)) hm (fun b hb hx => hb.1.2.1 hx)) (fun b _ hD => ⟨hD.1.1, key b hD.2 hD.1.2.1, hD.1.2.2⟩) (by decide)⟩
/-- The document's medium is stored behind a step of its own. -/
theorem RM.next {w w' : World} {base g gw : Nat} {v : Value} {s s0 s' : MS} {A : Option Addr} {n c : Nat} (hm : Med w base g v s0) (h : RM w base g gw v s) (hb : base ≤ w.heap.size) (hn : Hid (n = s'.b.length)) (hnc : n ≤ c) (hcm : c ≤ 9223372036854775807)
    (hr : RdB w' (fun k => DM base g gw v k ∨ w.heap.size ≤ k) A s'.b) (hbl : Below w.heap.size w w') :
    (∃ old, Blk w' gw 43 old ∧ old.size = 4) ∧ RM (w'.setRow gw (rowM s' A n c)) base g gw v s' ∧ Med (w'.setRow gw (rowM s' A n c)) base g v s0 ∧ Below base w (w'.setRow gw (rowM s' A n c)) := by
  obtain ⟨h1, h2, A0, c0, h3, h4, h5, h6⟩ := h
  have h3' := h3.below hbl
  have hsz := hbl.size
  have hgw := h3.lt
  have mm : Mod (· = gw) w' (w'.setRow gw (rowM s' A n c)) := ⟨rfl, rfl, rfl, by rw [World.setRow]; simp, fun k hk hx => setRow_other _ _ _ _ hx⟩
  have hm' := hm.below hbl
  have hgm : g < w.heap.size := by obtain ⟨sv, q1, _⟩ := hm; exact q1.lt
  have hown : ∀ k, v.ownBlock = some k → k < w.heap.size := by
    obtain ⟨sv, q1, q2, _⟩ := hm
    exact own_blk q2
  refine ⟨⟨_, h3', rfl⟩, ⟨h1, h2, A, c, ?_, ?_, hcm, ?_⟩, ?_, (hbl.mono hb).trans (mm.below (by omega) (fun k hk e => by omega))⟩
  · obtain rfl := hn.out
    exact setRow_heap _ _ _ _ _ _ h3'
  · rw [← hn.out]; exact hnc
  · have q1 : RdB w' (DM base g gw v) A s'.b := Rd.imp hr (fun b hb' hD => by
      rcases hD with hD | hD
      · exact hD
      · refine ⟨by omega, fun hx => ?_, by omega⟩
        rcases hx with rfl | hx
        · omega
        · have := hown b hx; omega) (by decide)
    exact Rd.mod q1 mm (fun b hD e => hD.2.2 e)
  · obtain ⟨sv, q1, q2, q3, q4, q5⟩ := hm'
    refine ⟨sv, q1.mod mm (fun e => h2 (.inl e.symm)), own_keep q2 mm (fun k hk e => h2 (.inr (e ▸ hk))), q3, q4, ?_⟩
    rcases q5 with q5 | ⟨nb, z, e1, e2, e3, e4, e5⟩
    · exact .inl q5
    · refine .inr ⟨nb, z, e1, e2, e3.mod mm (fun e => ?_), e4, e5⟩
      subst e
      have := e3.symm.trans h3'
      injection this with this
      injection this with _ ht _
      exact absurd ht (by decide)
end Go.Proofs.YtodfejeifbhoeaaDoor
