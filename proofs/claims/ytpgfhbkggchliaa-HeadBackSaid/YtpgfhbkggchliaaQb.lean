/- Parts of the proof, joined: Hd2 Hd3 Can Hd4. -/
import Derived.Test.YtpgfhbkggchliaaQa
import Derived.BigQuiet
import Derived.OrdersHeld
import Derived.RegionTactic
/- How many objects an image has: byte by byte, and reckoned. The plain law. -/
namespace Go.Proofs.Ytpgfhbkggchliaa
set_option linter.unusedVariables false

/-- The object of a unit. -/
def objU (row n q : Nat) : Nat := q / row * n + q % row % n
def mostU (row n : Nat) : Nat → Nat
  | 0 => 0
  | k + 1 => max (mostU row n k) (objU row n k + 1)
def manyU (row n U : Nat) : Nat := U / row * n + min (U % row) n
theorem step_div (row U : Nat) (hr : 0 < row) : (U % row + 1 < row ∧ (U + 1) / row = U / row ∧ (U + 1) % row = U % row + 1) ∨ (U % row + 1 = row ∧ (U + 1) / row = U / row + 1 ∧ (U + 1) % row = 0) := by
  have h1 := Nat.div_add_mod U row
  have h2 := Nat.mod_lt U hr
  rcases Nat.lt_or_ge (U % row + 1) row with h | h
  · left
    have e : U + 1 = row * (U / row) + (U % row + 1) := by omega
    refine ⟨h, ?_, ?_⟩
    · rw [e, Nat.mul_add_div hr, Nat.div_eq_of_lt h, Nat.add_zero]
    · rw [e, Nat.mul_add_mod, Nat.mod_eq_of_lt h]
  · right
    have e : U + 1 = row * (U / row + 1) := by rw [Nat.mul_add, Nat.mul_one]; omega
    refine ⟨by omega, ?_, ?_⟩
    · rw [e, Nat.mul_div_cancel_left _ hr]
    · rw [e, Nat.mul_mod_right]
theorem most_many (e n : Nat) (he : 0 < e) (hn : 0 < n) : ∀ U, mostU (e * n) n U = manyU (e * n) n U
  | 0 => by unfold mostU manyU; simp
  | U + 1 => by
    have hr : 0 < e * n := Nat.mul_pos he hn
    rw [mostU, most_many e n he hn U]
    unfold manyU objU
    have hb := Nat.mod_lt (U % (e * n)) hn
    have hr2 := Nat.mod_lt U hr
    rcases step_div (e * n) U hr with ⟨h1, h2, h3⟩ | ⟨h1, h2, h3⟩
    · rw [h2, h3]
      rcases Nat.lt_or_ge (U % (e * n)) n with hlt | hge
      · rw [Nat.mod_eq_of_lt hlt]; omega
      · omega
    · rw [h2, h3, Nat.add_mul, Nat.one_mul]
      have hle : n ≤ e * n := Nat.le_mul_of_pos_left n he
      have hm : U % (e * n) % n = n - 1 := by
        obtain ⟨k, hk⟩ : ∃ k, e = k + 1 := ⟨e - 1, by omega⟩
        have : U % (e * n) = k * n + (n - 1) := by
          have : (k + 1) * n = k * n + n := by rw [Nat.add_mul, Nat.one_mul]
          rw [hk] at h1 ⊢
          omega
        rw [this, Nat.mul_comm, Nat.mul_add_mod, Nat.mod_eq_of_lt (by omega)]
      rw [hm]
      have : min (U % (e * n)) n ≤ n := Nat.min_le_right _ _
      omega
/-- Byte by byte. -/
def mostB (u row n : Nat) : Nat → Nat
  | 0 => 0
  | k + 1 => max (mostB u row n k) (objU row n (k / u) + 1)
theorem most_ge (row n : Nat) : ∀ U q, q < U → objU row n q + 1 ≤ mostU row n U
  | 0, q, h => by omega
  | U + 1, q, h => by
    rw [mostU]
    rcases Nat.lt_or_ge q U with h1 | h1
    · have := most_ge row n U q h1; omega
    · have : q = U := by omega
      subst this; omega
theorem mostB_U (u row n : Nat) (hu : 0 < u) : ∀ k, mostB u row n k = mostU row n ((k + u - 1) / u)
  | 0 => by rw [mostB, show (0 + u - 1) / u = 0 from Nat.div_eq_of_lt (by omega)]; rfl
  | k + 1 => by
    rw [mostB, mostB_U u row n hu k]
    have e : k + 1 + u - 1 = k + u := by omega
    rw [e, Nat.add_div_right k hu]
    rcases Nat.eq_zero_or_pos (k % u) with h0 | h0
    · have : (k + u - 1) / u = k / u := by
        have h1 := Nat.div_add_mod k u
        have : k + u - 1 = u * (k / u) + (u - 1) := by omega
        rw [this, Nat.mul_add_div hu, Nat.div_eq_of_lt (show u - 1 < u by omega), Nat.add_zero]
      rw [this]; rfl
    · have : (k + u - 1) / u = k / u + 1 := by
        have h1 := Nat.div_add_mod k u
        have h2 := Nat.mod_lt k hu
        have : k + u - 1 = u * (k / u + 1) + (k % u - 1) := by rw [Nat.mul_add, Nat.mul_one]; omega
        rw [this, Nat.mul_add_div hu, Nat.div_eq_of_lt (show k % u - 1 < u by omega), Nat.add_zero]
      rw [this]
      have := most_ge row n (k / u + 1) (k / u) (by omega)
      show max _ _ = mostU row n (k / u).succ
      rw [Nat.succ_eq_add_one]
      omega
/-- How many objects. -/
def objN (u n o k : Nat) : Nat := manyU (o / u * n) n ((k + u - 1) / u)
theorem most_obj (u n o k : Nat) (hu : 0 < u) (hn : 0 < n) (ho : u ≤ o) : mostB u (o / u * n) n k = objN u n o k := by
  rw [mostB_U u _ n hu, most_many _ _ (Nat.div_pos ho hu) hn]; rfl
def objO (u n o size : Int) : Int := if layO u n o = true ∧ 0 ≤ size ∧ size ≤ 512 then (objN u.toNat n.toNat o.toNat size.toNat : Int) else 0
end Go.Proofs.Ytpgfhbkggchliaa

/- How many objects an image has: the walks. -/
namespace Go.Proofs.Ytpgfhbkggchliaa
open Go.RowKit
set_option linter.unusedVariables false

def farI : Int := 1099511627776
def inO (z : Int) : Bool := decide (0 ≤ z ∧ z ≤ 1099511627776)
set_option maxHeartbeats 4000000 in
set_option maxRecDepth 100000 in
theorem may_any (u n o z : Int) (D : Nat → Prop) (A : Option Addr) (w : World) (h : RdI w D A [z]) : Calls Try.prog 88 #[layV u n o, .slice A 1 1] w fun e w' => e = .returned (.bool (inO z && layO u n o)) ∧ Below w.heap.size w w' := by
  have hb := below_new w (.cells #[.int .i64 u, .int .i64 n, .int .i64 o] 23)
  obtain ⟨ad, rfl, _, hc⟩ := (h.below hb).at_ (show 0 < [z].length by simp)
  simp only [List.getElem_cons_zero, add_zero_] at hc
  have hck := fun w => sCheck_any u n o w
  unfold layV at hck ⊢
  clear h
  by_cases h1 : z < 0
  · have hz : Hid (inO z = false) := by unfold Hid inO; simp; omega
    go_enter Try.func88, Try.ntmps88
    go_wp2_with fail
    go_loopw [6, 9] (fun s6 i wr => i = .int .i64 0 ∧ w.alloc (.cells #[.int .i64 u, .int .i64 n, .int .i64 o] 23) = wr) (fun _ _ _ => 1)
    case atStart => exact ⟨rfl, rfl⟩
    case round =>
      obtain ⟨rfl, rfl⟩ := hrel
      go_wp2_with fail
      go_ret
      exact ⟨by rw [hz.out]; rfl, hb⟩
  by_cases h2 : 1099511627776 < z
  · have hz : Hid (inO z = false) := by unfold Hid inO; simp; omega
    go_enter Try.func88, Try.ntmps88
    go_wp2_with fail
    go_loopw [6, 9] (fun s6 i wr => i = .int .i64 0 ∧ w.alloc (.cells #[.int .i64 u, .int .i64 n, .int .i64 o] 23) = wr) (fun _ _ _ => 1)
    case atStart => exact ⟨rfl, rfl⟩
    case round =>
      obtain ⟨rfl, rfl⟩ := hrel
      go_wp2_with fail
      go_ret
      exact ⟨by rw [hz.out]; rfl, hb⟩
  have hz : Hid (inO z = true) := by unfold Hid inO; simp; omega
  go_enter Try.func88, Try.ntmps88
  go_wp2_with fail
  go_loopw [6, 9] (fun s6 i wr => ∃ j : Nat, j ≤ 1 ∧ i = .int .i64 (j : Int) ∧ w.alloc (.cells #[.int .i64 u, .int .i64 n, .int .i64 o] 23) = wr) (fun _ i _ => 1 - (intOf i).toNat)
  case atStart => exact ⟨0, by omega, rfl, rfl⟩
  case round =>
    obtain ⟨j, hj, rfl, rfl⟩ := hrel
    by_cases hlt : j < 1
    · obtain rfl : j = 0 := by omega
      go_wp2_with fail
      go_roundw
      case rel => exact ⟨1, by omega, rfl, trivial⟩
      case measure => simp [intOf]
    · obtain rfl : j = 1 := by omega
      go_wp2_with fail
      refine (hck _).mono ?_
      rintro e w2 ⟨rfl, b2⟩
      cases hl : layO u n o
      all_goals
        go_wp2_with fail
        go_ret
        exact ⟨by rw [hz.out, hl]; rfl, hb.thenB' b2⟩
end Go.Proofs.Ytpgfhbkggchliaa

/- A region that draws its order, walked in ONE order: what reads alone is taken as soon as it may come up, and its value is shown to stand in every later world; what calls or makes memory comes alone. -/
namespace Go.Proofs.Ytpgfhbkggchliaa
open Go.RowKit
set_option linter.unusedVariables false

section
variable {P : Program} {ops : Array Oper} {Q : Exit → Act → World → Prop} {R : World → World → Prop}

theorem anyH_mono {md : Region.Mode} {S S' : World → Prop} (h : ∀ w, S' w → S w) : ∀ (fuel : Nat) (L : Array Bool) (a : Act) (w : World), wpAnyH P md ops Q S' fuel L a w → wpAnyH P md ops Q S fuel L a w
  | 0, _, _, _, hh => hh
  | fuel + 1, _, _, _, hh => ⟨hh.1, fun i hi => wpOp_mono (fun a' w' h' => ⟨h w' h'.1, anyH_mono h fuel _ a' w' h'.2⟩) (hh.2 i hi)⟩

def wpR (P : Program) (ops : Array Oper) (R : World → World → Prop) (Q : Exit → Act → World → Prop) (fuel : Nat) (L : Array Bool) (a : Act) (w : World) : Prop := wpAnyH P .any ops Q (R w) fuel L a w

/-- One of those that may come up comes up. -/
def Alt (P : Program) (ops : Array Oper) (R : World → World → Prop) (Q : Exit → Act → World → Prop) (fuel : Nat) (L : Array Bool) (a : Act) (w : World) (i : Nat) : Prop :=
  wpOp P ops Q i (fun a' w' => R w w' ∧ wpR P ops R Q fuel (L.setIfInBounds i true) a' w') a w

theorem r_start {id : Nat} {a : Act} {w : World} (hm : P.follows .mixedOrders = true) {n : Nat} {L : Array Bool} (hn : ops.size = n) (hL : Array.replicate n false = L) (h : wpR P ops R Q n L a w.drew) : (Code.region id ops true).wp P Q a w := by
  subst hn; subst hL
  exact wp_region_held hm h

variable {i fuel : Nat} {o : Oper} {v : Value} {L L' : Array Bool} {a a' : Act} {w : World}

theorem r_flt (hR : ∀ w, R w w) (i d : Nat) (L' : Array Bool) (ho : ops[i]? = some o) (hd : o.dst = some d) (hs : Region.noSelect ops = true) (hf : Region.free .any ops L i = true) (hr : (Region.ready .any ops L).contains i = true)
    (hQ : ∀ v c a w, Q (.panic c) (a.put (some d) v) w → Q (.panic c) a w) (hl : L.setIfInBounds i true = L') (hw : Region.wanted o (yielded ops a.tmps) = true)
    (h : ∃ v, (∀ W, R w W → (execOp a.eval o).run P W = .ok (.value v) W) ∧ wpR P ops R Q fuel L' (a.put (some d) v) w) : wpR P ops R Q (fuel + 1) L a w := by
  subst hl
  rw [← hd] at h hQ
  obtain ⟨v, hy, h⟩ := h
  exact wpAnyH_take ho hs hf hr (hQ v) (.inl ⟨hw, hy⟩) (hR w) h

theorem r_skip (hR : ∀ w, R w w) (i d : Nat) (L' : Array Bool) (ho : ops[i]? = some o) (hd : o.dst = some d) (hs : Region.noSelect ops = true) (hf : Region.free .any ops L i = true) (hr : (Region.ready .any ops L).contains i = true)
    (hQ : ∀ v c a w, Q (.panic c) (a.put (some d) v) w → Q (.panic c) a w) (hl : L.setIfInBounds i true = L') (hw : Region.wanted o (yielded ops a.tmps) = false)
    (h : wpR P ops R Q fuel L' (a.put (some d) undef) w) : wpR P ops R Q (fuel + 1) L a w := by
  subst hl
  rw [← hd] at h hQ
  exact wpAnyH_take ho hs hf hr (hQ undef) (.inr ⟨hw, rfl⟩) (hR w) h

theorem r_done (hr : Region.ready .any ops L = []) (h : Q .normal a w) : wpR P ops R Q fuel L a w := wpAnyH_done hr h _

theorem Alt.up (hT : ∀ a b c, R a b → R b c → R a c) (h : Alt P ops R Q fuel L a w i) :
    wpOp P ops Q i (fun a' w' => R w w' ∧ wpAnyH P Region.Mode.any ops Q (R w) fuel (L.setIfInBounds i true) a' w') a w :=
  wpOp_mono (fun a' w' ⟨h1, h2⟩ => ⟨h1, anyH_mono (fun w2 h3 => hT _ _ _ h1 h3) _ _ _ _ h2⟩) h

theorem r_one (hT : ∀ a b c, R a b → R b c → R a c) (i : Nat) (hr : Region.ready .any ops L = [i]) (h : Alt P ops R Q fuel L a w i) : wpR P ops R Q (fuel + 1) L a w :=
  wpAnyH_all hr (by simp) fun j hj => by
    obtain rfl : j = i := by simpa using hj
    exact h.up hT

theorem r_two (hT : ∀ a b c, R a b → R b c → R a c) (i j : Nat) (hr : Region.ready .any ops L = [i, j]) (h1 : Alt P ops R Q fuel L a w i) (h2 : Alt P ops R Q fuel L a w j) : wpR P ops R Q (fuel + 1) L a w :=
  wpAnyH_all hr (by simp) fun k hk => by
    rcases List.mem_cons.1 hk with rfl | hk
    · exact h1.up hT
    · obtain rfl : k = j := by simpa using hk
      exact h2.up hT

theorem alt_call (d : Nat) (L' : Array Bool) (ho : ops[i]? = some o) (hd : o.dst = some d) (hl : L.setIfInBounds i true = L') (hw : Region.wanted o (yielded ops a.tmps) = true) {f : FuncId} {args : Array Value}
    (hrun : (execOp a.eval o).run P w = .ok (.enter f args) w) (h : Calls P f args w fun e w' => ∃ v, e = .returned v ∧ R w w' ∧ wpR P ops R Q fuel L' (a.put (some d) v) w') : Alt P ops R Q fuel L a w i := by
  subst hl
  rw [← hd] at h
  unfold Alt wpOp
  simp only [ho, hw, if_true]
  refine .inl ?_
  unfold Oper.wp
  rw [hrun, Oper.upon_enter]
  exact h.mono fun e w' ⟨v, he, h1, h2⟩ => by
    subst he
    exact ⟨h1, h2⟩

theorem alt_val (d : Nat) (L' : Array Bool) (ho : ops[i]? = some o) (hd : o.dst = some d) (hl : L.setIfInBounds i true = L') (hw : Region.wanted o (yielded ops a.tmps) = true) {w' : World}
    (hrun : (execOp a.eval o).run P w = .ok (.value v) w') (h1 : R w w') (h : wpR P ops R Q fuel L' (a.put (some d) v) w') : Alt P ops R Q fuel L a w i := by
  subst hl
  rw [← hd] at h
  unfold Alt wpOp
  simp only [ho, hw, if_true]
  refine .inl ?_
  unfold Oper.wp
  rw [hrun, Oper.upon_value]
  exact ⟨h1, h⟩
end

/-- Only block g, and what is new, has turned. -/
def RG (g : Nat) (a b : World) : Prop := Mod (· = g) a b
theorem RG_refl (g : Nat) (w : World) : RG g w w := Mod.refl _ w
theorem RG_trans (g : Nat) (a b c : World) (h : RG g a b) (k : RG g b c) : RG g a c := Mod.trans h k
theorem RG.of_below {g : Nat} {a b : World} (h : Below a.heap.size a b) : RG g a b := Mod.of_below h _
/-- Nothing that was there has turned. -/
def RB (a b : World) : Prop := Below a.heap.size a b
theorem RB_refl (w : World) : RB w w := Below.refl _ w
theorem RB_trans (a b c : World) (h : RB a b) (k : RB b c) : RB a c := h.thenB' k
end Go.Proofs.Ytpgfhbkggchliaa

/- How many objects an image has: the code's walk. -/
namespace Go.Proofs.Ytpgfhbkggchliaa
open Go.RowKit
set_option linter.unusedVariables false

set_option maxHeartbeats 4000000 in
set_option maxRecDepth 100000 in
theorem Objects_any (u n o z : Int) (w : World) : Calls Try.prog 66 #[layV u n o, .int .i64 z] w fun e w' => e = .returned (.int .i64 (objO u n o z)) ∧ Below w.heap.size w w' := by
  have hb := below_new w (.cells #[.int .i64 u, .int .i64 n, .int .i64 o] 23)
  have hbl := Blk.new w 23 #[.int .i64 u, .int .i64 n, .int .i64 o]
  have hb2 := below_new (w.alloc (.cells #[.int .i64 u, .int .i64 n, .int .i64 o] 23)) (.cells #[.int .i64 z] 3)
  have hr := rd_newI (w.alloc (.cells #[.int .i64 u, .int .i64 n, .int .i64 o] 23)) z
  have hsz : (w.alloc (.cells #[.int .i64 u, .int .i64 n, .int .i64 o] 23)).heap.size = w.heap.size + 1 := Array.size_push ..
  rw [hsz] at hr
  have hmy := may_any u n o z _ _ _ hr
  clear hr hsz
  unfold layV at hmy ⊢
  by_cases hm : (inO z && layO u n o) = true
  · rw [hm] at hmy
    obtain ⟨hz, hl⟩ : 0 ≤ z ∧ layO u n o = true := by
      rw [Bool.and_eq_true] at hm
      exact ⟨by have := hm.1; unfold inO at this; simp at this; exact this.1, hm.2⟩
    have hlay : 1 ≤ u ∧ 1 ≤ n ∧ n ≤ 8 ∧ u ≤ o ∧ o ≤ 64 ∧ o.tmod u = 0 := by unfold layO at hl; simpa using hl
    clear hm
    by_cases h512 : 512 < z
    · have E : Hid (objO u n o z = 0) := by unfold Hid objO; rw [if_neg (by omega)]
      have hz0 : (z == 0) = false := by simp; omega
      clear hl hlay
      go_enter Try.func66, Try.ntmps66
      go_wp2_with fail
      refine hmy.mono ?_
      clear hmy
      rintro e w2 ⟨rfl, b2⟩
      go_wp2_with fail
      go_ret
      exact ⟨by rw [E.out]; rfl, (hb.thenB' hb2).thenB' b2⟩
    obtain ⟨U, rfl⟩ : ∃ U : Nat, u = (U : Int) := ⟨u.toNat, by omega⟩
    obtain ⟨N, rfl⟩ : ∃ N : Nat, n = (N : Int) := ⟨n.toNat, by omega⟩
    obtain ⟨O, rfl⟩ : ∃ O : Nat, o = (O : Int) := ⟨o.toNat, by omega⟩
    obtain ⟨K, rfl⟩ : ∃ K : Nat, z = (K : Int) := ⟨z.toNat, by omega⟩
    have E0 : objO (U : Int) (N : Int) (O : Int) (K : Int) = (objN U N O K : Int) := by unfold objO; rw [if_pos ⟨hl, by omega, by omega⟩]; rfl
    by_cases hK0 : K = 0
    · subst hK0
      have E : Hid (objO (U : Int) (N : Int) (O : Int) ((0 : Nat) : Int) = 0) := by
        unfold Hid; rw [E0]; unfold objN manyU
        rw [show (0 + U - 1) / U = 0 from Nat.div_eq_of_lt (by omega)]; simp
      clear hl hlay E0
      go_enter Try.func66, Try.ntmps66
      go_wp2_with fail
      refine hmy.mono ?_
      clear hmy
      rintro e w2 ⟨rfl, b2⟩
      go_wp2_with fail
      go_ret
      exact ⟨by rw [E.out]; rfl, (hb.thenB' hb2).thenB' b2⟩
    have hz0 : ((K : Int) == 0) = false := by simp; omega
    have hU : (U : Int) ≠ 0 := by omega
    have hUb : ((U : Int) == 0) = false := by simp; omega
    obtain ⟨Q, hQ⟩ : ∃ Q, Q = (K + U - 1) / U := ⟨_, rfl⟩
    have hq1 : ((K : Int) + (U : Int) - 1).tdiv (U : Int) = (Q : Int) := by
      rw [hQ, show (K : Int) + (U : Int) - 1 = ((K + U - 1 : Nat) : Int) by omega]; rfl
    obtain ⟨e, he⟩ : ∃ e, e = O / U := ⟨_, rfl⟩
    have hq2 : ((O : Int)).tdiv (U : Int) = (e : Int) := by rw [he]; rfl
    have he1 : 1 ≤ e := by rw [he]; exact Nat.div_pos (by omega) (by omega)
    have he64 : e ≤ 64 := by rw [he]; exact Nat.le_trans (Nat.div_le_self _ _) (by omega)
    obtain ⟨R, hR⟩ : ∃ R, R = e * N := ⟨_, rfl⟩
    have hq3 : (e : Int) * (N : Int) = (R : Int) := by rw [hR]; exact (Int.natCast_mul e N).symm
    have hR1 : 1 ≤ R := by rw [hR]; exact Nat.mul_pos he1 (by omega)
    have hR5 : R ≤ 512 := by rw [hR]; exact Nat.le_trans (Nat.mul_le_mul he64 (show N ≤ 8 by omega)) (by decide)
    have hRz : (R : Int) ≠ 0 := by omega
    have hRb : ((R : Int) == 0) = false := by simp; omega
    obtain ⟨a, ha⟩ : ∃ a, a = Q / R := ⟨_, rfl⟩
    have hq4 : ((Q : Int)).tdiv (R : Int) = (a : Int) := by rw [ha]; rfl
    obtain ⟨m, hm⟩ : ∃ m, m = Q % R := ⟨_, rfl⟩
    have hq5 : ((Q : Int)).tmod (R : Int) = (m : Int) := by rw [hm]; rfl
    obtain ⟨b, hbb⟩ : ∃ b, b = a * N := ⟨_, rfl⟩
    have hq6 : (a : Int) * (N : Int) = (b : Int) := by rw [hbb]; exact (Int.natCast_mul a N).symm
    have hQ6 : Q ≤ 575 := by rw [hQ]; exact Nat.le_trans (Nat.div_le_self _ _) (by omega)
    have ha6 : a ≤ 575 := by rw [ha]; exact Nat.le_trans (Nat.div_le_self _ _) hQ6
    have hb6 : b ≤ 4600 := by rw [hbb]; exact Nat.le_trans (Nat.mul_le_mul ha6 (show N ≤ 8 by omega)) (by decide)
    have hmR : m < R := by rw [hm]; exact Nat.mod_lt _ (by omega)
    have hN8 : N ≤ 8 := by omega
    have hU64 : U ≤ 64 := by omega
    have hO64 : O ≤ 64 := by omega
    have hK512 : K ≤ 512 := by omega
    have hK1 : 1 ≤ K := by omega
    have hU1 : 1 ≤ U := by omega
    have hUn : ¬ U = 0 := by omega
    have hRn : ¬ R = 0 := by omega
    have WE : Hid (IntKind.i64.wrap (e : Int) = (e : Int)) := by unfold Hid; rw [IntKind.wrap_i64]; omega
    have WR : Hid (IntKind.i64.wrap (R : Int) = (R : Int)) := by unfold Hid; rw [IntKind.wrap_i64]; omega
    have WA : Hid (IntKind.i64.wrap (a : Int) = (a : Int)) := by unfold Hid; rw [IntKind.wrap_i64]; omega
    have WB : Hid (IntKind.i64.wrap (b : Int) = (b : Int)) := by unfold Hid; rw [IntKind.wrap_i64]; omega
    have WF : Hid (IntKind.i64.wrap ((b : Int) + min (m : Int) (N : Int)) = (b : Int) + min (m : Int) (N : Int)) := by unfold Hid; rw [IntKind.wrap_i64]; omega
    have E : Hid (objO (U : Int) (N : Int) (O : Int) (K : Int) = (b : Int) + min (m : Int) (N : Int)) := by
      unfold Hid
      rw [E0]
      unfold objN manyU
      rw [← he, ← hQ, ← hR, ← ha, ← hm, ← hbb]
      omega
    clear E0 hl hlay hQ he hR ha hm hbb hz hK0 h512
    go_enter Try.func66, Try.ntmps66
    go_wp2_with fail
    refine hmy.mono ?_
    clear hmy
    rintro e w2 ⟨rfl, b2⟩
    have hbl := (hbl.below hb2).below b2
    have bb := (hb.thenB' hb2).thenB' b2
    have c0 := hbl.cell 0
    simp at c0
    go_wp2_with fail
    refine r_start (R := RB) (by rfl) (n := 9) (L := #[false, false, false, false, false, false, false, false, false]) rfl rfl ?_
    have bdw2 : Below w2.heap.size w2 w2.drew := (Below.refl _ _).drew
    have hbl := hbl.below bdw2
    have bb := bb.thenB' bdw2
    generalize w2.drew = w2d at *
    refine r_flt RB_refl 0 28 #[true, false, false, false, false, false, false, false, false] (by simp only [List.getElem?_toArray, List.getElem?_cons_zero]; rfl) (by rfl) (by kernel_rfl) (by kernel_rfl) (by kernel_rfl) (fun _ _ _ _ h => h) rfl (by rfl) ?_
    apply Exists.intro
    apply And.intro
    · intro W hW
      first | (go_simp; with_reducible rfl) | go_simp
    (try simp only [Act.put, List.setIfInBounds_toArray]); (try simp only [List.set_cons_succ]); (try simp only [List.set_cons_zero])
    refine r_flt RB_refl 1 29 #[true, true, false, false, false, false, false, false, false] (by simp only [List.getElem?_toArray, List.getElem?_cons_succ, List.getElem?_cons_zero]; rfl) (by rfl) (by kernel_rfl) (by kernel_rfl) (by kernel_rfl) (fun _ _ _ _ h => h) rfl (by rfl) ?_
    apply Exists.intro
    apply And.intro
    · intro W hW
      have c := (hbl.below hW).cell 2
      simp at c
      go_simp; rfl
    (try simp only [Act.put, List.setIfInBounds_toArray]); (try simp only [List.set_cons_succ]); (try simp only [List.set_cons_zero])
    refine r_flt RB_refl 2 30 #[true, true, true, false, false, false, false, false, false] (by simp only [List.getElem?_toArray, List.getElem?_cons_succ, List.getElem?_cons_zero]; rfl) (by rfl) (by kernel_rfl) (by kernel_rfl) (by kernel_rfl) (fun _ _ _ _ h => h) rfl (by rfl) ?_
    apply Exists.intro
    apply And.intro
    · intro W hW
      first | (go_simp; with_reducible rfl) | go_simp
    (try simp only [Act.put, List.setIfInBounds_toArray]); (try simp only [List.set_cons_succ]); (try simp only [List.set_cons_zero])
    refine r_flt RB_refl 3 31 #[true, true, true, true, false, false, false, false, false] (by simp only [List.getElem?_toArray, List.getElem?_cons_succ, List.getElem?_cons_zero]; rfl) (by rfl) (by kernel_rfl) (by kernel_rfl) (by kernel_rfl) (fun _ _ _ _ h => h) rfl (by rfl) ?_
    apply Exists.intro
    apply And.intro
    · intro W hW
      have c := (hbl.below hW).cell 0
      simp at c
      go_simp; rfl
    (try simp only [Act.put, List.setIfInBounds_toArray]); (try simp only [List.set_cons_succ]); (try simp only [List.set_cons_zero])
    refine r_flt RB_refl 4 32 #[true, true, true, true, true, false, false, false, false] (by simp only [List.getElem?_toArray, List.getElem?_cons_succ, List.getElem?_cons_zero]; rfl) (by rfl) (by kernel_rfl) (by kernel_rfl) (by kernel_rfl) (fun _ _ _ _ h => h) rfl (by rfl) ?_
    apply Exists.intro
    apply And.intro
    · intro W hW
      go_simp; first | (rw [WE.out]; done) | (rw [WE.out]; rfl)
    (try simp only [Act.put, List.setIfInBounds_toArray]); (try simp only [List.set_cons_succ]); (try simp only [List.set_cons_zero])
    refine r_flt RB_refl 5 33 #[true, true, true, true, true, true, false, false, false] (by simp only [List.getElem?_toArray, List.getElem?_cons_succ, List.getElem?_cons_zero]; rfl) (by rfl) (by kernel_rfl) (by kernel_rfl) (by kernel_rfl) (fun _ _ _ _ h => h) rfl (by rfl) ?_
    apply Exists.intro
    apply And.intro
    · intro W hW
      first | (go_simp; with_reducible rfl) | go_simp
    (try simp only [Act.put, List.setIfInBounds_toArray]); (try simp only [List.set_cons_succ]); (try simp only [List.set_cons_zero])
    refine r_flt RB_refl 6 34 #[true, true, true, true, true, true, true, false, false] (by simp only [List.getElem?_toArray, List.getElem?_cons_succ, List.getElem?_cons_zero]; rfl) (by rfl) (by kernel_rfl) (by kernel_rfl) (by kernel_rfl) (fun _ _ _ _ h => h) rfl (by rfl) ?_
    apply Exists.intro
    apply And.intro
    · intro W hW
      have c := (hbl.below hW).cell 1
      simp at c
      go_simp; rfl
    (try simp only [Act.put, List.setIfInBounds_toArray]); (try simp only [List.set_cons_succ]); (try simp only [List.set_cons_zero])
    refine r_flt RB_refl 7 35 #[true, true, true, true, true, true, true, true, false] (by simp only [List.getElem?_toArray, List.getElem?_cons_succ, List.getElem?_cons_zero]; rfl) (by rfl) (by kernel_rfl) (by kernel_rfl) (by kernel_rfl) (fun _ _ _ _ h => h) rfl (by rfl) ?_
    apply Exists.intro
    apply And.intro
    · intro W hW
      go_simp; first | (rw [WR.out]; done) | (rw [WR.out]; rfl)
    (try simp only [Act.put, List.setIfInBounds_toArray]); (try simp only [List.set_cons_succ]); (try simp only [List.set_cons_zero])
    refine r_flt RB_refl 8 6 #[true, true, true, true, true, true, true, true, true] (by simp only [List.getElem?_toArray, List.getElem?_cons_succ, List.getElem?_cons_zero]; rfl) (by rfl) (by kernel_rfl) (by kernel_rfl) (by kernel_rfl) (fun _ _ _ _ h => h) rfl (by rfl) ?_
    apply Exists.intro
    apply And.intro
    · intro W hW
      first | (go_simp; with_reducible rfl) | go_simp
    (try simp only [Act.put, List.setIfInBounds_toArray]); (try simp only [List.set_cons_succ]); (try simp only [List.set_cons_zero])
    refine r_done (by kernel_rfl) ?_
    go_wp2_with fail
    refine r_start (R := RB) (by rfl) (n := 14) (L := #[false, false, false, false, false, false, false, false, false, false, false, false, false, false]) rfl rfl ?_
    have bdw2d : Below w2d.heap.size w2d w2d.drew := (Below.refl _ _).drew
    have hbl := hbl.below bdw2d
    have bb := bb.thenB' bdw2d
    generalize w2d.drew = w2dd at *
    refine r_flt RB_refl 0 36 #[true, false, false, false, false, false, false, false, false, false, false, false, false, false] (by simp only [List.getElem?_toArray, List.getElem?_cons_zero]; rfl) (by rfl) (by kernel_rfl) (by kernel_rfl) (by kernel_rfl) (fun _ _ _ _ h => h) rfl (by rfl) ?_
    apply Exists.intro
    apply And.intro
    · intro W hW
      first | (go_simp; with_reducible rfl) | go_simp
    (try simp only [Act.put, List.setIfInBounds_toArray]); (try simp only [List.set_cons_succ]); (try simp only [List.set_cons_zero])
    refine r_flt RB_refl 1 37 #[true, true, false, false, false, false, false, false, false, false, false, false, false, false] (by simp only [List.getElem?_toArray, List.getElem?_cons_succ, List.getElem?_cons_zero]; rfl) (by rfl) (by kernel_rfl) (by kernel_rfl) (by kernel_rfl) (fun _ _ _ _ h => h) rfl (by rfl) ?_
    apply Exists.intro
    apply And.intro
    · intro W hW
      first | (go_simp; with_reducible rfl) | go_simp
    (try simp only [Act.put, List.setIfInBounds_toArray]); (try simp only [List.set_cons_succ]); (try simp only [List.set_cons_zero])
    refine r_flt RB_refl 2 38 #[true, true, true, false, false, false, false, false, false, false, false, false, false, false] (by simp only [List.getElem?_toArray, List.getElem?_cons_succ, List.getElem?_cons_zero]; rfl) (by rfl) (by kernel_rfl) (by kernel_rfl) (by kernel_rfl) (fun _ _ _ _ h => h) rfl (by rfl) ?_
    apply Exists.intro
    apply And.intro
    · intro W hW
      go_simp; first | (rw [WA.out]; done) | (rw [WA.out]; rfl)
    (try simp only [Act.put, List.setIfInBounds_toArray]); (try simp only [List.set_cons_succ]); (try simp only [List.set_cons_zero])
    refine r_flt RB_refl 3 39 #[true, true, true, true, false, false, false, false, false, false, false, false, false, false] (by simp only [List.getElem?_toArray, List.getElem?_cons_succ, List.getElem?_cons_zero]; rfl) (by rfl) (by kernel_rfl) (by kernel_rfl) (by kernel_rfl) (fun _ _ _ _ h => h) rfl (by rfl) ?_
    apply Exists.intro
    apply And.intro
    · intro W hW
      first | (go_simp; with_reducible rfl) | go_simp
    (try simp only [Act.put, List.setIfInBounds_toArray]); (try simp only [List.set_cons_succ]); (try simp only [List.set_cons_zero])
    refine r_flt RB_refl 4 40 #[true, true, true, true, true, false, false, false, false, false, false, false, false, false] (by simp only [List.getElem?_toArray, List.getElem?_cons_succ, List.getElem?_cons_zero]; rfl) (by rfl) (by kernel_rfl) (by kernel_rfl) (by kernel_rfl) (fun _ _ _ _ h => h) rfl (by rfl) ?_
    apply Exists.intro
    apply And.intro
    · intro W hW
      have c := (hbl.below hW).cell 1
      simp at c
      go_simp; rfl
    (try simp only [Act.put, List.setIfInBounds_toArray]); (try simp only [List.set_cons_succ]); (try simp only [List.set_cons_zero])
    refine r_flt RB_refl 5 41 #[true, true, true, true, true, true, false, false, false, false, false, false, false, false] (by simp only [List.getElem?_toArray, List.getElem?_cons_succ, List.getElem?_cons_zero]; rfl) (by rfl) (by kernel_rfl) (by kernel_rfl) (by kernel_rfl) (fun _ _ _ _ h => h) rfl (by rfl) ?_
    apply Exists.intro
    apply And.intro
    · intro W hW
      go_simp; first | (rw [WB.out]; done) | (rw [WB.out]; rfl)
    (try simp only [Act.put, List.setIfInBounds_toArray]); (try simp only [List.set_cons_succ]); (try simp only [List.set_cons_zero])
    refine r_flt RB_refl 6 42 #[true, true, true, true, true, true, true, false, false, false, false, false, false, false] (by simp only [List.getElem?_toArray, List.getElem?_cons_succ, List.getElem?_cons_zero]; rfl) (by rfl) (by kernel_rfl) (by kernel_rfl) (by kernel_rfl) (fun _ _ _ _ h => h) rfl (by rfl) ?_
    apply Exists.intro
    apply And.intro
    · intro W hW
      first | (go_simp; with_reducible rfl) | go_simp
    (try simp only [Act.put, List.setIfInBounds_toArray]); (try simp only [List.set_cons_succ]); (try simp only [List.set_cons_zero])
    refine r_flt RB_refl 7 43 #[true, true, true, true, true, true, true, true, false, false, false, false, false, false] (by simp only [List.getElem?_toArray, List.getElem?_cons_succ, List.getElem?_cons_zero]; rfl) (by rfl) (by kernel_rfl) (by kernel_rfl) (by kernel_rfl) (fun _ _ _ _ h => h) rfl (by rfl) ?_
    apply Exists.intro
    apply And.intro
    · intro W hW
      first | (go_simp; with_reducible rfl) | go_simp
    (try simp only [Act.put, List.setIfInBounds_toArray]); (try simp only [List.set_cons_succ]); (try simp only [List.set_cons_zero])
    refine r_flt RB_refl 8 44 #[true, true, true, true, true, true, true, true, true, false, false, false, false, false] (by simp only [List.getElem?_toArray, List.getElem?_cons_succ, List.getElem?_cons_zero]; rfl) (by rfl) (by kernel_rfl) (by kernel_rfl) (by kernel_rfl) (fun _ _ _ _ h => h) rfl (by rfl) ?_
    apply Exists.intro
    apply And.intro
    · intro W hW
      go_simp; rfl
    (try simp only [Act.put, List.setIfInBounds_toArray]); (try simp only [List.set_cons_succ]); (try simp only [List.set_cons_zero])
    refine r_flt RB_refl 9 45 #[true, true, true, true, true, true, true, true, true, true, false, false, false, false] (by simp only [List.getElem?_toArray, List.getElem?_cons_succ, List.getElem?_cons_zero]; rfl) (by rfl) (by kernel_rfl) (by kernel_rfl) (by kernel_rfl) (fun _ _ _ _ h => h) rfl (by rfl) ?_
    apply Exists.intro
    apply And.intro
    · intro W hW
      first | (go_simp; with_reducible rfl) | go_simp
    (try simp only [Act.put, List.setIfInBounds_toArray]); (try simp only [List.set_cons_succ]); (try simp only [List.set_cons_zero])
    refine r_flt RB_refl 10 46 #[true, true, true, true, true, true, true, true, true, true, true, false, false, false] (by simp only [List.getElem?_toArray, List.getElem?_cons_succ, List.getElem?_cons_zero]; rfl) (by rfl) (by kernel_rfl) (by kernel_rfl) (by kernel_rfl) (fun _ _ _ _ h => h) rfl (by rfl) ?_
    apply Exists.intro
    apply And.intro
    · intro W hW
      have c := (hbl.below hW).cell 1
      simp at c
      go_simp; rfl
    (try simp only [Act.put, List.setIfInBounds_toArray]); (try simp only [List.set_cons_succ]); (try simp only [List.set_cons_zero])
    refine r_flt RB_refl 11 47 #[true, true, true, true, true, true, true, true, true, true, true, true, false, false] (by simp only [List.getElem?_toArray, List.getElem?_cons_succ, List.getElem?_cons_zero]; rfl) (by rfl) (by kernel_rfl) (by kernel_rfl) (by kernel_rfl) (fun _ _ _ _ h => h) rfl (by rfl) ?_
    apply Exists.intro
    apply And.intro
    · intro W hW
      go_simp; rfl
    (try simp only [Act.put, List.setIfInBounds_toArray]); (try simp only [List.set_cons_succ]); (try simp only [List.set_cons_zero])
    refine r_flt RB_refl 12 48 #[true, true, true, true, true, true, true, true, true, true, true, true, true, false] (by simp only [List.getElem?_toArray, List.getElem?_cons_succ, List.getElem?_cons_zero]; rfl) (by rfl) (by kernel_rfl) (by kernel_rfl) (by kernel_rfl) (fun _ _ _ _ h => h) rfl (by rfl) ?_
    apply Exists.intro
    apply And.intro
    · intro W hW
      go_simp; first | (rw [WF.out]; done) | (rw [WF.out]; rfl)
    (try simp only [Act.put, List.setIfInBounds_toArray]); (try simp only [List.set_cons_succ]); (try simp only [List.set_cons_zero])
    refine r_flt RB_refl 13 4 #[true, true, true, true, true, true, true, true, true, true, true, true, true, true] (by simp only [List.getElem?_toArray, List.getElem?_cons_succ, List.getElem?_cons_zero]; rfl) (by rfl) (by kernel_rfl) (by kernel_rfl) (by kernel_rfl) (fun _ _ _ _ h => h) rfl (by rfl) ?_
    apply Exists.intro
    apply And.intro
    · intro W hW
      first | (go_simp; with_reducible rfl) | go_simp
    (try simp only [Act.put, List.setIfInBounds_toArray]); (try simp only [List.set_cons_succ]); (try simp only [List.set_cons_zero])
    refine r_done (by kernel_rfl) ?_
    go_wp2_with fail
    go_ret
    exact ⟨by rw [E.out]; rfl, bb⟩
  · have hf : (inO z && layO u n o) = false := by simpa using hm
    rw [hf] at hmy
    have E : Hid (objO u n o z = 0) := by
      unfold Hid objO
      rw [if_neg]
      rintro ⟨h1, h2, h3⟩
      rw [h1, Bool.and_true] at hf
      unfold inO at hf
      simp at hf
      omega
    clear hf hm
    go_enter Try.func66, Try.ntmps66
    go_wp2_with fail
    refine hmy.mono ?_
    clear hmy
    rintro e w2 ⟨rfl, b2⟩
    go_wp2_with fail
    go_ret
    exact ⟨by rw [E.out]; rfl, (hb.thenB' hb2).thenB' b2⟩
end Go.Proofs.Ytpgfhbkggchliaa
