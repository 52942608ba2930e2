/- A region that draws its order, walked in ONE order: what reads alone is taken as soon as it may come up, and its value is shown to stand in every later world; what calls or makes memory comes alone. -/
import Derived.Test.YtpfbiamgnmbhnaaWords
import Derived.OrdersHeld
import Derived.RegionTactic
namespace Go.Proofs.Ytpfbiamgnmbhnaa
open Go.RowKit
set_option linter.unusedVariables false

section
variable {P : Program} {ops : Array Oper} {Q : Exit → Act → World → Prop} {R : World → World → Prop}

theorem anyH_mono {md : Region.Mode} {S S' : World → Prop} (h : ∀ w, S' w → S w) : ∀ (fuel : Nat) (L : Array Bool) (a : Act) (w : World), wpAnyH P md ops Q S' fuel L a w → wpAnyH P md ops Q S fuel L a w
  | 0, _, _, _, hh => hh
  | fuel + 1, _, _, _, hh => ⟨hh.1, fun i hi => wpOp_mono (fun a' w' h' => ⟨h w' h'.1, anyH_mono h fuel _ a' w' h'.2⟩) (hh.2 i hi)⟩

def wpR (P : Program) (ops : Array Oper) (R : World → World → Prop) (Q : Exit → Act → World → Prop) (fuel : Nat) (L : Array Bool) (a : Act) (w : World) : Prop := wpAnyH P .any ops Q (R w) fuel L a w

/-- One of those that may come up comes up. -/
def Alt (P : Program) (ops : Array Oper) (R : World → World → Prop) (Q : Exit → Act → World → Prop) (fuel : Nat) (L : Array Bool) (a : Act) (w : World) (i : Nat) : Prop :=
  wpOp P ops Q i (fun a' w' => R w w' ∧ wpR P ops R Q fuel (L.setIfInBounds i true) a' w') a w

theorem r_start {id : Nat} {a : Act} {w : World} (hm : P.follows .mixedOrders = true) {n : Nat} {L : Array Bool} (hn : ops.size = n) (hL : Array.replicate n false = L) (h : wpR P ops R Q n L a w.drew) : (Code.region id ops true).wp P Q a w := by
  subst hn; subst hL
  exact wp_region_held hm h

variable {i fuel : Nat} {o : Oper} {v : Value} {L L' : Array Bool} {a a' : Act} {w : World}

theorem r_flt (hR : ∀ w, R w w) (i d : Nat) (L' : Array Bool) (ho : ops[i]? = some o) (hd : o.dst = some d) (hs : Region.noSelect ops = true) (hf : Region.free .any ops L i = true) (hr : (Region.ready .any ops L).contains i = true)
    (hQ : ∀ v c a w, Q (.panic c) (a.put (some d) v) w → Q (.panic c) a w) (hl : L.setIfInBounds i true = L') (hw : Region.wanted o (yielded ops a.tmps) = true)
    (h : ∃ v, (∀ W, R w W → (execOp a.eval o).run P W = .ok (.value v) W) ∧ wpR P ops R Q fuel L' (a.put (some d) v) w) : wpR P ops R Q (fuel + 1) L a w := by
  subst hl
  rw [← hd] at h hQ
  obtain ⟨v, hy, h⟩ := h
  exact wpAnyH_take ho hs hf hr (hQ v) (.inl ⟨hw, hy⟩) (hR w) h

theorem r_skip (hR : ∀ w, R w w) (i d : Nat) (L' : Array Bool) (ho : ops[i]? = some o) (hd : o.dst = some d) (hs : Region.noSelect ops = true) (hf : Region.free .any ops L i = true) (hr : (Region.ready .any ops L).contains i = true)
    (hQ : ∀ v c a w, Q (.panic c) (a.put (some d) v) w → Q (.panic c) a w) (hl : L.setIfInBounds i true = L') (hw : Region.wanted o (yielded ops a.tmps) = false)
    (h : wpR P ops R Q fuel L' (a.put (some d) undef) w) : wpR P ops R Q (fuel + 1) L a w := by
  subst hl
  rw [← hd] at h hQ
  exact wpAnyH_take ho hs hf hr (hQ undef) (.inr ⟨hw, rfl⟩) (hR w) h

theorem r_done (hr : Region.ready .any ops L = []) (h : Q .normal a w) : wpR P ops R Q fuel L a w := wpAnyH_done hr h _

theorem Alt.up (hT : ∀ a b c, R a b → R b c → R a c) (h : Alt P ops R Q fuel L a w i) :
    wpOp P ops Q i (fun a' w' => R w w' ∧ wpAnyH P Region.Mode.any ops Q (R w) fuel (L.setIfInBounds i true) a' w') a w :=
  wpOp_mono (fun a' w' ⟨h1, h2⟩ => ⟨h1, anyH_mono (fun w2 h3 => hT _ _ _ h1 h3) _ _ _ _ h2⟩) h

theorem r_one (hT : ∀ a b c, R a b → R b c → R a c) (i : Nat) (hr : Region.ready .any ops L = [i]) (h : Alt P ops R Q fuel L a w i) : wpR P ops R Q (fuel + 1) L a w :=
  wpAnyH_all hr (by simp) fun j hj => by
    obtain rfl : j = i := by simpa using hj
    exact h.up hT

theorem r_two (hT : ∀ a b c, R a b → R b c → R a c) (i j : Nat) (hr : Region.ready .any ops L = [i, j]) (h1 : Alt P ops R Q fuel L a w i) (h2 : Alt P ops R Q fuel L a w j) : wpR P ops R Q (fuel + 1) L a w :=
  wpAnyH_all hr (by simp) fun k hk => by
    rcases List.mem_cons.1 hk with rfl | hk
    · exact h1.up hT
    · obtain rfl : k = j := by simpa using hk
      exact h2.up hT

theorem alt_call (d : Nat) (L' : Array Bool) (ho : ops[i]? = some o) (hd : o.dst = some d) (hl : L.setIfInBounds i true = L') (hw : Region.wanted o (yielded ops a.tmps) = true) {f : FuncId} {args : Array Value}
    (hrun : (execOp a.eval o).run P w = .ok (.enter f args) w) (h : Calls P f args w fun e w' => ∃ v, e = .returned v ∧ R w w' ∧ wpR P ops R Q fuel L' (a.put (some d) v) w') : Alt P ops R Q fuel L a w i := by
  subst hl
  rw [← hd] at h
  unfold Alt wpOp
  simp only [ho, hw, if_true]
  refine .inl ?_
  unfold Oper.wp
  rw [hrun, Oper.upon_enter]
  exact h.mono fun e w' ⟨v, he, h1, h2⟩ => by
    subst he
    exact ⟨h1, h2⟩

theorem alt_val (d : Nat) (L' : Array Bool) (ho : ops[i]? = some o) (hd : o.dst = some d) (hl : L.setIfInBounds i true = L') (hw : Region.wanted o (yielded ops a.tmps) = true) {w' : World}
    (hrun : (execOp a.eval o).run P w = .ok (.value v) w') (h1 : R w w') (h : wpR P ops R Q fuel L' (a.put (some d) v) w') : Alt P ops R Q fuel L a w i := by
  subst hl
  rw [← hd] at h
  unfold Alt wpOp
  simp only [ho, hw, if_true]
  refine .inl ?_
  unfold Oper.wp
  rw [hrun, Oper.upon_value]
  exact ⟨h1, h⟩
end

/-- Only block g, and what is new, has turned. -/
def RG (g : Nat) (a b : World) : Prop := Mod (· = g) a b
theorem RG_refl (g : Nat) (w : World) : RG g w w := Mod.refl _ w
theorem RG_trans (g : Nat) (a b c : World) (h : RG g a b) (k : RG g b c) : RG g a c := Mod.trans h k
theorem RG.of_below {g : Nat} {a b : World} (h : Below a.heap.size a b) : RG g a b := Mod.of_below h _
/-- Nothing that was there has turned. -/
def RB (a b : World) : Prop := Below a.heap.size a b
theorem RB_refl (w : World) : RB w w := Below.refl _ w
theorem RB_trans (a b c : World) (h : RB a b) (k : RB b c) : RB a c := h.thenB' k
end Go.Proofs.Ytpfbiamgnmbhnaa
