/- Two rows that grow beside a medium; a cut's box is new. -/
import Derived.Test.YtodfejeifbhoeaaDoorMdN
namespace Go.Proofs.YtodfejeifbhoeaaDoor
open Go.RowKit
set_option linter.unusedVariables false

/-- Rows of kinds and bodies lie beside the medium. -/
def Rows3 (w wr : World) (g : Nat) (v ks bs : Value) (K : List Int) (L : List BV) : Prop :=
  OwnI wr w.heap.size ks K ∧ OwnS wr w.heap.size bs (L.map cS) ∧ (∀ t : BV, t ∈ L → RdB w (Old w) t.A t.l) ∧ Sep ks bs ∧ Apart wr g v ks ∧ Apart wr g v bs ∧ Below w.heap.size w wr
section
variable {w wr wr' : World} {g : Nat} {v v' ks bs u : Value} {K K' : List Int} {L L' : List BV} {s s' : MS}
theorem Rows3.below (h : Rows3 w wr g v ks bs K L) (hm : Med wr w.heap.size g v s) (hb : Below wr.heap.size wr wr') : Rows3 w wr' g v ks bs K L := by
  obtain ⟨h1, h2, h3, h4, h5, h6, h7⟩ := h
  exact ⟨OwnI.below h1 hb, own_below h2 hb, h3, h4, h5.below hm hb, h6.below hm hb, h7.trans (hb.mono h7.size)⟩
theorem Rows3.turned (h : Rows3 w wr g v ks bs K L) (hm0 : Med wr w.heap.size g v s) (hm : Med wr' w.heap.size g v' s') (x : Mod (Own2 g v) wr wr') (hs : Same2 wr v v') (hc : s'.cut = none) : Rows3 w wr' g v' ks bs K L := by
  obtain ⟨h1, h2, h3, h4, h5, h6, h7⟩ := h
  exact ⟨own_keep h1 x (fun k hk => (h5 k hk).1), own_keep h2 x (fun k hk => (h6 k hk).1), h3, h4, h5.turned (own_blk h1) hm hc hs, h6.turned (own_blk h2) hm hc hs, h7.trans (hm0.bel x h7.size)⟩
theorem Rows3.cut (h : Rows3 w wr g v ks bs K L) (hm0 : Med wr w.heap.size g v s) (x : Mod (Own2 g v) wr wr') (hf : ∀ nb, StopAt wr' g nb → wr.heap.size ≤ nb ∨ StopAt wr g nb) : Rows3 w wr' g v ks bs K L := by
  obtain ⟨h1, h2, h3, h4, h5, h6, h7⟩ := h
  have key : ∀ u, (∀ k, u.ownBlock = some k → k < wr.heap.size) → Apart wr g v u → Apart wr' g v u := fun u hu ha k hk => ⟨(ha k hk).1, fun hs => by
    rcases hf k hs with e | e
    · have := hu k hk; omega
    · exact (ha k hk).2 e⟩
  exact ⟨own_keep h1 x (fun k hk => (h5 k hk).1), own_keep h2 x (fun k hk => (h6 k hk).1), h3, h4, key _ (own_blk h1) h5, key _ (own_blk h2) h6, h7.trans (hm0.bel x h7.size)⟩
theorem Rows3.grow1 (h : Rows3 w wr g v ks bs K L) (hm : Med wr w.heap.size g v s) (x : Ext wr wr' ks u) (ho : OwnI wr' w.heap.size u K') : Rows3 w wr' g v u bs K' L ∧ Med wr' w.heap.size g v s := by
  obtain ⟨h1, h2, h3, h4, h5, h6, h7⟩ := h
  exact ⟨⟨ho, own_grown h2 x.grown h4, h3, h4.ext x (own_blk h2), Apart.grown hm h5 x, Apart.beside hm h5 x h6, h7.trans (x.below h1 (Nat.le_refl _) h7.size)⟩, hm.grown h5 x⟩
theorem Rows3.grow2 (h : Rows3 w wr g v ks bs K L) (hm : Med wr w.heap.size g v s) (x : Ext wr wr' bs u) (ho : OwnS wr' w.heap.size u (L'.map cS)) (hr : ∀ t : BV, t ∈ L' → RdB w (Old w) t.A t.l) : Rows3 w wr' g v ks u K L' ∧ Med wr' w.heap.size g v s := by
  obtain ⟨h1, h2, h3, h4, h5, h6, h7⟩ := h
  exact ⟨⟨own_grown h1 x.grown h4.symm, ho, hr, (h4.symm.ext x (own_blk h1)).symm, Apart.beside hm h6 x h5, Apart.grown hm h6 x, h7.trans (x.below h2 (Nat.le_refl _) h7.size)⟩, hm.grown h6 x⟩
end

set_option maxRecDepth 100000 in
theorem Cut_new (base g : Nat) (v : Value) (s : MS) (n : Int) (w : World) (h : Med w base g v s) (hb : base ≤ w.heap.size) : Calls Tryd.prog 12 #[.pointer (some ⟨g, 0, none⟩), .int .i64 n] w fun e w' => e = .returned (.tuple #[]) ∧ Med w' base g v (s.set n) ∧ Mod (Own2 g v) w w' ∧ ∀ nb, StopAt w' g nb → w.heap.size ≤ nb ∨ StopAt w g nb := by
  have n1 := below_new w (.cells #[.int .i64 n] 3)
  have hN := Blk.new w 3 #[.int .i64 n]
  have hlt : g < w.heap.size := by obtain ⟨sv, h1, _⟩ := h; exact h1.lt
  have hown : ∀ k, v.ownBlock = some k → k < w.heap.size := by obtain ⟨sv, _, h2, _⟩ := h; exact own_blk h2
  have hmf : ∀ (fn : Fn) (first cap : Array Value) (w : World), (Instr.makeFunc fn first cap).run Tryd.prog w = .ok (.func fn first cap) w := fun _ _ _ _ => rfl
  have h0 := h.below n1
  obtain ⟨sv0, g1, g2, g3, g4, g5⟩ := h
  obtain ⟨sv, h1, h2, h3, h4, h5⟩ := h0
  have c2 := h1.cell 2
  have c3 := h1.cell 3
  have f3 := h1.frozen 3
  simp at c2 c3
  cases hup : s.up
  · have e : Hid (s.set n = s) := by unfold Hid MS.set; rw [hup]; rfl
    rw [hup] at c2
    clear hup
    go_enter Tryd.func12, Tryd.ntmps12
    go_wp2_with fail
    go_end0
    rw [e.out]
    exact ⟨rfl, ⟨sv, h1, h2, h3, h4, h5⟩, Mod.of_below n1 _, fun nb hs => .inr (hs.back (n1.block g hlt))⟩
  · have e : Hid (s.set n = { s with cut := some n }) := by unfold Hid MS.set; rw [hup]; rfl
    rw [hup] at c2
    have hup' := Lib.hid hup
    clear hup
    have hsz : (w.setCell ⟨g, 3, none⟩ (.func (.func 28) #[] #[.pointer (some ⟨w.heap.size, 0, none⟩)])).heap.size = w.heap.size := by simp [World.setCell]
    have m6 := (Mod.refl (· = g) w).setG 3 (.func (.func 28) #[] #[.pointer (some ⟨w.heap.size, 0, none⟩)])
    have n6 := below_new (w.setCell ⟨g, 3, none⟩ (.func (.func 28) #[] #[.pointer (some ⟨w.heap.size, 0, none⟩)])) (.cells #[.int .i64 n] 3)
    have h6 := (g1.set_ 3 (.func (.func 28) #[] #[.pointer (some ⟨w.heap.size, 0, none⟩)])).below n6
    have o6 : OwnB _ base v s.b := OwnB.below (own_keep g2 m6 (fun k hk e => g4 (by rw [hk, e]))) n6
    have hN6 := Blk.new (w.setCell ⟨g, 3, none⟩ (.func (.func 28) #[] #[.pointer (some ⟨w.heap.size, 0, none⟩)])) 3 #[.int .i64 n]
    rw [hsz] at hN6
    have HSZ := Lib.hid hsz
    clear hsz
    go_enter Tryd.func12, Tryd.ntmps12
    go_wp2_with fail
    go_end0
    rw [e.out]
    refine ⟨rfl, ⟨_, h6, o6, h3, h4, .inr ⟨w.heap.size, n, rfl, rfl, hN6, by omega, fun e => by have := hown _ e; omega⟩⟩, (m6.mono fun k _ hk => .inl hk).thenB n6, fun nb hs => .inl ?_⟩
    have c := h6.cell 3
    simp at c
    unfold StopAt at hs
    rw [c] at hs
    injection hs with hs
    injection hs with _ _ hs
    have : w.heap.size = nb := by simpa using hs
    omega
end Go.Proofs.YtodfejeifbhoeaaDoor
