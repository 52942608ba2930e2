/- A medium: what it is (no program), and how it lies in memory; New, Up, Len, Crash, Cut. -/
import Derived.Test.YtodfejeifbhoeaaDoorFr21
import Derived.Test.YtodfejeifbhoeaaDoorCan
namespace Go.Proofs.YtodfejeifbhoeaaDoor
open Go.RowKit
set_option linter.unusedVariables false

/-- An operation that gives no value, in a region walked in one order. -/
theorem alt_none {P : Program} {ops : Array Oper} {Q : Exit → Act → World → Prop} {R : World → World → Prop} {i fuel : Nat} {o : Oper} {L : Array Bool} {a : Act} {w : World} (L' : Array Bool) (ho : ops[i]? = some o) (hd : o.dst = none) (hl : L.setIfInBounds i true = L') (hw : Region.wanted o (yielded ops a.tmps) = true) {w' : World}
    (hrun : (execOp a.eval o).run P w = .ok .skip w') (h1 : R w w') (h : wpR P ops R Q fuel L' a w') : Alt P ops R Q fuel L a w i := by
  subst hl
  unfold Alt wpOp
  simp only [ho, hw, if_true]
  refine .inl ?_
  unfold Oper.wp
  rw [hrun]
  exact ⟨h1, by rw [hd]; exact h⟩
def RT (_ _ : World) : Prop := True
theorem RT_refl (w : World) : RT w w := trivial
theorem RT_trans (a b c : World) (_ : RT a b) (_ : RT b c) : RT a c := trivial
/-- append's run, of bytes. -/
theorem run_appB (w : World) (base : Nat) (v : Value) (bs : List UInt8) (hown : OwnB w base v bs) (D : Nat → Prop) (A : Option Addr) (m c : Nat) (news : List UInt8) (hm : m = news.length) (hr : RdB w D A news)
    (hlen : bs.length + news.length ≤ big) (hbase : base ≤ w.heap.size) :
    ∃ v' w', (Builtin.append_ #[28, 28] 28 #[v, .slice A m c]).run Tryd.prog w = .ok v' w' ∧ OwnB w' base v' (bs ++ news) ∧ Ext w w' v v' := by
  subst hm
  obtain ⟨v', w', hrun, h2, h3, h4⟩ := run_app w base 28 28 5 (.int .u8 0) 1 1 Tryd.underlying28 infoB rfl (by decide) v _ _ hown D A _ c _ hr (cB_one _) (by unfold big at hlen; unfold maxLen; omega) (by unfold big at hlen; omega) hbase
  exact ⟨v', w', hrun, by unfold OwnB; rw [List.length_append, List.map_append]; exact h2, ⟨h3, h4.imp id fun e k hk => by rw [e] at hk; injection hk with hk; omega⟩⟩

theorem exec_app {ρ : Operand → Value} {o : Oper} {s x : Operand} {w w' : World} {v u v' : Value} (ho : o.op = .call { callee := .builtin .append, args := #[s, x], argTypes := #[28, 28] }) (hs : ρ s = v) (hx : ρ x = u)
    (hrun : (Builtin.append_ #[28, 28] o.type #[v, u]).run Tryd.prog w = .ok v' w') : (execOp ρ o).run Tryd.prog w = .ok (.value v') w' := by
  unfold execOp
  simp only [ho, resolve, invoke, builtin, Sem.run_bind, Sem.run_pure, Result.andThen_ok, List.map_toArray, List.map_cons, List.map_nil, hs, hx, hrun]

/-- A medium. -/
structure MS where
  b : List UInt8
  room : Int
  up : Bool
  cut : Option Int
def newS (room : Int) : MS := ⟨[], min (max room 0) 1048576, true, none⟩
def MS.crash (s : MS) : MS := { s with up := false, cut := none }
def MS.set (s : MS) (n : Int) : MS := if s.up then { s with cut := some n } else s
def lastO (l : List Int) : Nat := (l.getLastD 0).toNat
def MS.boot (s : MS) : MS := { s with b := s.b.take (lastO (wholeO s.b)), up := true, cut := none }
def cutN (n : Int) (f : List UInt8) : Nat := (min (max n 0) (f.length : Int)).toNat
def MS.app (s : MS) (kind : Int) (body : List UInt8) : MS × Int :=
  if s.up = false then (s, 100) else if (makeO kind body).2 ≠ 0 then (s, (makeO kind body).2)
  else if s.room < (s.b.length : Int) + ((makeO kind body).1.length : Int) then (s, 110)
  else match s.cut with
    | none => ({ s with b := s.b ++ (makeO kind body).1 }, 0)
    | some n => ({ s with b := s.b ++ (makeO kind body).1.take (cutN n (makeO kind body).1), up := false, cut := none }, 100)

/-- What stops the next writing. -/
def StopV (w : World) (g : Nat) (v sv : Value) (cut : Option Int) : Prop :=
  (cut = none ∧ sv = Value.nilFunc) ∨ ∃ nb n, cut = some n ∧ sv = .func (.func 28) #[] #[.pointer (some ⟨nb, 0, none⟩)] ∧ Blk w nb 3 #[.int .i64 n] ∧ nb ≠ g ∧ v.ownBlock ≠ some nb
/-- A medium lies at g; its bytes are the row v. -/
def Med (w : World) (base g : Nat) (v : Value) (s : MS) : Prop :=
  ∃ sv, Blk w g 55 #[v, .int .i64 s.room, .bool s.up, sv] ∧ OwnB w base v s.b ∧ base ≤ g ∧ v.ownBlock ≠ some g ∧ StopV w g v sv s.cut
theorem Med.below {w w' : World} {base g : Nat} {v : Value} {s : MS} (h : Med w base g v s) (hb : Below w.heap.size w w') : Med w' base g v s := by
  obtain ⟨sv, h1, h2, h3, h4, h5⟩ := h
  refine ⟨sv, h1.below hb, OwnB.below h2 hb, h3, h4, ?_⟩
  rcases h5 with h5 | ⟨nb, n, e1, e2, e3, e4⟩
  · exact .inl h5
  · exact .inr ⟨nb, n, e1, e2, e3.below hb, e4⟩
theorem Med.low {w : World} {base base' g : Nat} {v : Value} {s : MS} (h : Med w base g v s) (hb : base' ≤ base) : Med w base' g v s := by
  obtain ⟨sv, h1, h2, h3, h4, h5⟩ := h
  exact ⟨sv, h1, OwnB.low h2 hb, by omega, h4, h5⟩
/-- What a method may turn. -/
def Own2 (g : Nat) (v : Value) (k : Nat) : Prop := k = g ∨ v.ownBlock = some k
theorem Med.own {w : World} {base g : Nat} {v : Value} {s : MS} (h : Med w base g v s) (k : Nat) (hk : Own2 g v k) : base ≤ k := by
  obtain ⟨sv, h1, h2, h3, h4, h5⟩ := h
  rcases hk with rfl | hk
  · exact h3
  · rcases h2.2 with ⟨rfl, _⟩ | ⟨g', cap, cur, rfl, hg, hh, r⟩
    · simp [Value.ownBlock] at hk
    · have : g' = k := by simpa [Value.ownBlock] using hk
      omega
theorem Med.bel {w w' : World} {base g : Nat} {v : Value} {s : MS} (h : Med w base g v s) (hm : Mod (Own2 g v) w w') (hb : base ≤ w.heap.size) : Below base w w' :=
  hm.below hb fun k hk hx => by have := h.own k hx; omega
/-- The row of a later state is the same one, or new. -/
def Same2 (w : World) (v v' : Value) : Prop := v'.ownBlock = v.ownBlock ∨ ∀ k, v'.ownBlock = some k → w.heap.size ≤ k

@[go_sem] theorem run_store_nilFunc (a : Addr) (m : Mode) (w : World) : (store a .nilFunc m).run Tryd.prog w = stored Tryd.prog w a .nilFunc m := run_store Tryd.prog w a _ m rfl
@[go_sem] theorem run_store_fn (a : Addr) (m : Mode) (w : World) (fn : Fn) (first cap : Array Value) : (store a (.func fn first cap) m).run Tryd.prog w = stored Tryd.prog w a (.func fn first cap) m := run_store Tryd.prog w a _ m rfl
theorem own_keep {w w' : World} {X : Nat → Prop} {base : Nat} {v : Value} {e : TypeId} {size n : Nat} {xs : List Value} (h : w.ownsRow base e size v n xs) (hb : Mod X w w') (hx : ∀ k, v.ownBlock = some k → ¬ X k) : w'.ownsRow base e size v n xs := by
  refine ⟨h.1, ?_⟩
  rcases h.2 with h0 | ⟨g, cap, cur, hv, hg, hh, r⟩
  · exact .inl h0
  · exact .inr ⟨g, cap, cur, hv, hg, by rw [hb.block g (Array.getElem?_eq_some_iff.1 hh).1 (hx g (by rw [hv]; rfl))]; exact hh, r⟩
theorem New_any (room : Int) (w : World) : Calls Tryd.prog 11 #[.int .i64 room] w fun e w' => e = .returned (.pointer (some ⟨w.heap.size, 0, none⟩)) ∧ Med w' w.heap.size w.heap.size (.slice none 0 0) (newS room) ∧ Below w.heap.size w w' := by
  go_enter Tryd.func11, Tryd.ntmps11
  go_wp2_with fail
  go_ret
  exact ⟨rfl, ⟨Value.nilFunc, Blk.new _ _ _, OwnB.nil, Nat.le_refl _, by simp [Value.ownBlock], .inl ⟨rfl, rfl⟩⟩, below_new _ _⟩

theorem Up_any (base g : Nat) (v : Value) (s : MS) (w : World) (h : Med w base g v s) : Calls Tryd.prog 15 #[.pointer (some ⟨g, 0, none⟩)] w fun e w' => e = .returned (.bool s.up) ∧ w = w' := by
  obtain ⟨sv, h1, h2, h3, h4, h5⟩ := h
  have c2 := h1.cell 2
  simp at c2
  go_enter Tryd.func15, Tryd.ntmps15
  go_wp2_with fail
  go_ret
  exact ⟨rfl, rfl⟩
theorem Len_any (base g : Nat) (v : Value) (s : MS) (w : World) (h : Med w base g v s) : Calls Tryd.prog 19 #[.pointer (some ⟨g, 0, none⟩)] w fun e w' => e = .returned (.int .i64 (s.b.length : Int)) ∧ w = w' := by
  obtain ⟨sv, h1, h2, h3, h4, h5⟩ := h
  obtain ⟨A, c, rfl, _, _⟩ := own_form h2
  have c0 := h1.cell 0
  simp at c0
  go_enter Tryd.func19, Tryd.ntmps19
  go_wp2_with fail
  go_ret
  exact ⟨rfl, rfl⟩
theorem Crash_any (base g : Nat) (v : Value) (s : MS) (w : World) (h : Med w base g v s) : Calls Tryd.prog 13 #[.pointer (some ⟨g, 0, none⟩)] w fun e w' => e = .returned (.tuple #[]) ∧ Med w' base g v s.crash ∧ Mod (Own2 g v) w w' := by
  obtain ⟨sv, h1, h2, h3, h4, h5⟩ := h
  have c2 := h1.cell 2
  have c3 := h1.cell 3
  have f2 := h1.frozen 2
  have f3 := h1.frozen 3
  simp at c2 c3
  have h6 := (h1.set_ 2 (.bool false)).set_ 3 Value.nilFunc
  have m6 := ((Mod.refl (· = g) w).setG 2 (.bool false)).setG 3 Value.nilFunc
  have o6 : OwnB _ base v s.b := own_keep h2 m6 (fun k hk e => h4 (by rw [hk, e]))
  go_enter Tryd.func13, Tryd.ntmps13
  go_wp2_with fail
  go_end0
  exact ⟨rfl, ⟨Value.nilFunc, h6, o6, h3, h4, .inl ⟨rfl, rfl⟩⟩, m6.mono fun k _ hk => .inl hk⟩
theorem Cut_any (base g : Nat) (v : Value) (s : MS) (n : Int) (w : World) (h : Med w base g v s) (hb : base ≤ w.heap.size) : Calls Tryd.prog 12 #[.pointer (some ⟨g, 0, none⟩), .int .i64 n] w fun e w' => e = .returned (.tuple #[]) ∧ Med w' base g v (s.set n) ∧ Mod (Own2 g v) w w' := by
  have n1 := below_new w (.cells #[.int .i64 n] 3)
  have hN := Blk.new w 3 #[.int .i64 n]
  have hlt : g < w.heap.size := by obtain ⟨sv, h1, _⟩ := h; exact h1.lt
  have hown : ∀ k, v.ownBlock = some k → k < w.heap.size := by obtain ⟨sv, _, h2, _⟩ := h; exact own_blk h2
  have hmf : ∀ (fn : Fn) (first cap : Array Value) (w : World), (Instr.makeFunc fn first cap).run Tryd.prog w = .ok (.func fn first cap) w := fun _ _ _ _ => rfl
  have h0 := h.below n1
  obtain ⟨sv0, g1, g2, g3, g4, g5⟩ := h
  obtain ⟨sv, h1, h2, h3, h4, h5⟩ := h0
  have c2 := h1.cell 2
  have c3 := h1.cell 3
  have f3 := h1.frozen 3
  simp at c2 c3
  cases hup : s.up
  · have e : Hid (s.set n = s) := by unfold Hid MS.set; rw [hup]; rfl
    rw [hup] at c2
    clear hup
    go_enter Tryd.func12, Tryd.ntmps12
    go_wp2_with fail
    go_end0
    rw [e.out]
    exact ⟨rfl, ⟨sv, h1, h2, h3, h4, h5⟩, Mod.of_below n1 _⟩
  · have e : Hid (s.set n = { s with cut := some n }) := by unfold Hid MS.set; rw [hup]; rfl
    rw [hup] at c2
    have hup' := Lib.hid hup
    clear hup
    have hsz : (w.setCell ⟨g, 3, none⟩ (.func (.func 28) #[] #[.pointer (some ⟨w.heap.size, 0, none⟩)])).heap.size = w.heap.size := by simp [World.setCell]
    have m6 := (Mod.refl (· = g) w).setG 3 (.func (.func 28) #[] #[.pointer (some ⟨w.heap.size, 0, none⟩)])
    have n6 := below_new (w.setCell ⟨g, 3, none⟩ (.func (.func 28) #[] #[.pointer (some ⟨w.heap.size, 0, none⟩)])) (.cells #[.int .i64 n] 3)
    have h6 := (g1.set_ 3 (.func (.func 28) #[] #[.pointer (some ⟨w.heap.size, 0, none⟩)])).below n6
    have o6 : OwnB _ base v s.b := OwnB.below (own_keep g2 m6 (fun k hk e => g4 (by rw [hk, e]))) n6
    have hN6 := Blk.new (w.setCell ⟨g, 3, none⟩ (.func (.func 28) #[] #[.pointer (some ⟨w.heap.size, 0, none⟩)])) 3 #[.int .i64 n]
    rw [hsz] at hN6
    have HSZ := Lib.hid hsz
    clear hsz
    go_enter Tryd.func12, Tryd.ntmps12
    go_wp2_with fail
    go_end0
    rw [e.out]
    exact ⟨rfl, ⟨_, h6, o6, h3, h4, .inr ⟨w.heap.size, n, rfl, rfl, hN6, by omega, fun e => by have := hown _ e; omega⟩⟩, (m6.mono fun k _ hk => .inl hk).thenB n6⟩
end Go.Proofs.YtodfejeifbhoeaaDoor
