/- Put. -/
import Derived.Test.YtpfbiamgnmbhnaaNt4
import Derived.Deep.Cut
import Derived.Deep.CutBlock
import Derived.Deep.CutRange
namespace Go.Proofs.Ytpfbiamgnmbhnaa
open Go.RowKit
set_option linter.unusedVariables false
set_option maxRecDepth 100000

/-- An operation that gives no value, in a region walked in one order. -/
theorem alt_none {P : Program} {ops : Array Oper} {Q : Exit → Act → World → Prop} {R : World → World → Prop} {i fuel : Nat} {o : Oper} {L : Array Bool} {a : Act} {w : World} (L' : Array Bool) (ho : ops[i]? = some o) (hd : o.dst = none) (hl : L.setIfInBounds i true = L') (hw : Region.wanted o (yielded ops a.tmps) = true) {w' : World}
    (hrun : (execOp a.eval o).run P w = .ok .skip w') (h1 : R w w') (h : wpR P ops R Q fuel L' a w') : Alt P ops R Q fuel L a w i := by
  subst hl
  unfold Alt wpOp
  simp only [ho, hw, if_true]
  refine .inl ?_
  unfold Oper.wp
  rw [hrun]
  exact ⟨h1, by rw [hd]; exact h⟩
theorem cloneD_any (D : Nat → Prop) (A : Option Addr) (c : Nat) (bs : List UInt8) (w : World) (h : RdB w D A bs) (hl : bs.length ≤ big) :
    Calls Try.prog 26 #[.slice A bs.length c] w fun e w' => ∃ v, e = .returned v ∧ OwnB w' w.heap.size v bs ∧ Below w.heap.size w w' := by
  rcases A with _ | ad
  · have hz : bs = [] := by
      rcases Nat.eq_zero_or_pos bs.length with h0 | h0
      · exact List.eq_nil_of_length_eq_zero h0
      · obtain ⟨ad, h, _⟩ := h.2 h0
        cases h
    subst hz
    go_enter Try.func26, Try.ntmps26
    go_wp2
    go_ret
    exact ⟨_, rfl, OwnB.nil, Below.refl _ _⟩
  · have hem : OwnB (w.alloc (.cells #[] 5)) w.heap.size (.slice (some ⟨w.heap.size, 0, none⟩) 0 0) [] := own_lit w _ [] _ (Nat.le_refl _) (by simp)
    go_enter Try.func26, Try.ntmps26
    go_wp2_with (at_builtin; refine wpList_appB rfl (.tmp 5) (.tmp 6) rfl w.heap.size (.slice (some ⟨w.heap.size, 0, none⟩) 0 0) [] rfl hem D _ _ c bs rfl rfl (Rd.alloc h _) (by simpa using hl) (by simp) ?_; intro v' w' h1 h2)
    go_ret
    exact ⟨_, rfl, h1, below_app ((Below.refl _ _).alloc (Nat.le_refl _) _) hem h2.grown (Nat.le_refl _) (by simp)⟩

/-! ### runs, at operations -/
section
variable {ρ : Operand → Value} {o : Oper} {w w' : World}
theorem exec_entry {m x : Operand} {b : Nat} {k v : Value} (ho : o.op = .mapEntry 48 m x) (hm : ρ m = .map (some b)) (hx : ρ x = k) (hrun : (Instr.mapEntry 48 (.map (some b)) k).run Try.prog w = .ok v w') : (execOp ρ o).run Try.prog w = .ok (.value v) w' := by
  unfold execOp
  simp only [ho, hm, hx, Sem.run_bind, Sem.run_pure, hrun, Result.andThen_ok]
theorem exec_entryStore {m x y : Operand} {b : Nat} {k v : Value} (ho : o.op = .entryStore 48 m x y) (hm : ρ m = .map (some b)) (hx : ρ x = k) (hy : ρ y = v) (hrun : (Instr.entryStore 48 (.map (some b)) k v).run Try.prog w = .ok () w') : (execOp ρ o).run Try.prog w = .ok .skip w' := by
  unfold execOp
  simp only [ho, hm, hx, hy, Sem.run_bind, Sem.run_pure, hrun, Result.andThen_ok]
theorem exec_update {m x y : Operand} {b : Nat} {k v : Value} (ho : o.op = .mapUpdate 48 m x y) (hm : ρ m = .map (some b)) (hx : ρ x = k) (hy : ρ y = v) (hrun : (Instr.mapUpdate 48 (.map (some b)) k v).run Try.prog w = .ok () w') : (execOp ρ o).run Try.prog w = .ok .skip w' := by
  unfold execOp
  simp only [ho, hm, hx, hy, Sem.run_bind, Sem.run_pure, hrun, Result.andThen_ok]
theorem exec_appS {s x : Operand} {v u v' : Value} (ho : o.op = .call { callee := .builtin .append, args := #[s, x], argTypes := #[55, 55] }) (hs : ρ s = v) (hx : ρ x = u)
    (hrun : (Builtin.append_ #[55, 55] o.type #[v, u]).run Try.prog w = .ok v' w') : (execOp ρ o).run Try.prog w = .ok (.value v') w' := by
  unfold execOp
  simp only [ho, resolve, invoke, builtin, Sem.run_bind, Sem.run_pure, Result.andThen_ok, List.map_toArray, List.map_cons, List.map_nil, hs, hx, hrun]
theorem exec_del {s x : Operand} {b : Nat} {k : Value} (ho : o.op = .call { callee := .builtin .delete, args := #[s, x], argTypes := #[48, 37] }) (hs : ρ s = .map (some b)) (hx : ρ x = k)
    (hrun : (Builtin.delete_ #[48, 37] o.type #[.map (some b), k]).run Try.prog w = .ok (.tuple #[]) w') : (execOp ρ o).run Try.prog w = .ok (.value (.tuple #[])) w' := by
  unfold execOp
  simp only [ho, resolve, invoke, builtin, Sem.run_bind, Sem.run_pure, Result.andThen_ok, List.map_toArray, List.map_cons, List.map_nil, hs, hx, hrun]
end

/-- Blocks g and q stay. -/
def RK (g q : Nat) (a b : World) : Prop := Mod (fun k => k ≠ g ∧ k ≠ q) a b
theorem RK_refl (g q : Nat) (w : World) : RK g q w w := Mod.refl _ w
theorem RK_trans (g q : Nat) (a b c : World) (h : RK g q a b) (k : RK g q b c) : RK g q a c := Mod.trans h k
theorem RK.blkG {g q : Nat} {a b : World} {t : TypeId} {cs : Array Value} (h : RK g q a b) (hB : Blk a g t cs) : Blk b g t cs := hB.mod h fun hx => hx.1 rfl
theorem RK.blkQ {g q : Nat} {a b : World} {t : TypeId} {cs : Array Value} (h : RK g q a b) (hB : Blk a q t cs) : Blk b q t cs := hB.mod h fun hx => hx.2 rfl
theorem RK.of_below {g q : Nat} {a b : World} (h : Below a.heap.size a b) : RK g q a b := Mod.of_below h _
theorem RK.of_mod {g q : Nat} {X : Nat → Prop} {a b : World} (h : Mod X a b) (hg : ¬ X g) (hq : ¬ X q) : RK g q a b := Mod.mono h fun k _ hk => ⟨by rintro rfl; exact hg hk, by rintro rfl; exact hq hk⟩

theorem Blk.ne_map {w : World} {g m cl : Nat} {t : TypeId} {cs : Array Value} {L : List NE} (h : Blk w g t cs) (hM : MapN w m L cl) : g ≠ m := fun e => by
  subst e
  unfold Blk at h
  rw [hM.obj] at h
  cases h
theorem Blk.ne_bag {w : World} {g base : Nat} {cs : Array Value} {v : Value} {vs : List Value} {t : TypeId} (h : Blk w g t cs) (hv : BagO w base v vs) (ht : t ≠ 27) : v.ownBlock ≠ some g := fun e => by
  obtain ⟨_, cs', hB⟩ := hv.blk e
  unfold Blk at h hB
  rw [h] at hB
  injection hB with hB
  injection hB with _ hB
  exact ht hB
theorem RK.of_ext {g q : Nat} {a b : World} {v v' : Value} (x : Ext a b v v') (hg : v.ownBlock ≠ some g) (hq : v.ownBlock ≠ some q) : RK g q a b := Mod.of_grown x.grown fun k hk => .inl ⟨fun e => hg (by rw [hk, e]), fun e => hq (by rw [hk, e])⟩

def putP (S : List Msg) (a b : Int) (x : List UInt8) : List Msg × Bool := if EndP a ∧ EndP b ∧ S.length < 1000 then (S ++ [((a, b), x)], true) else (S, false)

set_option maxHeartbeats 4000000 in
theorem Put_any (base g : Nat) (S : List Msg) (fr tt : Int) (D : Nat → Prop) (A : Option Addr) (c : Nat) (b : List UInt8) (w : World) (h : NetV w base g S) (hb : base ≤ w.heap.size) (hr : RdB w D A b) (hl : b.length ≤ 1000000) :
    Calls Try.prog 14 #[.pointer (some ⟨g, 0, none⟩), .int .i64 fr, .int .i64 tt, .slice A b.length c] w fun e w' => e = .returned (.bool (putP S fr tt b).2) ∧ NetV w' base g (putP S fr tt b).1 ∧ NMod base w w' := by
  obtain ⟨m, cl, L, h⟩ := h
  have c1 := h.blk.cell 1
  simp at c1
  have hlen := h.msg.few
  have e1 := end_any fr w
  have e2 := end_any tt w
  by_cases h1 : EndP fr
  · rw [decide_eq_true h1] at e1
    by_cases h2 : EndP tt
    · rw [decide_eq_true h2] at e2
      by_cases h3 : S.length < 1000
      · have e : putP S fr tt b = (S ++ [((fr, tt), b)], true) := if_pos ⟨h1, h2, h3⟩
        rw [e]
        have hlt : ¬ (1000 : Int) ≤ (S.length : Int) := by omega
        have hcl := fun w' hw => cloneD_any D A c b w' hw (by unfold big; omega)
        go_enter Try.func14, Try.ntmps14
        go_wp2_with fail
        refine e1.mono ?_
        rintro e w1 ⟨rfl, rfl⟩
        go_wp2_with fail
        refine e2.mono ?_
        rintro e w1 ⟨rfl, rfl⟩
        go_upto_region 4 with fail
        obtain ⟨q, hq⟩ : ∃ q, q = w.heap.size := ⟨_, rfl⟩
        have b1 := below_new w (.cells #[.int .i64 fr, .int .i64 tt] 37)
        have hQ := Blk.new w 37 #[.int .i64 fr, .int .i64 tt]
        rw [← hq] at hQ ⊢
        have hmw := h.msg.map.lt
        have hqg : g < q := by have := h.blk.lt; omega
        have hqm : m < q := by have := h.msg.map.lt; omega
        have hgm : g ≠ m := h.blk.ne_map h.msg.map
        clear hq
        have h := h.below b1
        have hr := hr.below b1
        clear c1 e1 e2
        generalize w.alloc (.cells #[.int .i64 fr, .int .i64 tt] 37) = w1 at *
        refine r_start (R := RK g q) (by rfl) (n := 13) (L := #[false, false, false, false, false, false, false, false, false, false, false, false, false]) rfl rfl ?_
        have bd : Below w1.heap.size w1 w1.drew := (Below.refl _ _).drew
        have h := h.below bd
        have hr := hr.below bd
        have hQ := hQ.below bd
        have b1 := b1.thenB' bd
        clear bd
        generalize w1.drew = w1 at *
        refine r_flt (RK_refl g q) 0 32 #[true, false, false, false, false, false, false, false, false, false, false, false, false] (by simp only [List.getElem?_toArray, List.getElem?_cons_zero]; rfl) (by rfl) (by kernel_rfl) (by kernel_rfl) (by kernel_rfl) (fun _ _ _ _ h => h) rfl (by rfl) ?_
        apply Exists.intro
        apply And.intro
        · intro W hW
          first | (go_simp; with_reducible rfl) | go_simp
        (try simp only [Act.put, List.setIfInBounds_toArray]); (try simp only [List.set_cons_succ]); (try simp only [List.set_cons_zero])
        refine r_flt (RK_refl g q) 1 33 #[true, true, false, false, false, false, false, false, false, false, false, false, false] (by simp only [List.getElem?_toArray, List.getElem?_cons_succ, List.getElem?_cons_zero]; rfl) (by rfl) (by kernel_rfl) (by kernel_rfl) (by kernel_rfl) (fun _ _ _ _ h => h) rfl (by rfl) ?_
        apply Exists.intro
        apply And.intro
        · intro W hW
          first | (go_simp; with_reducible rfl) | go_simp
        (try simp only [Act.put, List.setIfInBounds_toArray]); (try simp only [List.set_cons_succ]); (try simp only [List.set_cons_zero])
        refine r_flt (RK_refl g q) 2 34 #[true, true, true, false, false, false, false, false, false, false, false, false, false] (by simp only [List.getElem?_toArray, List.getElem?_cons_succ, List.getElem?_cons_zero]; rfl) (by rfl) (by kernel_rfl) (by kernel_rfl) (by kernel_rfl) (fun _ _ _ _ h => h) rfl (by rfl) ?_
        apply Exists.intro
        apply And.intro
        · intro W hW
          first | (go_simp; with_reducible rfl) | go_simp
        (try simp only [Act.put, List.setIfInBounds_toArray]); (try simp only [List.set_cons_succ]); (try simp only [List.set_cons_zero])
        refine r_flt (RK_refl g q) 3 35 #[true, true, true, true, false, false, false, false, false, false, false, false, false] (by simp only [List.getElem?_toArray, List.getElem?_cons_succ, List.getElem?_cons_zero]; rfl) (by rfl) (by kernel_rfl) (by kernel_rfl) (by kernel_rfl) (fun _ _ _ _ h => h) rfl (by rfl) ?_
        apply Exists.intro
        apply And.intro
        · intro W hW
          have c := (RK.blkG hW h.blk).cell 0
          simp at c
          go_simp; rfl
        (try simp only [Act.put, List.setIfInBounds_toArray]); (try simp only [List.set_cons_succ]); (try simp only [List.set_cons_zero])
        refine r_flt (RK_refl g q) 4 36 #[true, true, true, true, true, false, false, false, false, false, false, false, false] (by simp only [List.getElem?_toArray, List.getElem?_cons_succ, List.getElem?_cons_zero]; rfl) (by rfl) (by kernel_rfl) (by kernel_rfl) (by kernel_rfl) (fun _ _ _ _ h => h) rfl (by rfl) ?_
        apply Exists.intro
        apply And.intro
        · intro W hW
          have d := RK.blkQ hW hQ
          have d0 := d.cell 0
          have d1 := d.cell 1
          simp at d0 d1
          go_simp; rfl
        (try simp only [Act.put, List.setIfInBounds_toArray]); (try simp only [List.set_cons_succ]); (try simp only [List.set_cons_zero])
        refine r_flt (RK_refl g q) 5 38 #[true, true, true, true, true, true, false, false, false, false, false, false, false] (by simp only [List.getElem?_toArray, List.getElem?_cons_succ, List.getElem?_cons_zero]; rfl) (by rfl) (by kernel_rfl) (by kernel_rfl) (by kernel_rfl) (fun _ _ _ _ h => h) rfl (by rfl) ?_
        apply Exists.intro
        apply And.intro
        · intro W hW
          first | (go_simp; with_reducible rfl) | go_simp
        (try simp only [Act.put, List.setIfInBounds_toArray]); (try simp only [List.set_cons_succ]); (try simp only [List.set_cons_zero])
        refine r_one (RK_trans g q) 6 (by kernel_rfl) ?_
        refine alt_call 39 #[true, true, true, true, true, true, true, false, false, false, false, false, false] (by simp only [List.getElem?_toArray, List.getElem?_cons_succ, List.getElem?_cons_zero]; rfl) (by rfl) rfl (by rfl) (by go_simp; first | exact ⟨rfl, rfl⟩ | rfl) ?_
        refine (hcl _ hr).mono ?_
        rintro e' w2 ⟨v0, rfl, o2, b2⟩
        obtain ⟨A2, c2, rfl, hc2, hm2⟩ := own_form o2
        refine ⟨_, rfl, RK.of_below b2, ?_⟩
        have h := h.below b2
        have hQ := hQ.below b2
        have o2 := own_low o2 (Nat.le_trans hb b1.size)
        have b12 := b1.thenB' b2
        have s2 := b12.size
        clear hr hcl
        (try simp only [Act.put, List.setIfInBounds_toArray]); (try simp only [List.set_cons_succ]); (try simp only [List.set_cons_zero])
        refine r_one (RK_trans g q) 7 (by kernel_rfl) ?_
        have b3 := below_new w2 (.cells #[.slice A2 b.length c2] 27)
        have hnew := rd_newS w2 ⟨A2, b, c2⟩
        unfold cS at hnew
        simp only at hnew
        refine alt_val 40 #[true, true, true, true, true, true, true, true, false, false, false, false, false] (by simp only [List.getElem?_toArray, List.getElem?_cons_succ, List.getElem?_cons_zero]; rfl) (by rfl) rfl (by rfl) (by go_simp; first | exact ⟨rfl, rfl⟩ | rfl) ?_ ?_
        · exact RK.of_below b3
        have h := h.below b3
        have hQ := hQ.below b3
        have o2 := own_below' o2 b3
        have b13 := b12.thenB' b3
        clear b12
        generalize w2.alloc (.cells #[.slice A2 b.length c2] 27) = w3 at *
        (try simp only [Act.put, List.setIfInBounds_toArray]); (try simp only [List.set_cons_succ]); (try simp only [List.set_cons_zero])
        refine r_one (RK_trans g q) 8 (by kernel_rfl) ?_
        obtain ⟨L1, cl1, w4, v, x, hrunE, hlk, hM1, hx, hxk, hoth, m1, _⟩ := h.msg.map.entry (fr, tt)
        have hvrows : ∃ rows, BagV w3 base v (bagN S (fr, tt)) rows := h.msg.at_look hlk
        obtain ⟨rows, hv⟩ := hvrows
        have hB4 := h.blk.mod m1 hgm
        have hQ4 := hQ.mod m1 (show q ≠ m by omega)
        have hv4 := hv.ofMap h.msg.map m1
        refine alt_val 41 #[true, true, true, true, true, true, true, true, true, false, false, false, false] (by simp only [List.getElem?_toArray, List.getElem?_cons_succ, List.getElem?_cons_zero]; rfl) (by rfl) rfl (by rfl) (exec_entry rfl rfl rfl hrunE) ?_ ?_
        · exact RK.of_mod m1 hgm (show q ≠ m by omega)
        (try simp only [Act.put, List.setIfInBounds_toArray]); (try simp only [List.set_cons_succ]); (try simp only [List.set_cons_zero])
        refine r_flt (RK_refl g q) 9 37 #[true, true, true, true, true, true, true, true, true, true, false, false, false] (by simp only [List.getElem?_toArray, List.getElem?_cons_succ, List.getElem?_cons_zero]; rfl) (by rfl) (by kernel_rfl) (by kernel_rfl) (by kernel_rfl) (fun _ _ _ _ h => h) rfl (by rfl) ?_
        apply Exists.intro
        apply And.intro
        · intro W hW
          first | (go_simp; with_reducible rfl) | go_simp
        (try simp only [Act.put, List.setIfInBounds_toArray]); (try simp only [List.set_cons_succ]); (try simp only [List.set_cons_zero])
        refine r_flt (RK_refl g q) 11 43 #[true, true, true, true, true, true, true, true, true, true, false, true, false] (by simp only [List.getElem?_toArray, List.getElem?_cons_succ, List.getElem?_cons_zero]; rfl) (by rfl) (by kernel_rfl) (by kernel_rfl) (by kernel_rfl) (fun _ _ _ _ h => h) rfl (by rfl) ?_
        apply Exists.intro
        apply And.intro
        · intro W hW
          first | (go_simp; with_reducible rfl) | go_simp
        (try simp only [Act.put, List.setIfInBounds_toArray]); (try simp only [List.set_cons_succ]); (try simp only [List.set_cons_zero])
        refine r_one (RK_trans g q) 10 (by kernel_rfl) ?_
        have hnew4 : Rd w4 (fun k => k = w2.heap.size) 1 (some ⟨w2.heap.size, 0, none⟩) 1 [.slice A2 b.length c2] := hnew.mod m1 (fun k hk => by rw [hk]; omega)
        have hrl : (rows.map cS).length ≤ 1000000 := by
          have := bagN_len S (fr, tt)
          rw [List.length_map]
          have e := congrArg List.length hv.txt
          rw [List.length_map] at e
          omega
        have hb4 : base ≤ w4.heap.size := by have := m1.size; have := b13.size; omega
        obtain ⟨v', w5, hrunA, ho5, x5⟩ := hv4.own.append1 (cS ⟨A2, b, c2⟩) rfl _ 1 _ hnew4 hrl hb4 55
        have hng : v.ownBlock ≠ some g := hB4.ne_bag hv4.own (by decide)
        have hnq : v.ownBlock ≠ some q := hQ4.ne_bag hv4.own (by decide)
        have hM5 : MapN w5 m L1 cl1 := hM1.mod (Mod.of_grown (X := fun k => v.ownBlock = some k) x5.grown fun k hk => .inl hk) fun e => by
          obtain ⟨_, cs, hB⟩ := hv4.own.blk e
          exact hB.ne_map hM1 rfl
        refine alt_val 42 #[true, true, true, true, true, true, true, true, true, true, true, true, false] (by simp only [List.getElem?_toArray, List.getElem?_cons_succ, List.getElem?_cons_zero]; rfl) (by rfl) rfl (by rfl) (exec_appS rfl rfl rfl hrunA) ?_ ?_
        · exact RK.of_ext x5 hng hnq
        (try simp only [Act.put, List.setIfInBounds_toArray]); (try simp only [List.set_cons_succ]); (try simp only [List.set_cons_zero])
        refine r_one (RK_trans g q) 12 (by kernel_rfl) ?_
        obtain ⟨w6, hrunS, hM6, m6, _⟩ := hM5.store hx v'
        have hcore := put_core h.msg hlk hv hM1 hx hxk hoth m1 ho5 x5 o2 (by rw [hxk] at hM6; exact hM6) m6 h3 ⟨h1, h2⟩
        have hB6 := (hB4.grown x5.grown (Ne.symm hng)).mod m6 hgm
        refine alt_none #[true, true, true, true, true, true, true, true, true, true, true, true, true] (by simp only [List.getElem?_toArray, List.getElem?_cons_succ, List.getElem?_cons_zero]; rfl) (by rfl) rfl (by rfl) (exec_entryStore rfl rfl rfl rfl hrunS) ?_ ?_
        · exact RK.of_mod m6 hgm (show q ≠ m by omega)
        (try simp only [Act.put, List.setIfInBounds_toArray]); (try simp only [List.set_cons_succ]); (try simp only [List.set_cons_zero])
        refine r_done (by kernel_rfl) ?_
        obtain ⟨hN6, n6⟩ := hcore
        have d1 := hB6.cell 1
        have f1 := hB6.frozen 1
        simp at d1
        go_wp2_with fail
        go_ret
        have hB7 := hB6.set_ 1 (.int .i64 ((S.length : Int) + 1))
        have m7 := (Mod.refl (· = g) w6).setG 1 (.int .i64 ((S.length : Int) + 1))
        refine ⟨rfl, ⟨m, cl1, _, ?_, h.hg, hN6.mod m7 hgm.symm ?_⟩, ((NMod.of_below b13).trans n6).trans (NMod.of_one m7 h.hg ?_)⟩
        · simpa using hB7
        · intro k cs T hk hB
          subst hk
          unfold Blk at hB6
          rw [hB6] at hB
          injection hB with hB
          injection hB with _ hB
          subst hB
          decide
        · unfold Blk at hB6
          rw [hB6]
          exact .inl rfl
      · have e : putP S fr tt b = (S, false) := if_neg fun x => h3 x.2.2
        rw [e]
        have hlt : (1000 : Int) ≤ (S.length : Int) := by omega
        go_enter Try.func14, Try.ntmps14
        go_wp2_with fail
        refine e1.mono ?_
        rintro e w1 ⟨rfl, rfl⟩
        go_wp2_with fail
        refine e2.mono ?_
        rintro e w1 ⟨rfl, rfl⟩
        go_wp2_with fail
        go_ret
        exact ⟨rfl, ⟨m, cl, L, h⟩, NMod.refl _ _⟩
    · have e : putP S fr tt b = (S, false) := if_neg fun x => h2 x.2.1
      rw [e]
      rw [decide_eq_false h2] at e2
      go_enter Try.func14, Try.ntmps14
      go_wp2_with fail
      refine e1.mono ?_
      rintro e w1 ⟨rfl, rfl⟩
      go_wp2_with fail
      refine e2.mono ?_
      rintro e w1 ⟨rfl, rfl⟩
      go_wp2_with fail
      go_ret
      exact ⟨rfl, ⟨m, cl, L, h⟩, NMod.refl _ _⟩
  · have e : putP S fr tt b = (S, false) := if_neg fun x => h1 x.1
    rw [e]
    rw [decide_eq_false h1] at e1
    go_enter Try.func14, Try.ntmps14
    go_wp2_with fail
    refine e1.mono ?_
    rintro e w1 ⟨rfl, rfl⟩
    go_wp2_with fail
    go_ret
    exact ⟨rfl, ⟨m, cl, L, h⟩, NMod.refl _ _⟩
end Go.Proofs.Ytpfbiamgnmbhnaa
