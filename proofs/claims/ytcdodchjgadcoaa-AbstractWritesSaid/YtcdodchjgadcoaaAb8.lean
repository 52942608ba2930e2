/- slices.Delete of one copy, in a row of the call's own. -/
import Derived.Test.YtcdodchjgadcoaaAb7
import Derived.Laws.OwnMore
namespace Go.Proofs.Ytcdodchjgadcoaa
open Go.RowKit
set_option linter.unusedVariables false
set_option maxRecDepth 100000

theorem infoCp2 : (Try.prog.info? 47).map (·.size) = some 2 := by kernel_rfl
theorem erase_eq {α : Type} (L : List α) (k : Nat) : L.eraseIdx k = L.take k ++ L.drop (k + 1) := List.eraseIdx_eq_take_drop_succ L k
theorem cpF_parts (L : List CpV) (k : Nat) : flC cpC (L.take k) ++ flC cpC (L.drop k) = flC cpC L := by rw [← flC_app, List.take_append_drop]
theorem cpF_take (L : List CpV) (k : Nat) : flC cpC (L.take k) = (flC cpC L).take (k * 2) := by
  rcases Nat.lt_or_ge k L.length with h | h
  · have hl : (flC cpC (L.take k)).length = k * 2 := by rw [flC_len cpC_len, List.length_take, Nat.min_eq_left (Nat.le_of_lt h)]
    rw [← cpF_parts L k, ← hl, List.take_left]
  · rw [List.take_of_length_le h, List.take_of_length_le (by rw [flC_len cpC_len]; exact Nat.mul_le_mul_right _ h)]
theorem cpF_drop (L : List CpV) (k : Nat) (h : k ≤ L.length) : flC cpC (L.drop k) = (flC cpC L).drop (k * 2) := by
  have hl : (flC cpC (L.take k)).length = k * 2 := by rw [flC_len cpC_len, List.length_take, Nat.min_eq_left h]
  rw [← cpF_parts L k, ← hl, List.drop_left]
/-- The head part of a row of one's own is one. -/
theorem OwnCp.pre {w : World} {base n c : Nat} {A : Option Addr} {L : List CpV} (h : OwnCp w base (.slice A n c) L) {k : Nat} (hk : k ≤ L.length) (hA : A ≠ none) : OwnCp w base (.slice A k c) (L.take k) := by
  have hl : (L.take k).length = k := by rw [List.length_take, Nat.min_eq_left hk]
  refine ⟨by rw [flC_len cpC_len], ?_⟩
  rcases h.2 with ⟨hv, _⟩ | ⟨g, cap, cur, hv, hg, hh, hnc, hcm, hcs, htake⟩
  · injection hv with e; exact absurd e hA
  · injection hv with e1 e2 e3
    subst e1 e3
    refine .inr ⟨g, _, cur, by rw [hl], hg, hh, by rw [hl]; omega, hcm, hcs, ?_⟩
    rw [hl, cpF_take, ← htake, List.take_take, Nat.min_eq_left (Nat.mul_le_mul_right _ hk)]
theorem exec_appCp {ρ : Operand → Value} {o : Oper} {s x : Operand} {w w' : World} {v u v' : Value} (ho : o.op = .call { callee := .builtin .append, args := #[s, x], argTypes := #[23, 23] }) (hs : ρ s = v) (hx : ρ x = u)
    (hrun : (Builtin.append_ #[23, 23] o.type #[v, u]).run Try.prog w = .ok v' w') : (execOp ρ o).run Try.prog w = .ok (.value v') w' := by
  unfold execOp
  simp only [ho, resolve, invoke, builtin, Sem.run_bind, Sem.run_pure, Result.andThen_ok, List.map_toArray, List.map_cons, List.map_nil, hs, hx, hrun]
/-- clear of one snapshot in the row's block. -/
theorem run_clear1 (w : World) (ty : TypeId) (g o c : Nat) (cur : Array Value) (hg : Blk w g 47 cur) (ho : o + 2 ≤ cur.size) :
    ∃ w', (Builtin.clear_ #[23] ty #[.slice (some ⟨g, o, none⟩) 1 c]).run Try.prog w = .ok (.tuple #[]) w' ∧ Mod (· = g) w w' ∧ ∃ cur', Blk w' g 47 cur' ∧ cur'.size = cur.size ∧ cur'.toList.take o = cur.toList.take o := by
  have hz : ∀ w, (zeroValue 47).run Try.prog w = .ok (.agg #[.int .i64 0, .slice none 0 0]) w := fun _ => by kernel_rfl
  have hzc : (Builtin.zeroCells (Value.agg #[.int .i64 0, .slice none 0 0]).cells 1).toList = [.int .i64 0, .slice none 0 0] := by kernel_rfl
  have hst := run_storeCells_at Try.prog g o 47 [.int .i64 0, .slice none 0 0] 0 cur w hg (by simpa using ho) (by simp [Value.oneCell'])
  simp only [Nat.add_zero] at hst
  generalize hrow : (cur.toList.take o ++ [Value.int .i64 0, Value.slice none 0 0] ++ cur.toList.drop (o + [Value.int .i64 0, Value.slice none 0 0].length)).toArray = row at hst
  refine ⟨w.setRow g row, ?_, mod_setRow row, row, setRow_heap _ _ _ _ _ _ hg, ?_, ?_⟩
  · simp only [Builtin.clear_, List.getElem?_toArray, List.getElem?_cons_zero, run_underlying Try.underlying23, Sem.run_bind, Result.andThen_ok, hz, hzc, hst, Sem.run_pure]
  · rw [← hrow]
    simp only [List.size_toArray, List.length_append, List.length_take, List.length_drop, Array.length_toList, List.length_cons, List.length_nil]
    omega
  · rw [← hrow]
    simp only [List.append_assoc]
    rw [List.take_append_of_le_length (by rw [List.length_take, Array.length_toList]; omega), List.take_take, Nat.min_self]
theorem wpList_clearCp {w w' : World} {ops : Array Oper} {rest : List Oper} {o : Oper} {a : Act} {Q : Exit → Act → World → Prop} (hgd : o.guard = none) (x : Operand) (ho : o.op = .call { callee := .builtin .clear, args := #[x], argTypes := #[23] }) (u : Value) (hx : a.eval x = u)
    (hrun : (Builtin.clear_ #[23] o.type #[u]).run Try.prog w = .ok (.tuple #[]) w') (h : wpList Try.prog ops Q rest (a.put o.dst (.tuple #[])) w') : wpList Try.prog ops Q (o :: rest) a w := by
  refine wpList_plain hgd fun _ hK => ?_
  unfold Oper.wp execOp
  simp only [ho, resolve, invoke, builtin, Sem.run_bind, Sem.run_pure, Result.andThen_ok, List.map_toArray, List.map_cons, List.map_nil, hx, hrun]
  exact hK _ _ h
theorem infoCpI : ∃ i, Try.prog.info? 47 = some i ∧ i.size = 2 := by
  have h := infoCp2
  cases hq : Try.prog.info? 47 with
  | none => rw [hq] at h; cases h
  | some i => exact ⟨i, rfl, by rw [hq] at h; simpa using h⟩
/-- append(s[:k], s[k+1:]...): the run. -/
theorem run_shift (w : World) (ty : TypeId) (base g c k n : Nat) (L : List CpV) (h : OwnCp w base (.slice (some ⟨g, 0, none⟩) L.length c) L) (hn : L.length = n + 1) (hk : k ≤ n) :
    ∃ w', (Builtin.append_ #[23, 23] ty #[.slice (some ⟨g, 0, none⟩) k c, .slice (cutA (some ⟨g, 0, none⟩) (k + 1) c 2) (n - k) (c - (k + 1))]).run Try.prog w = .ok (.slice (some ⟨g, 0, none⟩) n c) w' ∧
      OwnCp w' base (.slice (some ⟨g, 0, none⟩) n c) (L.eraseIdx k) ∧ Mod (· = g) w w' := by
  obtain ⟨i, hi, hi2⟩ := infoCpI
  have hc : L.length ≤ c := by
    obtain ⟨A, c', e, h1, _⟩ := (OwnC.form h)
    injection e with _ _ e
    omega
  have hp := h.pre (k := k) (by omega) (by simp)
  have hl : (L.take k).length = k := by rw [List.length_take, Nat.min_eq_left (by omega)]
  have hr := Rd.cut (cap := c) (RdL.flatC cpC_len (OwnCp.rd h)) (k := k + 1) (by omega) hc
  have e0 : L.length - (k + 1) = n - k := by omega
  rw [e0] at hr
  obtain ⟨ad, had⟩ : ∃ ad, cutA (some ⟨g, 0, none⟩) (k + 1) c 2 = some ad := by
    unfold cutA
    split
    · exact ⟨_, rfl⟩
    · exact ⟨_, rfl⟩
  rw [had] at hr ⊢
  obtain ⟨w', h1, h2, h3⟩ := run_append_fits (P := Try.prog) w base 23 ty 47 i 2 Try.underlying23 hi hi2 g k c (flC cpC (L.take k)) (by unfold OwnCp OwnC at hp; rw [hl] at hp; exact hp) ad (n - k) (c - (k + 1)) ((flC cpC L).drop ((k + 1) * 2))
    hr.1 (fun j u hu => by
      rcases Nat.eq_zero_or_pos (n - k) with h0 | h0
      · have := (List.getElem?_eq_some_iff.1 hu).1
        rw [hr.1, h0] at this
        omega
      · obtain ⟨ad', e, _, hcell⟩ := hr.2 h0
        injection e with e
        subst e
        exact hcell j u hu) (fun u hu => flC_one cpC_one L u (List.mem_of_mem_drop hu)) (by omega)
  have e1 : k + (n - k) = n := by omega
  have e2 : flC cpC (L.take k) ++ (flC cpC L).drop ((k + 1) * 2) = flC cpC (L.eraseIdx k) := by rw [erase_eq, flC_app, cpF_drop L (k + 1) (by omega)]
  have e3 : (L.eraseIdx k).length = n := by rw [List.length_eraseIdx]; rw [if_pos (by omega)]; omega
  rw [e1, e2] at h2
  rw [e1] at h1
  refine ⟨w', h1, by unfold OwnCp OwnC; rw [e3]; exact h2, Mod.of_grown h3 fun k hk => .inl (by injection hk with hk; exact hk.symm)⟩

set_option maxHeartbeats 4000000 in
set_option maxRecDepth 100000 in
theorem delete_any (base : Nat) (A : Option Addr) (L : List CpV) (c k : Nat) (w : World) (h : OwnCp w base (.slice A L.length c) L) (hk : k < L.length) (hL : L.length ≤ 1000) :
    Calls Try.prog 36 #[.slice A L.length c, .int .i64 (k : Int), .int .i64 ((k : Int) + 1)] w fun e w' => ∃ n, n + 1 = L.length ∧ e = .returned (.slice A n c) ∧ OwnCp w' base (.slice A n c) (L.eraseIdx k) ∧ Mod (fun b => (Value.slice A L.length c).ownBlock = some b) w w' := by
  obtain ⟨A0, c', e, hc, hcm⟩ := (OwnC.form h)
  injection e with e1 _ e2
  subst e1 e2
  obtain ⟨ad, rfl, -⟩ := (OwnCp.rd h) (by omega)
  obtain ⟨g, rfl⟩ : ∃ g, ad = ⟨g, 0, none⟩ := by
    rcases h.2 with ⟨hv, _⟩ | ⟨g, cap, cur, hv, _⟩
    · cases hv
    · injection hv with e
      injection e with e
      exact ⟨g, e⟩
  obtain ⟨n, hn⟩ : ∃ n, L.length = n + 1 := ⟨L.length - 1, by omega⟩
  have HN := Lib.hid hn
  have hkn : k ≤ n := by omega
  have hn1 : n ≤ 1000 := by omega
  have hnc : n + 1 ≤ c := by omega
  have hcm' : c ≤ 9223372036854775807 := by unfold maxLen at hcm; exact hcm
  have i1 : ((k : Int) + 1) ≤ ((n + 1 : Nat) : Int) := by omega
  have i2 : (k : Int) ≤ (k : Int) + 1 := by omega
  have i4 : k ≤ c := by omega
  have i6 : (0 : Int) ≤ (k : Int) + 1 := by omega
  have i3 : ((k : Int) == (k : Int) + 1) = false := by simp; omega
  rw [hn]
  clear hk hL hn hcm hc
  go_enter Try.func36, Try.ntmps36
  go_wp2_with fail
  refine r_start (R := RG g) (by rfl) (n := 8) (L := #[false, false, false, false, false, false, false, false]) rfl rfl ?_
  have bd : Below w.heap.size w w.drew := (Below.refl _ _).drew
  have h := OwnC.below h bd
  generalize w.drew = wd at *
  refine r_flt (RG_refl g) 0 20 #[true, false, false, false, false, false, false, false] (by simp only [List.getElem?_toArray, List.getElem?_cons_zero]; rfl) (by rfl) (by kernel_rfl) (by kernel_rfl) (by kernel_rfl) (fun _ _ _ _ h => h) rfl (by rfl) ?_
  apply Exists.intro
  apply And.intro
  · intro W hW
    first | (go_simp; with_reducible rfl) | go_simp
  (try simp only [Act.put, List.setIfInBounds_toArray]); (try simp only [List.set_cons_succ]); (try simp only [List.set_cons_zero])
  refine r_flt (RG_refl g) 1 21 #[true, true, false, false, false, false, false, false] (by simp only [List.getElem?_toArray, List.getElem?_cons_succ, List.getElem?_cons_zero]; rfl) (by rfl) (by kernel_rfl) (by kernel_rfl) (by kernel_rfl) (fun _ _ _ _ h => h) rfl (by rfl) ?_
  apply Exists.intro
  apply And.intro
  · intro W hW
    first | (go_simp; with_reducible rfl) | go_simp
  (try simp only [Act.put, List.setIfInBounds_toArray]); (try simp only [List.set_cons_succ]); (try simp only [List.set_cons_zero])
  refine r_flt (RG_refl g) 2 22 #[true, true, true, false, false, false, false, false] (by simp only [List.getElem?_toArray, List.getElem?_cons_succ, List.getElem?_cons_zero]; rfl) (by rfl) (by kernel_rfl) (by kernel_rfl) (by kernel_rfl) (fun _ _ _ _ h => h) rfl (by rfl) ?_
  apply Exists.intro
  apply And.intro
  · intro W hW
    first | (go_simp; with_reducible rfl) | go_simp
  (try simp only [Act.put, List.setIfInBounds_toArray]); (try simp only [List.set_cons_succ]); (try simp only [List.set_cons_zero])
  refine r_flt (RG_refl g) 3 23 #[true, true, true, true, false, false, false, false] (by simp only [List.getElem?_toArray, List.getElem?_cons_succ, List.getElem?_cons_zero]; rfl) (by rfl) (by kernel_rfl) (by kernel_rfl) (by kernel_rfl) (fun _ _ _ _ h => h) rfl (by rfl) ?_
  apply Exists.intro
  apply And.intro
  · intro W hW
    first | (go_simp; with_reducible rfl) | go_simp
  (try simp only [Act.put, List.setIfInBounds_toArray]); (try simp only [List.set_cons_succ]); (try simp only [List.set_cons_zero])
  refine r_flt (RG_refl g) 4 24 #[true, true, true, true, true, false, false, false] (by simp only [List.getElem?_toArray, List.getElem?_cons_succ, List.getElem?_cons_zero]; rfl) (by rfl) (by kernel_rfl) (by kernel_rfl) (by kernel_rfl) (fun _ _ _ _ h => h) rfl (by rfl) ?_
  apply Exists.intro
  apply And.intro
  · intro W hW
    first | (go_simp; with_reducible rfl) | go_simp
  (try simp only [Act.put, List.setIfInBounds_toArray]); (try simp only [List.set_cons_succ]); (try simp only [List.set_cons_zero])
  refine r_flt (RG_refl g) 5 25 #[true, true, true, true, true, true, false, false] (by simp only [List.getElem?_toArray, List.getElem?_cons_succ, List.getElem?_cons_zero]; rfl) (by rfl) (by kernel_rfl) (by kernel_rfl) (by kernel_rfl) (fun _ _ _ _ h => h) rfl (by rfl) ?_
  apply Exists.intro
  apply And.intro
  · intro W hW
    first | (go_simp; with_reducible rfl) | go_simp
  (try simp only [Act.put, List.setIfInBounds_toArray]); (try simp only [List.set_cons_succ]); (try simp only [List.set_cons_zero])
  refine r_one (RG_trans g) 6 (by kernel_rfl) ?_
  obtain ⟨w2, hrun, o2, m2⟩ := run_shift wd 23 base g c k n L h HN.out hkn
  refine alt_val 26 #[true, true, true, true, true, true, true, false] (by simp only [List.getElem?_toArray, List.getElem?_cons_succ, List.getElem?_cons_zero]; rfl) (by rfl) rfl (by rfl) (exec_appCp rfl rfl rfl hrun) ?_ ?_
  · exact m2
  (try simp only [Act.put, List.setIfInBounds_toArray]); (try simp only [List.set_cons_succ]); (try simp only [List.set_cons_zero])
  refine r_flt (RG_refl g) 7 0 #[true, true, true, true, true, true, true, true] (by simp only [List.getElem?_toArray, List.getElem?_cons_succ, List.getElem?_cons_zero]; rfl) (by rfl) (by kernel_rfl) (by kernel_rfl) (by kernel_rfl) (fun _ _ _ _ h => h) rfl (by rfl) ?_
  apply Exists.intro
  apply And.intro
  · intro W hW
    first | (go_simp; with_reducible rfl) | go_simp
  (try simp only [Act.put, List.setIfInBounds_toArray]); (try simp only [List.set_cons_succ]); (try simp only [List.set_cons_zero])
  refine r_done (by kernel_rfl) ?_
  have hB2 : ∃ cur, Blk w2 g 47 cur ∧ cur.size = c * 2 ∧ cur.toList.take (n * 2) = flC cpC (L.eraseIdx k) := by
    have e3 : (L.eraseIdx k).length = n := by rw [List.length_eraseIdx, if_pos (by have := HN.out; omega)]; have := HN.out; omega
    rcases o2.2 with ⟨hv, _⟩ | ⟨g', cap, cur, hv, _, hg, _, _, hcs, ht⟩
    · cases hv
    · injection hv with ea _ ec
      injection ea with ea
      injection ea with ea _ _
      subst ea ec
      rw [e3] at ht
      exact ⟨cur, hg, hcs, ht⟩
  obtain ⟨cur, hB2, hcs, hct⟩ := hB2
  obtain ⟨w3, hcl, m3, cur3, hB3, hs3, ht3⟩ := run_clear1 w2 0 g (n * 2) (c - n) cur hB2 (by omega)
  have hcut : cutA (some ⟨g, 0, none⟩) n c 2 = some ⟨g, n * 2, none⟩ := by
    unfold cutA
    rw [if_neg (by omega)]
    simp only [Option.map_some, add_head]
  rw [← hcut] at hcl
  have hsub : n + 1 - n = 1 := by omega
  have i5 : (n : Int) ≤ (n : Int) + 1 := by omega
  clear hcut
  have HS3 := Lib.hid hs3
  clear hs3 hct hcs
  go_wp2_with fail
  go_ret
  refine ⟨n, rfl, rfl, ?_, (((Mod.of_below bd (· = g)).trans m2).trans m3).mono fun i _ hi => by rw [hi]; rfl⟩
  refine ⟨by rw [flC_len cpC_len], ?_⟩
  rcases o2.2 with ⟨hv, _⟩ | ⟨g', cap, cur', hv, hg, hh, hnc', hcm2, hcs', ht⟩
  · cases hv
  · injection hv with ea _ ec
    injection ea with ea
    injection ea with ea _ _
    subst ea ec
    have e3 : (L.eraseIdx k).length = n := by rw [List.length_eraseIdx, if_pos (by have := HN.out; omega)]; have := HN.out; omega
    have ecur : cur = cur' := by
      have := hB2.symm.trans hh
      injection this with this
      injection this
    subst ecur
    refine .inr ⟨g, c, cur3, by rw [e3], hg, hB3, hnc', hcm2, by rw [HS3.out]; exact hcs', ?_⟩
    rw [e3] at ht ⊢
    rw [ht3]
    exact ht
end Go.Proofs.Ytcdodchjgadcoaa
