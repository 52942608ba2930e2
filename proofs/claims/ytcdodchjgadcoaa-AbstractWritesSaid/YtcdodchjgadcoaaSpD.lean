/- The closures of span, and slices.SortFunc at rows of ends. -/
import Derived.Test.YtcdodchjgadcoaaSpC
import Derived.Test.YtcdodchjgadcoaaSortP
namespace Go.Proofs.Ytcdodchjgadcoaa
open Go.RowKit
set_option linter.unusedVariables false

def wC (x _ : Int) : Bool := decide (0 < x)
def wJ (x y : Int) : Bool := decide (0 < x) || decide (0 < y)
def wM (x y : Int) : Bool := decide (0 < x) && decide (0 < y)
def wL (x y : Int) : Bool := decide (0 < x) && (y == 0)
theorem clC_any (x y : Int) (w : World) : Calls Try.prog 46 #[.int .i64 x, .int .i64 y] w fun e w' => e = .returned (.bool (wC x y)) ∧ w = w' := by
  go_enter Try.func46, Try.ntmps46
  go_wp2_with fail
  go_ret
  exact ⟨rfl, rfl⟩
/-- An end whose place lies where bytes are. -/
abbrev EnB := { e : En // 0 ≤ e.1 ∧ e.1 ≤ 1099511627776 }
instance enInh : Inhabited EnB := ⟨⟨(0, 0, 0), by decide, by decide⟩⟩
def enB (x : EnB) : List Value := enC x.1
theorem enB_len (x : EnB) : (enB x).length = 3 := rfl
theorem cmp_any (x y : EnB) (W : World) : Calls Try.prog 53 #[.agg (enB x).toArray, .agg (enB y).toArray] W fun e w' => e = .returned (.int .i64 (x.1.1 - y.1.1)) ∧ ∃ q os', w' = Go.Sort.grow (W.drewN q) os' := by
  obtain ⟨⟨a, b, c⟩, ha, ha'⟩ := x
  obtain ⟨⟨a2, b2, c2⟩, hb, hb'⟩ := y
  simp only at ha ha' hb hb'
  show Calls Try.prog 53 #[.agg #[.int .i64 a, .int .i64 b, .int .i64 c], .agg #[.int .i64 a2, .int .i64 b2, .int .i64 c2]] W fun e w' => e = .returned (.int .i64 (a - a2)) ∧ ∃ q os', w' = Go.Sort.grow (W.drewN q) os'
  go_enter Try.func53, Try.ntmps53
  go_wp2_with fail
  go_ret
  exact ⟨rfl, 0, _, by rw [Go.Sort.alloc_eq_grow, Go.Sort.alloc_eq_grow, Go.Sort.grow_grow]; rfl⟩
theorem swo_en : Go.Sort.SWO (ltOf fun x y : EnB => x.1.1 - y.1.1) where
  irrefl x := by unfold ltOf; simp
  trans x y z h1 h2 := by unfold ltOf at *; simp at *; omega
  ntrans x y z h1 h2 := by unfold ltOf at *; simp at *; omega
theorem to_enB (E : List En) (hE : ∀ e ∈ E, 0 ≤ e.1 ∧ e.1 ≤ 1099511627776) : ∃ B : List EnB, E = B.map fun x => x.1 := by
  induction E with
  | nil => exact ⟨[], rfl⟩
  | cons e E ih =>
    obtain ⟨B, hB⟩ := ih fun x hx => hE x (List.mem_cons_of_mem _ hx)
    exact ⟨⟨e, hE e (List.mem_cons_self ..)⟩ :: B, by rw [List.map_cons, ← hB]⟩
theorem OwnEn.iff {w : World} {base : Nat} {v : Value} (B : List EnB) : OwnEn w base v (B.map fun x => x.1) ↔ OwnC 83 3 enB w base v B := by
  unfold OwnEn OwnC flC
  rw [List.length_map, List.flatMap_map]
  rfl
theorem isAgg_en (w : World) : (isAgg 83).run Try.prog w = .ok true w := by kernel_rfl
theorem size_en (w : World) : (Go.sizeOf 83).run Try.prog w = .ok 3 w := by kernel_rfl
set_option maxRecDepth 100000 in
theorem ins_nil (f : Value) (w : World) : Calls Try.prog 56 #[.slice none 0 0, .int .i64 0, .int .i64 0, f] w fun e w' => e = .returned (.tuple #[]) ∧ w = w' := by
  go_enter Try.func56, Try.ntmps56
  go_wp2_with fail
  refine wp_loop_rounds 1 ?_
  rw [rounds_succ]
  go_wp2_with fail
  go_end0
  exact ⟨rfl, rfl⟩
set_option maxRecDepth 100000 in
theorem pdq_nil (l : Int) (f : Value) (w : World) : Calls Try.prog 54 #[.slice none 0 0, .int .i64 0, .int .i64 0, .int .i64 l, f] w fun e w' => e = .returned (.tuple #[]) ∧ w = w' := by
  have hi := ins_nil f w
  go_enter Try.func54, Try.ntmps54
  go_wp2_with fail
  refine wp_loop_rounds 1 ?_
  rw [rounds_succ]
  go_wp2_with fail
  refine hi.mono ?_
  rintro e w1 ⟨rfl, rfl⟩
  go_wp2_with fail
  exact bodyPost_ret (v := .tuple #[]) (by simp [results, Try.results54, go_sem]) rfl ⟨rfl, rfl⟩
set_option maxRecDepth 100000 in
theorem sort_nil (w : World) : Calls Try.prog 52 #[.slice none 0 0, .func (.func 53) #[] #[]] w fun e w' => e = .returned (.tuple #[]) ∧ w = w' := by
  have hb := Any.bits_Len (SlLaysF0.n15.bits (P := Try.prog) (ρ := Try.sortEn_ren) { Try.sortEn with }) 0 w (by omega) (by omega)
  change Calls Try.prog 55 _ _ _ at hb
  have hp := fun l => pdq_nil l (.func (.func 53) #[] #[]) w
  go_enter Try.func52, Try.ntmps52
  go_wp2_with fail
  refine hb.mono ?_
  rintro e w1 ⟨rfl, rfl⟩
  go_wp2_with fail
  refine (hp _).mono ?_
  rintro e w1 ⟨rfl, rfl⟩
  go_wp2_with fail
  go_end0
  exact ⟨rfl, rfl⟩
theorem sort_any (E : List En) (hE : ∀ e ∈ E, 0 ≤ e.1 ∧ e.1 ≤ 1099511627776) (hl : E.length ≤ 1000000) (v : Value) (w : World) (base : Nat) (h : OwnEn w base v E) :
    Calls Try.prog 52 #[v, .func (.func 53) #[] #[]] w fun e w' => e = .returned (.tuple #[]) ∧ ∃ E' : List En, E'.Perm E ∧ E'.Pairwise (fun x y => x.1 ≤ y.1) ∧ OwnEn w' base v E' ∧ Below base w w' := by
  obtain ⟨B, rfl⟩ := to_enB E hE
  rw [List.length_map] at hl
  obtain ⟨A, c, rfl, h1, h2⟩ := OwnC.form h
  rcases A with _ | ad
  · have h0 : (B.map fun x => x.1).length = 0 ∧ c = 0 := by
      rcases h.2 with ⟨hv, h0⟩ | ⟨g', cap, cur, hv, _⟩
      · injection hv with _ _ hc
        exact ⟨h0, hc⟩
      · injection hv with hA; cases hA
    have hn := List.eq_nil_of_length_eq_zero h0.1
    rw [h0.1, h0.2, hn]
    refine (sort_nil w).mono ?_
    rintro e w' ⟨rfl, rfl⟩
    exact ⟨rfl, [], List.Perm.refl _, List.Pairwise.nil, OwnC.nil, Below.refl _ _⟩
  · have hB := (OwnEn.iff B).1 h
    rw [List.length_map] at *
    obtain ⟨g, o, x⟩ := ad
    have hx : x = none := by
      rcases hB.2 with ⟨hv, _⟩ | ⟨g', cap, cur, hv, _⟩
      · injection hv with hA; cases hA
      · injection hv with hA; injection hA with hA; injection hA
    subst hx
    obtain ⟨rfl, hg, hgs, hH⟩ := OwnC.holds (x := none) enB_len hB
    have eg : ∀ args w, (callFunc 53 args).run Try.prog w = .ok (.enter 53 args) w := enters_of Try.func53 (by kernel_rfl) rfl
    have hcon := AnyQ.slices_SortFunc Try.sortEn 3 isAgg_en size_en enB enB_len (fun x v hv => enC_one x.1 v hv) (fun x y : EnB => x.1.1 - y.1.1) swo_en 53 #[] g 0 c B.toArray w eg (fun _ _ _ _ x y => cmp_any x y _) hH hgs (by simp; omega)
    rw [show B.toArray.size = B.length from by simp] at hcon
    change Calls Try.prog 52 _ _ _ at hcon
    refine hcon.mono ?_
    clear hcon
    rintro e w' ⟨rfl, d', n, os, ⟨p1, _, p3⟩, p4, rfl⟩
    have hd : d'.size = B.length := by simpa using p1
    obtain ⟨q1, q2⟩ := OwnC.sorted enB_len hB d' hd n os
    refine ⟨rfl, d'.toList.map (fun x => x.1), ?_, ?_, ?_, q2⟩
    · refine List.Perm.map _ ?_
      have e1 : d'.extract 0 B.length = d' := by rw [← hd]; simp
      have e2 : B.toArray.extract 0 B.length = B.toArray := by simp
      rw [e1, e2] at p3
      simpa using p3
    · rw [List.pairwise_map, List.pairwise_iff_getElem]
      intro i j hi hj hij
      have h1 := p4 i j (Nat.zero_le _) hij (by rw [← hd]; simpa using hj)
      rw [getElem!_pos d' i (by simpa using hi), getElem!_pos d' j (by simpa using hj)] at h1
      unfold ltOf at h1
      simp only [Array.getElem_toList]
      simp at h1
      omega
    · have h3 := (OwnEn.iff d'.toList).2 q1
      exact h3
end Go.Proofs.Ytcdodchjgadcoaa
