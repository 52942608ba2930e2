/- An image's bytes, as it is or as of a snapshot; Read; few. -/
import Derived.Test.YtcdodchjgadcoaaAbO
namespace Go.Proofs.Ytcdodchjgadcoaa
open Go.RowKit
set_option linter.unusedVariables false
set_option maxRecDepth 100000

def asO (p : PI) (snap : Int) : Option (List UInt8) := if snap = 0 then some p.d else if findO (idsP p.S) snap < 0 then none else some (p.S.getD (findO (idsP p.S) snap).toNat (0, [])).2
def asE (p : PI) (snap : Int) : Int := if mayI p = false then 1 else if (asO p snap).isSome then 0 else 182
def asD (p : PI) (snap : Int) : List UInt8 := if mayI p = false then [] else (asO p snap).getD []
def bytesD (p : PI) (snap : Int) : List UInt8 := (asO p snap).getD []
theorem asO_zero (p : PI) : asO p 0 = some p.d := by unfold asO; rw [if_pos rfl]
theorem asO_none {p : PI} {snap : Int} (h0 : snap ≠ 0) (h : findO (idsP p.S) snap < 0) : asO p snap = none := by unfold asO; rw [if_neg h0, if_pos h]
theorem asO_some {p : PI} {snap : Int} {k : Nat} (h0 : snap ≠ 0) (h : findO (idsP p.S) snap = (k : Int)) : asO p snap = some (p.S.getD k (0, [])).2 := by unfold asO; rw [if_neg h0, h, if_neg (by omega), Int.toNat_natCast]

/-- What tells the bytes: a slice that reads, and a word beside it. -/
def Told (w : World) (D : Nat → Prop) (xs : List UInt8) (u : Value) (e : Ending) (w' : World) : Prop := ∃ A c, e = .returned (.tuple #[.slice A xs.length c, u]) ∧ RdB w' D A xs ∧ xs.length ≤ c ∧ c ≤ 9223372036854775807 ∧ Below w.heap.size w w'
theorem told_nil {w w' : World} {D : Nat → Prop} {u : Value} (b : Below w.heap.size w w') : Told w D [] u (.returned (.tuple #[.slice none 0 0, u])) w' := ⟨none, 0, rfl, RdB.nil, Nat.le_refl _, by decide, b⟩

set_option maxHeartbeats 8000000 in
theorem as_any (D : Nat → Prop) (i : ImV) (snap : Int) (w : World) (hr : ImR w D i) :
    Calls Try.prog 27 #[.agg (imA i), .int .i64 snap] w (Told w D (asD i.p snap) (.int .i64 (asE i.p snap))) := by
  have bb := below_new w (.cells (imA i) 25)
  have hB := Blk.new w 25 (imA i)
  have hr0 := hr.below bb
  have hck := Check18_any D i _ hr0
  have hfd := fun W (h : ImR W D i) => find_any D i snap W h
  have hfb := findO_bd (idsO i.S) snap
  rw [ids_len] at hfb
  cases hm : mayI i.p
  focus
    have E : Hid (asE i.p snap = 1 ∧ asD i.p snap = []) := by unfold Hid asE asD; rw [hm]; exact ⟨rfl, rfl⟩
    rw [hm, show eno false 1 = 1 from rfl] at hck
    clear hm hr0 hfd
    unfold imA at *
    generalize hw0 : w.alloc (.cells #[.slice i.DA i.d.length i.dc, .slice i.CA i.S.length i.cc, .int .i64 i.last] 25) = w0 at *
    go_enter Try.func27, Try.ntmps27
    go_wp2_with first
      | (with_reducible show wpList _ _ _ _ _ _
         refine wpList_load_row rfl 25 (.tmp 2) rfl w.heap.size rfl 25 _ (0, 0) _ hB Try.underlying25 rfl infoIm ?_)
    refine hck.mono ?_
    clear hck hw0
    rintro e w2 ⟨rfl, b2⟩
    go_wp2_with fail
    (try simp only [Exit.inBlock, Exit.then])
    refine bodyPost_ret (results_tmp2 rfl _ _ _) rfl ?_
    rw [E.out.1, E.out.2]
    exact told_nil (bb.thenB' b2)
  have E0 : asE i.p snap = (if (asO i.p snap).isSome then 0 else 182) ∧ asD i.p snap = (asO i.p snap).getD [] := by unfold asE asD; rw [hm]; exact ⟨rfl, rfl⟩
  rw [hm, show eno true 1 = 0 from rfl] at hck
  clear hm
  unfold imA at *
  generalize hw0 : w.alloc (.cells #[.slice i.DA i.d.length i.dc, .slice i.CA i.S.length i.cc, .int .i64 i.last] 25) = w0 at *
  by_cases h0 : snap = 0
  focus
    subst h0
    rw [asO_zero] at E0
    have E := Lib.hid E0
    clear E0 hfd hfb
    have rd := hr.rd
    have l1 := hr.dl
    have l2 := hr.dm
    go_enter Try.func27, Try.ntmps27
    go_wp2_with first
      | (with_reducible show wpList _ _ _ _ _ _
         refine wpList_load_row rfl 25 (.tmp 2) rfl w.heap.size rfl 25 _ (0, 0) _ hB Try.underlying25 rfl infoIm ?_)
    refine hck.mono ?_
    clear hck hw0
    rintro e w2 ⟨rfl, b2⟩
    have c1 := (hB.below b2).cell 0
    simp at c1
    go_wp2_with fail
    (try simp only [Exit.inBlock, Exit.then])
    refine bodyPost_ret (results_tmp2 rfl _ _ _) rfl ?_
    rw [E.out.1, E.out.2]
    exact ⟨i.DA, i.dc, rfl, rd.below (bb.thenB' b2), l1, l2, bb.thenB' b2⟩
  rw [ids_p] at hfb hfd
  by_cases h1 : findO (idsP i.p.S) snap < 0
  focus
    rw [asO_none h0 h1] at E0
    have E := Lib.hid E0
    have h2 : findO (idsP (pureC i.S)) snap < 0 := h1
    clear E0 h1
    generalize findO (idsP (pureC i.S)) snap = r at *
    go_enter Try.func27, Try.ntmps27
    go_wp2_with first
      | (with_reducible show wpList _ _ _ _ _ _
         refine wpList_load_row rfl 25 (.tmp 2) rfl w.heap.size rfl 25 _ (0, 0) _ hB Try.underlying25 rfl infoIm ?_)
    refine hck.mono ?_
    clear hck hw0
    rintro e w2 ⟨rfl, b2⟩
    replace hB := hB.below b2
    have hfd := hfd w2 (hr0.below b2)
    go_wp2_with first
      | (with_reducible show wpList _ _ _ _ _ _
         refine wpList_load_row rfl 25 (.tmp 2) rfl w.heap.size rfl 25 _ (0, 0) _ hB Try.underlying25 rfl infoIm ?_)
    refine hfd.mono ?_
    clear hfd
    rintro e w3 ⟨rfl, b3⟩
    go_wp2_with fail
    (try simp only [Exit.inBlock, Exit.then])
    refine bodyPost_ret (results_tmp2 rfl _ _ _) rfl ?_
    rw [E.out.1, E.out.2]
    exact told_nil ((bb.thenB' b2).thenB' b3)
  obtain ⟨k, hk⟩ : ∃ k : Nat, findO (idsP (pureC i.S)) snap = (k : Int) := ⟨(findO (idsP (pureC i.S)) snap).toNat, by
    have : ¬ findO (idsP (pureC i.S)) snap < 0 := h1
    omega⟩
  rw [asO_some h0 hk] at E0
  rw [hk] at hfb hfd
  clear h1 hk
  have hkl : k < i.S.length := by omega
  have e9 : i.p.S.getD k (0, []) = (i.S[k].id, i.S[k].m) := pureC_getD i.S k hkl
  rw [e9] at E0
  have E := Lib.hid E0
  clear E0 e9
  have h2 : ¬ (k : Int) < 0 := by omega
  have h3 : (k : Int) < (i.S.length : Int) := by omega
  have h4 : (i.S.length : Int) ≤ 9223372036854775807 := by have := hr.sl; have := hr.sm; omega
  obtain ⟨rk, lk, mk⟩ := hr.cp i.S[k] (List.getElem_mem hkl)
  have hS := fun W (b : Below w.heap.size w W) => (RdL.below hr.rS b).cp hkl
  obtain ⟨x, hxe⟩ : ∃ x, x = i.S[k].m := ⟨_, rfl⟩
  rw [← hxe] at E rk lk
  simp only [← hxe] at hS
  clear hxe hfb
  generalize i.S[k].A = Ax at *
  generalize i.S[k].c = cx at *
  go_enter Try.func27, Try.ntmps27
  go_wp2_with first
    | (with_reducible show wpList _ _ _ _ _ _
       refine wpList_load_row rfl 25 (.tmp 2) rfl w.heap.size rfl 25 _ (0, 0) _ hB Try.underlying25 rfl infoIm ?_)
  refine hck.mono ?_
  clear hck hw0
  rintro e w2 ⟨rfl, b2⟩
  replace hB := hB.below b2
  have hfd := hfd w2 (hr0.below b2)
  replace bb := bb.thenB' b2
  go_wp2_with first
    | (with_reducible show wpList _ _ _ _ _ _
       refine wpList_load_row rfl 25 (.tmp 2) rfl w.heap.size rfl 25 _ (0, 0) _ hB Try.underlying25 rfl infoIm ?_)
  refine hfd.mono ?_
  clear hfd
  rintro e w3 ⟨rfl, b3⟩
  replace hB := hB.below b3
  replace bb := bb.thenB' b3
  have c2 := hB.cell 1
  simp at c2
  obtain ⟨ad, had, d0, d1⟩ := hS w3 bb
  rw [had] at c2
  clear hS had
  go_wp2_with fail
  (try simp only [Exit.inBlock, Exit.then])
  refine bodyPost_ret (results_tmp2 rfl _ _ _) rfl ?_
  rw [E.out.1, E.out.2]
  exact ⟨Ax, cx, rfl, rk.below bb, lk, mk, bb⟩
end Go.Proofs.Ytcdodchjgadcoaa
