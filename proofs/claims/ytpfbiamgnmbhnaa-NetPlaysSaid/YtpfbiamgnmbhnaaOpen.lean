/- What arguments read as, in the words of this seat; the frame's two closed facts. -/
import Derived.Test.YtpfbiamgnmbhnaaRows
import Derived.Test.YtpfbiamgnmbhnaaLaws
import Derived.ProofKit
import Derived.OpenShut
import Derived.ChangeOld
namespace Go.Proofs.Ytpfbiamgnmbhnaa
open Go.ChangeShapes Go.WideShapes Go.ChangeAt Go.RowKit
set_option linter.unusedVariables false
set_option maxRecDepth 100000

theorem own : ownKnob Try.prog.godebug = none := by kernel_rfl
theorem laidOut : laidOutB Try.prog = true := by kernel_rfl

def Old (w : World) : Nat → Prop := fun b => b < w.heap.size

section
variable {H : Type} {enc : TypeId × Value → H} {w : World} {base : Nat} {spare : Nat → Bool} {held : Bool} {fuel : Nat} {cs : List Value} {x : DataW H × List MemPlace}

theorem i64_of {n : Int} (h : (Lit.int .i64 n).wf = true) : I64 n := by
  simpa [I64, Lit.wf, IntKind.min, IntKind.max, IntKind.signed, IntKind.bits] using h
theorem byte_of {n : Int} (h : (Lit.int .u8 n).wf = true) : n = ((byteOf n).toNat : Int) := by
  have h' : 0 ≤ n ∧ n ≤ 255 := by simpa [Lit.wf, IntKind.min, IntKind.max, IntKind.signed, IntKind.bits] using h
  unfold byteOf
  rw [UInt8.toNat_ofNat']
  omega

theorem readB (h : DataW.trod enc Try.prog w base spare held fuel 27 cs = some x) :
    ∃ A bs c, cs = [.slice A bs.length c] ∧ RdB w (Old w) A bs ∧ bs.length ≤ c ∧ c ≤ 9223372036854775807 ∧ (A = none → c = 0) := by
  rcases open_ints Try.underlying27 Try.underlying5 (by kernel_rfl) h with ⟨hcs, _⟩ | ⟨a, l, c, zs, hcs, _, hl, hm, hz, _, hcell, hwz⟩
  · exact ⟨none, [], 0, hcs, RdB.nil, by simp, by omega, fun _ => rfl⟩
  · have hlz : l ≤ zs.length := by rw [hz]; split <;> omega
    have hlen : ((zs.take l).map byteOf).length = l := by simp; omega
    refine ⟨some a, (zs.take l).map byteOf, c, by rw [hlen]; exact hcs, ?_, by omega, by unfold maxLen at hm; omega, by simp⟩
    refine Rd.imp (D := fun _ => True) ?_ (fun b hb _ => hb) (by omega)
    refine ⟨by simp, fun hn => ⟨a, rfl, trivial, fun j u hu => ?_⟩⟩
    rw [hlen] at hn
    have hj : j < l := by
      have := (List.getElem?_eq_some_iff.1 hu).1
      simp at this
      omega
    rw [hcell j (by omega)]
    simp only [List.getElem?_map, List.getElem?_take, if_pos hj] at hu
    rw [List.getElem?_eq_getElem (show j < zs.length by omega)] at hu
    simp only [Option.map_some, Option.some.injEq] at hu
    rw [← hu]
    unfold cB
    rw [← byte_of (hwz _ (List.getElem_mem _)), List.getD_eq_getElem?_getD, List.getElem?_eq_getElem (show j < zs.length by omega)]
    rfl

theorem readI (h : DataW.trod enc Try.prog w base spare held fuel 39 cs = some x) :
    ∃ A zs c, cs = [.slice A zs.length c] ∧ RdI w (Old w) A zs ∧ zs.length ≤ c ∧ c ≤ 9223372036854775807 ∧ (A = none → c = 0) ∧ ∀ z ∈ zs, I64 z := by
  rcases open_ints Try.underlying39 Try.underlying3 (by kernel_rfl) h with ⟨hcs, _⟩ | ⟨a, l, c, zs, hcs, _, hl, hm, hz, _, hcell, hwz⟩
  · exact ⟨none, [], 0, hcs, RdI.nil, by simp, by omega, fun _ => rfl, by simp⟩
  · have hlz : l ≤ zs.length := by rw [hz]; split <;> omega
    have hlen : (zs.take l).length = l := by simp; omega
    refine ⟨some a, zs.take l, c, by rw [hlen]; exact hcs, ?_, by omega, by unfold maxLen at hm; omega, by simp, fun z hz => i64_of (hwz z (List.mem_of_mem_take hz))⟩
    refine Rd.imp (D := fun _ => True) ?_ (fun b hb _ => hb) (by omega)
    refine ⟨by simp, fun hn => ⟨a, rfl, trivial, fun j u hu => ?_⟩⟩
    rw [hlen] at hn
    have hj : j < l := by
      have := (List.getElem?_eq_some_iff.1 hu).1
      simp at this
      omega
    rw [hcell j (by omega)]
    simp only [List.getElem?_map, List.getElem?_take, if_pos hj] at hu
    rw [List.getElem?_eq_getElem (show j < zs.length by omega)] at hu
    simp only [Option.map_some, Option.some.injEq] at hu
    rw [← hu]
    unfold cI
    rw [List.getD_eq_getElem?_getD, List.getElem?_eq_getElem (show j < zs.length by omega)]
    rfl
theorem readN (h : DataW.trod enc Try.prog w base spare held fuel 3 cs = some x) : ∃ n, cs = [.int .i64 n] ∧ I64 n := by
  obtain ⟨n, hcs, _, hw⟩ := DataW.trod_int Try.underlying3 h
  exact ⟨n, hcs, i64_of hw⟩
end

section
variable {H : Type} {enc : TypeId × Value → H} {W : World} {base : Nat} {v : Value} {d : DataW H} {p : List MemPlace}
theorem openB (hv : Value.okWide Try.prog W .any base 27 v) (h : DataW.Trod enc Try.prog W 0 (fun _ => true) true 27 v d p) :
    ∃ A bs c, v = .slice A bs.length c ∧ RdB W (Old W) A bs ∧ bs.length ≤ c ∧ c ≤ 9223372036854775807 ∧ (A = none → c = 0) := by
  obtain ⟨a, l, c, rfl⟩ := okWide_slice Try.underlying27 hv
  obtain ⟨fuel, hf⟩ := h
  obtain ⟨A, bs, c', hcs, r⟩ := readB hf
  simp [Value.cells] at hcs
  obtain ⟨rfl, rfl, rfl⟩ := hcs
  exact ⟨_, _, _, rfl, r⟩
theorem openI (hv : Value.okWide Try.prog W .any base 39 v) (h : DataW.Trod enc Try.prog W 0 (fun _ => true) true 39 v d p) :
    ∃ A zs c, v = .slice A zs.length c ∧ RdI W (Old W) A zs ∧ zs.length ≤ c ∧ c ≤ 9223372036854775807 ∧ (A = none → c = 0) ∧ ∀ z ∈ zs, I64 z := by
  obtain ⟨a, l, c, rfl⟩ := okWide_slice Try.underlying39 hv
  obtain ⟨fuel, hf⟩ := h
  obtain ⟨A, bs, c', hcs, r⟩ := readI hf
  simp [Value.cells] at hcs
  obtain ⟨rfl, rfl, rfl⟩ := hcs
  exact ⟨_, _, _, rfl, r⟩
theorem openN (hv : Value.okWide Try.prog W .any base 3 v) (h : DataW.Trod enc Try.prog W 0 (fun _ => true) true 3 v d p) : ∃ n, v = .int .i64 n ∧ I64 n := by
  obtain ⟨n, rfl, _, _, hw⟩ := open_int Try.underlying3 hv h
  exact ⟨n, rfl, i64_of hw⟩
theorem openU8 (hv : Value.okWide Try.prog W .any base 5 v) (h : DataW.Trod enc Try.prog W 0 (fun _ => true) true 5 v d p) : ∃ b : UInt8, v = .int .u8 (b.toNat : Int) := by
  obtain ⟨n, rfl, _, _, hw⟩ := open_int Try.underlying5 hv h
  exact ⟨byteOf n, by rw [← byte_of hw]⟩
theorem openBool (hv : Value.okWide Try.prog W .any base 4 v) (h : DataW.Trod enc Try.prog W 0 (fun _ => true) true 4 v d p) : ∃ b : Bool, v = .bool b := by
  obtain ⟨n, rfl, _, _⟩ := open_bool Try.underlying4 hv h
  exact ⟨n, rfl⟩
end
end Go.Proofs.Ytpfbiamgnmbhnaa
