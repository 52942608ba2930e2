/- Bytes laid over others: the document. -/
import Derived.Test.YtcdodchjgadcoaaAbK
import Derived.Deep.CutRange
import Derived.Deep.CutBlock
namespace Go.Proofs.Ytcdodchjgadcoaa
open Go.RowKit
set_option linter.unusedVariables false
set_option maxRecDepth 100000

theorem laid18_any (D D' : Nat → Prop) (A : Option Addr) (c : Nat) (d : List UInt8) (o : Nat) (X : Option Addr) (cx : Nat) (x : List UInt8) (w : World) (h : RdB w D A d) (hc : d.length ≤ c) (hcm : c ≤ 9223372036854775807) (hx : RdB w D' X x) (hxc : x.length ≤ cx) (ho : o + x.length ≤ d.length) (hd : d.length ≤ 1000) :
    Calls Try.prog 41 #[.slice A d.length c, .int .i64 (o : Int), .slice X x.length cx] w fun e w' => ∃ v, e = .returned v ∧ OwnB w' w.heap.size v (laidO d o x) ∧ Below w.heap.size w w' := by
  have i0 : (o : Int) ≤ (c : Int) := by omega
  have i1 : (o : Int) + (x.length : Int) ≤ (d.length : Int) := by omega
  have i2 : (d.length : Int) ≤ (c : Int) := by omega
  have i3 : (o : Int) + (x.length : Int) ≤ 1000 := by omega
  have hx3 : x.length ≤ 1000 := by omega
  have ho3 : o ≤ 1000 := by omega
  have i0n : o ≤ c := by omega
  have i4n : o + x.length ≤ c := by omega
  have i5n : o + x.length ≤ d.length := ho
  go_enter Try.func41, Try.ntmps41
  go_wp2_with first
    | (with_reducible show wpList _ _ _ _ _ _
       refine wpList_appB rfl (.tmp 8) (.tmp 11) rfl w.heap.size (.slice none 0 0) [] rfl OwnB.nil D A o c (d.take o) rfl (by rw [List.length_take]; omega) (h.take (by omega)) (by rw [List.length_take]; unfold big; simp; omega) (Nat.le_refl _) ?_
       intro v1 w1 o1 x1
       have b1 : Below w.heap.size w w1 := Ext.of_nil x1)
    | (with_reducible show wpList _ _ _ _ _ _
       refine wpList_appB rfl (.tmp 13) (.tmp 14) rfl w.heap.size _ ([] ++ d.take o) rfl o1 D' X x.length cx x rfl rfl (hx.below b1) (by simp; unfold big; omega) b1.size ?_
       intro v2 w2 o2 x2
       have b2 : Below w.heap.size w w2 := b1.trans (x2.below o1 (Nat.le_refl _) b1.size))
    | (with_reducible show wpList _ _ _ _ _ _
       refine wpList_appB rfl (.tmp 16) (.tmp 22) rfl w.heap.size _ ([] ++ d.take o ++ x) rfl o2 D (cutA A (o + x.length) c 1) (d.length - (o + x.length)) (c - (o + x.length)) (d.drop (o + x.length)) rfl (by rw [List.length_drop]) ((h.below b2).drop (by omega) (by omega)) (by simp; unfold big; omega) b2.size ?_
       intro v3 w3 o3 x3
       have b3 : Below w.heap.size w w3 := b2.trans (x3.below o2 (Nat.le_refl _) b2.size))
  go_ret
  exact ⟨v3, rfl, by unfold laidO; simpa using o3, b3⟩
end Go.Proofs.Ytcdodchjgadcoaa
