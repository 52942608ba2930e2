import Derived.Test.YtmifmnpbkdjbaaaObj2
namespace Go.Proofs.Ytmifmnpbkdjbaaa
open Go.RowKit
set_option linter.unusedVariables false

theorem rowclo_any (bx : Nat) (D : Nat → Prop) (A : Option Addr) (c : Nat) (m : List Int) (i : Nat) (w : World) (hB : Blk w bx 22 #[.slice A m.length c]) (h : RdI w D A m) :
    Calls Try.prog 40 #[.int .i64 (i : Int), .pointer (some ⟨bx, 0, none⟩)] w fun e w' => e = .returned (.int .i64 (gN m i)) ∧ w = w' := by
  have c0 := hB.cell 0
  simp at c0
  go_enter Try.func40, Try.ntmps40
  go_wp2_with fail
  with_reducible refine (Get_any D A c m i w h).mono ?_
  rintro e w1 ⟨rfl, rfl⟩
  rw [gO_nat]
  go_wp2_with fail
  go_ret
  exact ⟨rfl, rfl⟩

theorem row_any (D : Nat → Prop) (A : Option Addr) (c : Nat) (m : List Int) (w : World) (h : RdI w D A m) :
    Calls Try.prog 32 #[.slice A m.length c] w fun e w' => ∃ A', e = .returned (.slice A' (rowO m).length (rowO m).length) ∧ RowI w' w.heap.size A' (rowO m) ∧ Below w.heap.size w w' := by
  obtain ⟨n, hk, hn⟩ : ∃ n : Nat, min (m.length : Int) 512 = (n : Int) ∧ n = min m.length 512 := ⟨min m.length 512, by omega, rfl⟩
  have HZ : Hid (cutZ ((List.range n).map (gN m)) = rowO m) := cutZ_map (gN m) n (fun k h1 h2 => gN_far m k (by omega)) (by omega)
  have hn5 : n ≤ 512 := by omega
  clear hn
  have hB := Blk.new w 22 #[.slice A m.length c]
  have bn := below_new w (.cells #[.slice A m.length c] 22)
  have c0 := hB.cell 0
  simp at c0
  have h' := h.below bn
  go_enter Try.func32, Try.ntmps32
  have hmf : ∀ (fn : Fn) (first cap : Array Value) (w : World), (Instr.makeFunc fn first cap).run Try.prog w = .ok (.func fn first cap) w := fun _ _ _ _ => rfl
  go_wp2_with fail
  refine (each_any n 40 #[.pointer (some ⟨w.heap.size, 0, none⟩)] (gN m) _ (by unfold big; omega) (Go.Proofs.enters_of Try.func40 (by kernel_rfl) rfl) (fun i _ W hW => rowclo_any w.heap.size D A c m i W (hB.below hW) (h'.below hW))).mono ?_
  rintro e w1 ⟨g, rfl, r, b1⟩
  go_wp2_with fail
  have hcall := clean_any _ (some ⟨g, 0, none⟩) n _ w1 r.rd (by simp) (by omega)
  rw [List.length_map, List.length_range] at hcall
  with_reducible refine hcall.mono ?_
  clear hcall
  rintro e w2 ⟨rfl, rfl⟩
  have r2 : RowI w1 w.heap.size (some ⟨g, 0, none⟩) (rowO m) := by
    rw [← HZ.out]
    exact (r.take _).low bn.size
  rw [HZ.out]
  go_wp2_with fail
  go_ret
  exact ⟨_, rfl, r2, bn.thenB' b1⟩
end Go.Proofs.Ytmifmnpbkdjbaaa
