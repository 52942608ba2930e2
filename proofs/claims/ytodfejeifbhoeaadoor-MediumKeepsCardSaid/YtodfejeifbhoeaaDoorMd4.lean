/- A medium: Records. -/
import Derived.Test.YtodfejeifbhoeaaDoorMd3
namespace Go.Proofs.YtodfejeifbhoeaaDoor
open Go.RowKit
set_option linter.unusedVariables false

def recN : Nat → List UInt8 → List (Int × List UInt8)
  | 0, _ => []
  | f + 1, b => if (nextO b).e = 0 then ((nextO b).k, (nextO b).body) :: recN f (nextO b).rest else []
def recO (b : List UInt8) : List (Int × List UInt8) := recN (b.length + 1) b
theorem recN_more (f : Nat) (b : List UInt8) (h : (nextO b).e = 0) (pre : List (Int × List UInt8)) : pre ++ recN (f + 1) b = (pre ++ [((nextO b).k, (nextO b).body)]) ++ recN f (nextO b).rest := by
  rw [recN, if_pos h, List.append_assoc]; rfl
theorem recN_done (f : Nat) (b : List UInt8) (h : (nextO b).e ≠ 0) (pre : List (Int × List UInt8)) : pre ++ recN (f + 1) b = pre := by
  rw [recN, if_neg h, List.append_nil]

theorem infoS : (Tryd.prog.info? 28).map (fun i => (i.zero, i.size, i.bytes)) = some (some (.slice none 0 0), 1, 24) := by kernel_rfl
/-- A row of slices of bytes, of the call's own. -/
def OwnS (w : World) (base : Nat) (v : Value) (vs : List Value) : Prop := w.ownsRow base 28 1 v vs.length vs
def cS (s : BV) : Value := .slice s.A s.l.length s.c
theorem rd_newS (w : World) (s : BV) : Rd (w.alloc (.cells #[cS s] 28)) (· = w.heap.size) 1 (some ⟨w.heap.size, 0, none⟩) 1 [cS s] := by
  refine ⟨rfl, fun _ => ⟨_, rfl, rfl, ?_⟩⟩
  exact cell_one_new w (cS s) _
section
variable {w : World} {ops : Array Oper} {rest : List Oper} {o : Oper} {a : Act} {Q : Exit → Act → World → Prop}
theorem wpList_appS (hgd : o.guard = none) (s x : Operand) (ho : o.op = .call { callee := .builtin .append, args := #[s, x], argTypes := #[27, 27] })
    (base : Nat) (v : Value) (L : List BV) (hs : a.eval s = v) (hown : OwnS w base v (L.map cS))
    (D : Nat → Prop) (A : Option Addr) (c : Nat) (u : BV) (hx : a.eval x = .slice A 1 c) (hr : Rd w D 1 A 1 [cS u])
    (hlen : L.length ≤ 1000000) (hbase : base ≤ w.heap.size)
    (h : ∀ v' w', OwnS w' base v' ((L ++ [u]).map cS) → Ext w w' v v' → wpList Tryd.prog ops Q rest (a.put o.dst v') w') :
    wpList Tryd.prog ops Q (o :: rest) a w := by
  have hown' : w.ownsRow base 28 1 v L.length (L.map cS) := by
    have : OwnS w base v (L.map cS) := hown
    unfold OwnS at this
    rwa [List.length_map] at this
  refine wpList_plain hgd fun _ hK => wp_app s x _ ho base 28 (.slice none 0 0) 1 24 Tryd.underlying27 infoS rfl (by decide) v _ _ hs hown' D A _ c _ hx hr ?_ ?_ ?_ hbase fun v' w' h2 h3 h4 => hK _ _ (h v' w' ?_ ⟨h3, h4.imp id fun e k hk => by rw [e] at hk; injection hk with hk; omega⟩)
  · intro z hz
    obtain rfl : z = cS u := by simpa using hz
    rfl
  · unfold maxLen; omega
  · omega
  · unfold OwnS
    rw [List.length_map, List.length_append, List.map_append]
    exact h2
end
/-- The rows' memory: new, and of neither of two that grow. -/
def DR (base : Nat) (u v : Value) (n k : Nat) : Prop := base ≤ k ∧ k < n ∧ u.ownBlock ≠ some k ∧ v.ownBlock ≠ some k
theorem rdB_ext {w w' : World} {base : Nat} {u u' v : Value} {A : Option Addr} {bs : List UInt8} (h : RdB w (DR base u v w.heap.size) A bs) (x : Ext w w' u u') : RdB w' (DR base u' v w'.heap.size) A bs := by
  have h1 : RdB w' (DR base u v w.heap.size) A bs := Rd.keep h fun b hlt hD => x.grown.block b hlt (fun e => hD.2.2.1 e.symm)
  refine Rd.imp h1 (fun b _ hD => ⟨hD.1, Nat.lt_of_lt_of_le hD.2.1 x.grown.size, fun e => ?_, hD.2.2.2⟩) (by decide)
  rcases x.lies with l | l
  · exact hD.2.2.1 (by rw [← l, e])
  · have := l b e
    have := hD.2.1
    omega
theorem DR.symm {base : Nat} {u v : Value} {n k : Nat} (h : DR base u v n k) : DR base v u n k := ⟨h.1, h.2.1, h.2.2.2, h.2.2.1⟩
theorem rdB_below {w w' : World} {base : Nat} {u v : Value} {A : Option Addr} {bs : List UInt8} (h : RdB w (DR base u v w.heap.size) A bs) (hb : Below w.heap.size w w') : RdB w' (DR base u v w'.heap.size) A bs :=
  Rd.imp (Rd.below h hb) (fun b _ hD => ⟨hD.1, Nat.lt_of_lt_of_le hD.2.1 hb.size, hD.2.2⟩) (by decide)
theorem rdB_sym {w : World} {base : Nat} {u v : Value} {A : Option Addr} {bs : List UInt8} (h : RdB w (DR base u v w.heap.size) A bs) : RdB w (DR base v u w.heap.size) A bs := Rd.imp h (fun _ _ hD => hD.symm) (by decide)
end Go.Proofs.YtodfejeifbhoeaaDoor
