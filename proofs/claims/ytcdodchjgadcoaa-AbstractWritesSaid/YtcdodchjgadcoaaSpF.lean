/- span: Clean, Join, Meet, Less, Within, Many. -/
import Derived.Test.YtcdodchjgadcoaaSpE
namespace Go.Proofs.Ytcdodchjgadcoaa
open Go.RowKit
set_option linter.unusedVariables false

theorem hasS_wC (l : List Sp) (n : Int) : wantP wC l [] n = hasS l n := want_clean l n
def joinF (a b : List Sp) (n : Int) : Bool := hasS a n || hasS b n
def meetF (a b : List Sp) (n : Int) : Bool := hasS a n && hasS b n
def lessF (a b : List Sp) (n : Int) : Bool := hasS a n && !hasS b n
theorem IsR.to {f g : Int → Bool} {L : List Sp} (h : IsR f L) (e : ∀ n, f n = g n) : IsR g L := ⟨h.clean, fun n => by rw [h.is, e]⟩
theorem docW_join (a b : List Sp) (n : Int) : docW (docB 1) a b n = joinF a b n := by unfold docW docB joinF; rw [if_neg (by decide), if_neg (by decide)]
theorem docW_meet (a b : List Sp) (n : Int) : docW (docB 2) a b n = meetF a b n := rfl
theorem docW_less (a b : List Sp) (n : Int) : docW (docB 3) a b n = lessF a b n := rfl
/-- What a call tells that answers with the row of a set. -/
def Row (N : Nat) (f : Int → Bool) (w : World) (e : Ending) (w' : World) : Prop := ∃ v L, e = .returned v ∧ OwnSp w' w.heap.size v L ∧ IsR f L ∧ Below w.heap.size w w' ∧ L.length ≤ N

section
variable (D D' : Nat → Prop) (A A' : Option Addr) (c c' : Nat) (a b : List Sp) (w : World) (ha : RdSp w D A a) (hb : RdSp w D' A' b) (la : a.length ≤ 1000) (lb : b.length ≤ 1000)
include ha la
theorem Clean_any : Calls Try.prog 30 #[.slice A a.length c] w (Row (2 * a.length) (hasS a) w) := by
  have hc := of_any 46 wC rfl (enters_of Try.func46 (by kernel_rfl) rfl) clC_any D _ A none c 0 a [] w ha (RdSp.none w) la (by decide)
  have HF := Lib.hid (hasS_wC a)
  go_enter Try.func30, Try.ntmps30
  go_wp2_with fail
  refine hc.mono ?_
  clear hc
  rintro e w1 ⟨v, L, rfl, h1, h2, h3, h4⟩
  have HR := Lib.hid (h2.to HF.out)
  clear h2
  go_wp2_with fail
  go_ret
  exact ⟨v, L, rfl, h1, HR.out, h3, h4⟩
include hb lb
end

end Go.Proofs.Ytcdodchjgadcoaa
