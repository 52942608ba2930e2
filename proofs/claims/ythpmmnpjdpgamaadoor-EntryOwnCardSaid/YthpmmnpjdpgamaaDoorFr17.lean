/- Frames: the plain laws. No program. -/
import Derived.Test.YthpmmnpjdpgamaaDoorFr12
namespace Go.Proofs.YthpmmnpjdpgamaaDoor
open Go.RowKit
set_option linter.unusedVariables false

theorem num2 (n : Nat) (h : n ≤ 65535) : numE 2 (n : Int) = [UInt8.ofNat (n / 256 % 256), UInt8.ofNat (n % 256)] := by
  have hc : clampN 2 (n : Int) = n := by unfold clampN; simp; omega
  show encN 2 (clampN 2 (n : Int)) = _
  rw [hc]
  simp [encN, List.range_succ]
theorem sl {α : Type} (a x c : List α) : ((a ++ x ++ c).take (a.length + x.length)).drop a.length = x := by
  rw [← List.length_append, List.take_left, List.drop_left]
theorem h4_eq (k n : Nat) (h : n ≤ 65535) : h4O k n = [90, UInt8.ofNat k, UInt8.ofNat (n / 256 % 256), UInt8.ofNat (n % 256)] := by
  unfold h4O; rw [num2 n h]; rfl
/-- Anything of the form of a frame. -/
def rawF (h t body foot rest : List UInt8) : List UInt8 := h ++ t ++ body ++ foot ++ rest
section
variable {h t body foot rest : List UInt8} (hh : h.length = 4) (hT : t.length = 4) (hf : foot.length = 4)
include hh hT hf
theorem raw_len : (rawF h t body foot rest).length = body.length + 12 + rest.length := by
  unfold rawF; simp only [List.length_append]; omega
theorem raw_4 : (rawF h t body foot rest).take 4 = h := by
  have _h1 := hT
  have _h2 := hf
  unfold rawF
  rw [List.append_assoc, List.append_assoc, List.append_assoc, ← hh, List.take_left]
theorem raw_48 : ((rawF h t body foot rest).take 8).drop 4 = t := by
  have _h2 := hf
  have := sl h t (body ++ foot ++ rest)
  rw [hh, hT] at this
  unfold rawF
  simpa only [List.append_assoc] using this
theorem raw_body : bodyF (rawF h t body foot rest) body.length = body := by
  have _h2 := hf
  have := sl (h ++ t) body (foot ++ rest)
  rw [List.length_append, hh, hT] at this
  unfold rawF bodyF
  simpa only [List.append_assoc] using this
theorem raw_foot : footF (rawF h t body foot rest) body.length = foot := by
  have := sl (h ++ t ++ body) foot rest
  rw [List.length_append, List.length_append, hh, hT, hf] at this
  unfold rawF footF
  rw [show 12 + body.length = 4 + 4 + body.length + 4 by omega, show 8 + body.length = 4 + 4 + body.length by omega]
  simpa only [List.append_assoc] using this
theorem raw_rest : (rawF h t body foot rest).drop (12 + body.length) = rest := by
  have : (h ++ t ++ body ++ foot).length = 12 + body.length := by simp only [List.length_append]; omega
  unfold rawF
  rw [← this, List.drop_left]
theorem raw_at (i : Nat) (hi : i < 4) : (rawF h t body foot rest).getD i 0 = h.getD i 0 := by
  have _h1 := hT
  have _h2 := hf
  unfold rawF
  rw [List.append_assoc, List.append_assoc, List.append_assoc, List.getD_eq_getElem?_getD, List.getElem?_append_left (by omega), ← List.getD_eq_getElem?_getD]
/-- What Next answers at anything of a frame's form. -/
theorem raw_next (k x y : UInt8) (e : h.getD 0 0 = 90) (hk : h.getD 1 0 = k) (hx : h.getD 2 0 = x) (hy : h.getD 3 0 = y) :
    nextO (rawF h t body foot rest) = if tailO h ≠ t then .bad 20 else if 8192 < x.toNat * 256 + y.toNat then .bad 11 else if body.length + 12 + rest.length < x.toNat * 256 + y.toNat + 12 then .bad 10
      else if x.toNat * 256 + y.toNat = body.length then (if tailO body ≠ foot then .bad 20 else ⟨(k.toNat : Int), body, rest, 12 + body.length, 0⟩) else nextO (rawF h t body foot rest) := by
  have hl := raw_len (body := body) (rest := rest) hh hT hf
  have h4 := raw_4 (body := body) (rest := rest) hh hT hf
  have h48 := raw_48 (body := body) (rest := rest) hh hT hf
  have hlen : lenF (rawF h t body foot rest) = x.toNat * 256 + y.toNat := by
    unfold lenF
    rw [raw_at hh hT hf 2 (by omega), raw_at hh hT hf 3 (by omega), hx, hy]
  have e0 : nextO (rawF h t body foot rest) = if tailO h ≠ t then .bad 20 else if 8192 < x.toNat * 256 + y.toNat then .bad 11 else if body.length + 12 + rest.length < x.toNat * 256 + y.toNat + 12 then .bad 10
      else if tailO (bodyF (rawF h t body foot rest) (x.toNat * 256 + y.toNat)) ≠ footF (rawF h t body foot rest) (x.toNat * 256 + y.toNat) then .bad 20
      else ⟨(k.toNat : Int), bodyF (rawF h t body foot rest) (x.toNat * 256 + y.toNat), (rawF h t body foot rest).drop (12 + (x.toNat * 256 + y.toNat)), 12 + (x.toNat * 256 + y.toNat), 0⟩ := by
    conv => lhs; unfold nextO
    rw [if_neg (by omega), raw_at hh hT hf 0 (by omega), e, if_neg (by simp), h4, h48, hlen, hl, raw_at hh hT hf 1 (by omega), hk]
  by_cases hn : x.toNat * 256 + y.toNat = body.length
  · rw [if_pos hn, e0, hn, raw_body hh hT hf, raw_foot hh hT hf, raw_rest hh hT hf]
  · rw [if_neg hn]
    split
    · rename_i h1; rw [e0, if_pos h1]
    · split
      · rename_i h1 h2; rw [e0, if_neg h1, if_pos h2]
      · split
        · rename_i h1 h2 h3; rw [e0, if_neg h1, if_neg h2, if_pos h3]
        · rfl
end
theorem frame_raw (k : Nat) (body rest : List UInt8) : frameO k body ++ rest = rawF (h4O k body.length) (tailO (h4O k body.length)) body (tailO body) rest := rfl
theorem two_bytes (n : Nat) (h : n ≤ 65535) : (UInt8.ofNat (n / 256 % 256)).toNat * 256 + (UInt8.ofNat (n % 256)).toNat = n := by
  rw [UInt8.toNat_ofNat', UInt8.toNat_ofNat']; omega
/-- A frame is found. -/
theorem next_frame (k : Nat) (body rest : List UInt8) (hk : k ≤ 255) (hb : body.length ≤ 8192) : nextO (frameO k body ++ rest) = ⟨(k : Int), body, rest, 12 + body.length, 0⟩ := by
  have h4 := h4_eq k body.length (by omega)
  rw [frame_raw, raw_next (h4O_len _ _) (tailO_len _) (tailO_len _) (UInt8.ofNat k) (UInt8.ofNat (body.length / 256 % 256)) (UInt8.ofNat (body.length % 256)) (by rw [h4]; rfl) (by rw [h4]; rfl) (by rw [h4]; rfl) (by rw [h4]; rfl)]
  rw [two_bytes _ (by omega), if_neg (by simp), if_neg (by omega), if_neg (by omega), if_pos rfl, if_neg (by simp), UInt8.toNat_ofNat', Nat.mod_eq_of_lt (by omega)]

theorem tailN_inj (s t : Nat) (hs : s < 4294967296) (ht : t < 4294967296) (h : tailN s = tailN t) : s = t := by
  unfold tailN at h
  simp only [List.cons.injEq, and_true] at h
  obtain ⟨h0, h1, h2, h3⟩ := h
  have g := fun (a b : Nat) (e : UInt8.ofNat (a % 256) = UInt8.ofNat (b % 256)) => (by
    have := congrArg UInt8.toNat e
    rw [UInt8.toNat_ofNat', UInt8.toNat_ofNat'] at this
    omega : a % 256 = b % 256)
  have g0 := g _ _ h0
  have g1 := g _ _ h1
  have g2 := g _ _ h2
  have g3 := g _ _ h3
  omega
theorem tail_turned (a b : List UInt8) (c d : UInt8) (h : c ≠ d) : tailO (a ++ c :: b) ≠ tailO (a ++ d :: b) := fun e => by
  have := tailN_inj _ _ (sumO (a ++ c :: b)).isLt (sumO (a ++ d :: b)).isLt e
  exact h (sum_turned a b c d (BitVec.eq_of_toNat_eq this))
theorem set_split (l : List UInt8) (k : Nat) (d : UInt8) (hk : k < l.length) : l = l.take k ++ l[k] :: l.drop (k + 1) ∧ l.set k d = l.take k ++ d :: l.drop (k + 1) := by
  refine ⟨?_, ?_⟩
  · rw [← List.drop_eq_getElem_cons hk, List.take_append_drop]
  · rw [List.set_eq_take_append_cons_drop, if_pos hk]
theorem tail_set (l : List UInt8) (k : Nat) (d : UInt8) (hk : k < l.length) (hd : d ≠ l[k]) : tailO (l.set k d) ≠ tailO l := by
  obtain ⟨e1, e2⟩ := set_split l k d hk
  rw [e2]
  conv => rhs; rw [e1]
  exact tail_turned _ _ _ _ hd
theorem set_ne (l : List UInt8) (k : Nat) (d : UInt8) (hk : k < l.length) (hd : d ≠ l[k]) : l.set k d ≠ l := fun e => by
  have := congrArg (fun x => x[k]?) e
  simp [hk] at this
  exact hd this
end Go.Proofs.YthpmmnpjdpgamaaDoor
