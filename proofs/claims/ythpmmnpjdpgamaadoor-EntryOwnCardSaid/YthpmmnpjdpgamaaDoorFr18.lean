/- A frame with a byte turned, or cut short: the plain laws. No program. -/
import Derived.Test.YthpmmnpjdpgamaaDoorFr17
namespace Go.Proofs.YthpmmnpjdpgamaaDoor
open Go.RowKit
set_option linter.unusedVariables false

theorem getD_set_ne (l : List UInt8) (i j : Nat) (d : UInt8) (h : i ≠ j) : (l.set i d).getD j 0 = l.getD j 0 := by
  rw [List.getD_eq_getElem?_getD, List.getD_eq_getElem?_getD, List.getElem?_set_ne h]
theorem gd (l : List UInt8) (k : Nat) (h : k < l.length) : l.getD k 0 = l[k] := by rw [List.getD_eq_getElem?_getD, List.getElem?_eq_getElem h]; rfl
theorem gl (a b : List UInt8) (i : Nat) (h : i < a.length) : (a ++ b).getD i 0 = a.getD i 0 := by
  rw [List.getD_eq_getElem?_getD, List.getElem?_append_left h, ← List.getD_eq_getElem?_getD]
theorem gr (a b : List UInt8) (i : Nat) (h : a.length ≤ i) : (a ++ b).getD i 0 = b.getD (i - a.length) 0 := by
  rw [List.getD_eq_getElem?_getD, List.getElem?_append_right h, ← List.getD_eq_getElem?_getD]
theorem frame_turned (k : Nat) (body : List UInt8) (i : Nat) (d : UInt8) (hk : k ≤ 255) (hb : body.length ≤ 8192) (hi : i < (frameO k body).length) (hd : d ≠ (frameO k body).getD i 0) :
    nextO ((frameO k body).set i d) = .bad (if i = 0 then 11 else 20) := by
  have hF : frameO k body = rawF (h4O k body.length) (tailO (h4O k body.length)) body (tailO body) [] := by rw [← frame_raw, List.append_nil]
  have h4 := h4_eq k body.length (by omega)
  have hl := frameO_len k body
  have hh := h4O_len k body.length
  have hT := tailO_len (h4O k body.length)
  have hf := tailO_len body
  rw [hF] at hd
  rw [hF]
  rw [hl] at hi
  clear hF hl
  have b0 : (h4O k body.length).getD 0 0 = 90 := by rw [h4]; rfl
  have b2 : (h4O k body.length).getD 2 0 = UInt8.ofNat (body.length / 256 % 256) := by rw [h4]; rfl
  have b3 : (h4O k body.length).getD 3 0 = UInt8.ofNat (body.length % 256) := by rw [h4]; rfl
  have h2 := two_bytes body.length (by omega)
  have hTT : tailO (h4O k body.length) = tailO (h4O k body.length) := rfl
  generalize h4O k body.length = H at *
  by_cases c0 : i < 4
  · have hd1 : d ≠ H[i] := by
      intro e; apply hd; rw [e]
      simp only [rawF, List.append_assoc]
      rw [gl _ _ _ (by omega), gd _ _ (by omega)]
    have e1 : (rawF H (tailO H) body (tailO body) []).set i d = rawF (H.set i d) (tailO H) body (tailO body) [] := by
      unfold rawF
      simp only [List.append_assoc]
      rw [List.set_append_left _ _ (by omega)]
    rw [e1]
    by_cases i0 : i = 0
    · subst i0
      rw [if_pos rfl]
      have hd9 : d ≠ 90 := by
        intro e; apply hd1; rw [e, ← b0, List.getD_eq_getElem?_getD, List.getElem?_eq_getElem (by omega : 0 < H.length)]; rfl
      have hlen := raw_len (h := H.set 0 d) (t := tailO H) (body := body) (foot := tailO body) (rest := []) (by rw [List.length_set]; exact hh) hT hf
      unfold nextO
      rw [if_neg (by rw [hlen]; omega), if_pos]
      rw [raw_at (by rw [List.length_set]; exact hh) hT hf 0 (by omega), List.getD_eq_getElem?_getD, List.getElem?_set_self (by omega)]
      exact hd9
    · rw [if_neg i0, raw_next (by rw [List.length_set]; exact hh) hT hf _ _ _ (by rw [getD_set_ne _ _ _ _ i0]; exact b0) rfl rfl rfl, if_pos (tail_set H i d (by omega) hd1)]
  · rw [if_neg (by omega)]
    by_cases c1 : i < 8
    · have hit : i - 4 < (tailO H).length := by rw [hT]; omega
      have hd1 : d ≠ (tailO H)[i - 4] := by
        intro e; apply hd; rw [e]
        simp only [rawF, List.append_assoc]
        rw [gr _ _ _ (by omega), hh, gl _ _ _ (by omega), gd _ _ hit]
      have e1 : (rawF H (tailO H) body (tailO body) []).set i d = rawF H ((tailO H).set (i - 4) d) body (tailO body) [] := by
        unfold rawF
        simp only [List.append_assoc]
        rw [List.set_append_right _ _ (by omega), List.set_append_left _ _ (by omega), hh]
      rw [e1, raw_next hh (by rw [List.length_set]; exact hT) hf _ _ _ b0 rfl b2 b3, if_pos]
      exact fun e => set_ne _ _ _ hit hd1 e.symm
    · by_cases c2 : i < 8 + body.length
      · have hib : i - 8 < body.length := by omega
        have hd1 : d ≠ body[i - 8] := by
          intro e; apply hd; rw [e]
          simp only [rawF, List.append_assoc]
          rw [gr _ _ _ (by omega), gr _ _ _ (by omega), hh, hT, gl _ _ _ (by omega), show i - 4 - 4 = i - 8 by omega, gd _ _ hib]
        have e1 : (rawF H (tailO H) body (tailO body) []).set i d = rawF H (tailO H) (body.set (i - 8) d) (tailO body) [] := by
          unfold rawF
          simp only [List.append_assoc]
          rw [List.set_append_right _ _ (by omega), List.set_append_right _ _ (by omega), List.set_append_left _ _ (by omega), hh, hT, show i - 4 - 4 = i - 8 by omega]
        rw [e1, raw_next hh hT hf _ _ _ b0 rfl b2 b3, h2, if_neg (by simp), if_neg (by omega), if_neg (by rw [List.length_set]; simp), if_pos (by rw [List.length_set]), if_pos (tail_set body _ d hib hd1)]
      · have hib : i - (8 + body.length) < (tailO body).length := by rw [hf]; omega
        have hd1 : d ≠ (tailO body)[i - (8 + body.length)] := by
          intro e; apply hd; rw [e]
          simp only [rawF, List.append_assoc]
          rw [gr _ _ _ (by omega), gr _ _ _ (by omega), gr _ _ _ (by omega), hh, hT, gl _ _ _ (by omega), show i - 4 - 4 - body.length = i - (8 + body.length) by omega, gd _ _ hib]
        have e1 : (rawF H (tailO H) body (tailO body) []).set i d = rawF H (tailO H) body ((tailO body).set (i - (8 + body.length)) d) [] := by
          unfold rawF
          simp only [List.append_assoc]
          rw [List.set_append_right _ _ (by omega), List.set_append_right _ _ (by omega), List.set_append_right _ _ (by omega), List.set_append_left _ _ (by omega), hh, hT, show i - 4 - 4 - body.length = i - (8 + body.length) by omega]
        rw [e1, raw_next hh hT (by rw [List.length_set]; exact hf) _ _ _ b0 rfl b2 b3, h2, if_neg (by simp), if_neg (by omega), if_neg (by simp), if_pos rfl, if_pos]
        exact fun e => set_ne _ _ _ hib hd1 e.symm
theorem frame_cut (k : Nat) (body : List UInt8) (i : Nat) (hk : k ≤ 255) (hb : body.length ≤ 8192) (hi : i < (frameO k body).length) : nextO ((frameO k body).take i) = .bad 10 := by
  have hl := frameO_len k body
  have hlt : ((frameO k body).take i).length = i := by rw [List.length_take]; omega
  by_cases c : i < 8
  · unfold nextO; rw [hlt, if_pos c]
  · have hF : frameO k body = rawF (h4O k body.length) (tailO (h4O k body.length)) body (tailO body) [] := by rw [← frame_raw, List.append_nil]
    have h4 := h4_eq k body.length (by omega)
    have hh := h4O_len k body.length
    have hT := tailO_len (h4O k body.length)
    have hf := tailO_len body
    have ha : ∀ j, j < 4 → ((frameO k body).take i).getD j 0 = (h4O k body.length).getD j 0 := fun j hj => by
      rw [List.getD_eq_getElem?_getD, List.getElem?_take, if_pos (by omega), ← List.getD_eq_getElem?_getD, hF, raw_at hh hT hf j hj]
    have h1 : ((frameO k body).take i).take 4 = h4O k body.length := by rw [List.take_take, Nat.min_eq_left (by omega), hF, raw_4 hh hT hf]
    have h2 : (((frameO k body).take i).take 8).drop 4 = tailO (h4O k body.length) := by rw [List.take_take, Nat.min_eq_left (by omega), hF, raw_48 hh hT hf]
    have h3 : lenF ((frameO k body).take i) = body.length := by
      unfold lenF
      rw [ha 2 (by omega), ha 3 (by omega), h4]
      exact two_bytes _ (by omega)
    unfold nextO
    rw [hlt, if_neg c, ha 0 (by omega), show (h4O k body.length).getD 0 0 = 90 by rw [h4]; rfl, if_neg (by simp), h1, h2, if_neg (by simp), h3, if_neg (by omega), if_pos (by omega)]
end Go.Proofs.YthpmmnpjdpgamaaDoor
