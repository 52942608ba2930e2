/- Entries, plain: what is packed is unpacked; what is unpacked is packed again; with a bit turned, cut, or with more behind: none. -/
import Derived.Test.YthpmmnpjdpgamaaDoorEnB
import Derived.Test.YthpmmnpjdpgamaaDoorFr18
namespace Go.Proofs.YthpmmnpjdpgamaaDoor
open Go.RowKit
set_option linter.unusedVariables false

theorem rFail_ne (x : Int) (s : St) (hx : x ≠ 0) : (rFail x s).2 ≠ 0 := by
  unfold rFail
  split
  · exact hx
  · rename_i h
    intro e
    exact h ⟨e, hx⟩
theorem encN_cons (k m : Nat) : encN (k + 1) m = UInt8.ofNat (m / 256 ^ k % 256) :: encN k m := by
  unfold encN
  rw [List.range_succ_eq_map, List.map_cons, List.map_map]
  congr 1
  apply List.map_congr_left
  intro i hi
  have : i < k := by simpa using hi
  simp only [Function.comp]
  congr 4
  omega
theorem encN_mod (k m : Nat) : encN k (m % 256 ^ k) = encN k m := by
  unfold encN
  apply List.map_congr_left
  intro i hi
  have hi : i < k := by simpa using hi
  congr 1
  have e : 256 ^ k = 256 ^ (k - 1 - i) * (256 ^ (i + 1)) := by rw [← Nat.pow_add]; congr 1; omega
  rw [e, Nat.mod_mul_right_div_self, Nat.pow_succ', Nat.mod_mul_right_mod]
theorem numE_len (width n : Int) : (numE width n).length = (wideI width).toNat := by unfold numE; rw [encN_length]
theorem bigNat_append (a b : List UInt8) : bigNat (a ++ b) = bigNat a * 256 ^ b.length + bigNat b := by
  have h : ∀ (b : List UInt8) (n : Nat), b.foldl (fun n c => n * 256 + c.toNat) n = n * 256 ^ b.length + bigNat b := by
    intro b
    induction b with
    | nil => intro n; simp [bigNat]
    | cons c b ih =>
      intro n
      simp only [List.foldl_cons, List.length_cons, bigNat]
      rw [ih, ih (0 * 256 + c.toNat), Nat.zero_mul, Nat.zero_add]
      rw [Nat.pow_succ, Nat.add_mul]
      have : n * 256 * 256 ^ b.length = n * (256 ^ b.length * 256) := by rw [Nat.mul_assoc, Nat.mul_comm 256]
      omega
  unfold bigNat
  rw [List.foldl_append]
  exact h b _
theorem bigNat_encN (k : Nat) : ∀ m, m < 256 ^ k → bigNat (encN k m) = m := by
  induction k with
  | zero => intro m h; simp at h; subst h; rfl
  | succ k ih =>
    intro m h
    have hp : 0 < 256 ^ k := Nat.pow_pos (by omega)
    rw [encN_cons, ← encN_mod, show UInt8.ofNat (m / 256 ^ k % 256) :: encN k (m % 256 ^ k) = [UInt8.ofNat (m / 256 ^ k % 256)] ++ encN k (m % 256 ^ k) from rfl, bigNat_append, encN_length, ih _ (Nat.mod_lt _ hp)]
    have hq : m / 256 ^ k < 256 := Nat.div_lt_of_lt_mul (by rw [Nat.pow_succ] at h; exact h)
    have e : bigNat [UInt8.ofNat (m / 256 ^ k % 256)] = m / 256 ^ k := by
      simp only [bigNat, List.foldl_cons, List.foldl_nil]
      rw [Nat.mod_eq_of_lt hq, UInt8.toNat_ofNat', Nat.mod_eq_of_lt (by omega)]
      omega
    rw [e]
    have := Nat.div_add_mod m (256 ^ k)
    rw [Nat.mul_comm]
    exact this
theorem rTake_append (xs rest : List UInt8) : rTake xs.length (xs ++ rest, 0) = (xs, (rest, 0)) := by
  unfold rTake
  simp
theorem rTake_append' (n : Nat) (xs rest : List UInt8) (h : n = xs.length) : rTake n (xs ++ rest, 0) = (xs, (rest, 0)) := by
  subst h; exact rTake_append xs rest
theorem rNum_numE (width n : Int) (rest : List UInt8) : rNum width (numE width n ++ rest, 0) = ((clampN (wideI width).toNat n : Int), (rest, 0)) := by
  unfold rNum
  rw [rTake_append' _ _ _ (numE_len width n).symm]
  simp only
  unfold bigN numE
  rw [bigNat_encN _ _ (clampN_lt _ _)]
theorem clamp_id (k : Nat) (n : Nat) (h : n < 256 ^ k) : clampN k (n : Int) = n := by unfold clampN; simp; omega
theorem rNum_yes (width n : Int) (rest : List UInt8) (h0 : 0 ≤ n) (h : n < 256 ^ (wideI width).toNat) : rNum width (numE width n ++ rest, 0) = (n, (rest, 0)) := by
  obtain ⟨m, rfl⟩ : ∃ m : Nat, n = (m : Int) := ⟨n.toNat, by omega⟩
  have h : m < 256 ^ (wideI width).toNat := by
    generalize (wideI width).toNat = k at h ⊢
    have e : ((256 ^ k : Nat) : Int) = 256 ^ k := Int.natCast_pow 256 k
    rw [← e] at h
    exact Int.ofNat_lt.1 h
  rw [rNum_numE, clamp_id _ _ h]
theorem blobE_small (x : List UInt8) (h : x.length ≤ 65535) : blobE x = numE 2 (x.length : Nat) ++ x := by
  unfold blobE
  rw [Nat.min_eq_left h, List.take_of_length_le (Nat.le_refl _)]
theorem blob_eq {x : List UInt8} (h : x.length ≤ 128) (rest : List UInt8) : rBlob 128 (blobE x ++ rest, 0) = (x, (rest, 0)) := by
  unfold rBlob
  rw [blobE_small x (by omega), List.append_assoc, rNum_yes 2 x.length _ (by omega) (by show (x.length : Int) < 65536; omega)]
  simp only
  rw [if_neg (by omega), Int.toNat_natCast]
  exact rTake_append x rest
theorem encN_big : ∀ (l : List UInt8), encN l.length (bigNat l) = l
  | [] => rfl
  | c :: l => by
    have hp : 0 < 256 ^ l.length := Nat.pow_pos (by omega)
    have hl := bigNat_lt l
    have e : bigNat (c :: l) = c.toNat * 256 ^ l.length + bigNat l := by
      rw [show c :: l = [c] ++ l from rfl, bigNat_append]
      simp [bigNat]
    rw [List.length_cons, encN_cons, ← encN_mod, e, Nat.mul_comm, Nat.mul_add_mod, Nat.mod_eq_of_lt hl, encN_big l, Nat.mul_add_div hp, Nat.div_eq_of_lt hl, Nat.add_zero, Nat.mod_eq_of_lt c.toNat_lt, UInt8.ofNat_toNat]
theorem rTake_got {n : Nat} {s : St} (h : (rTake n s).2.2 = 0) : s.2 = 0 ∧ s.1 = (rTake n s).1 ++ (rTake n s).2.1 ∧ (rTake n s).1.length = n := by
  unfold rTake at h ⊢
  by_cases h0 : s.2 = 0
  · rw [if_pos h0] at h ⊢
    by_cases h1 : s.1.length < n
    · rw [if_pos h1] at h; exact absurd h (by decide)
    · rw [if_neg h1]
      exact ⟨h0, (List.take_append_drop n s.1).symm, by show (s.1.take n).length = n; rw [List.length_take]; omega⟩
  · rw [if_neg h0] at h
    exact absurd h h0
theorem rNum_got {w : Int} {s : St} (h : (rNum w s).2.2 = 0) : s.2 = 0 ∧ s.1 = numE w (rNum w s).1 ++ (rNum w s).2.1 ∧ 0 ≤ (rNum w s).1 := by
  obtain ⟨h1, h2, h3⟩ := rTake_got (n := (wideI w).toNat) (s := s) h
  have e : numE w (rNum w s).1 = (rTake (wideI w).toNat s).1 := by
    show encN (wideI w).toNat (clampN (wideI w).toNat (bigNat (rTake (wideI w).toNat s).1 : Int)) = _
    rw [clamp_id _ _ (by have := bigNat_lt (rTake (wideI w).toNat s).1; rw [h3] at this; exact this)]
    conv => lhs; rw [← h3]
    rw [h3]
    have := encN_big (rTake (wideI w).toNat s).1
    rw [h3] at this
    exact this
  refine ⟨h1, by rw [e]; exact h2, ?_⟩
  show (0 : Int) ≤ (bigNat _ : Int)
  omega
theorem rBlob_got {s : St} (h : (rBlob 128 s).2.2 = 0) : s.2 = 0 ∧ s.1 = blobE (rBlob 128 s).1 ++ (rBlob 128 s).2.1 := by
  unfold rBlob at h ⊢
  simp only at h ⊢
  by_cases hb : (rNum 2 s).1 > max 128 0
  · rw [if_pos hb] at h
    exact absurd h (rFail_ne 11 _ (by decide))
  · rw [if_neg hb] at h ⊢
    obtain ⟨h1, h2, h3⟩ := rTake_got h
    obtain ⟨k1, k2, k3⟩ := rNum_got h1
    refine ⟨k1, ?_⟩
    rw [blobE_small _ (by omega), h3, List.append_assoc, ← h2, show (((rNum 2 s).1.toNat : Nat) : Int) = (rNum 2 s).1 by omega]
    exact k2
theorem end_got {s : St} (h : (rEnd s).2 = 0) : s = ([], 0) := by
  obtain ⟨l, e⟩ := s
  unfold rEnd at h
  split at h
  · rename_i hl
    cases l with
    | nil => exact congrArg _ h
    | cons x l => exact absurd hl (by simp)
  · exact absurd h (rFail_ne 11 _ (by decide))
theorem body_read (e : E7) (k : Int) (h : mayE e = true) (hk : k = e.kind) : rawE k (bodyE (cleanO e)) = (cleanO e, ([], 0)) := by
  have h0 : mayP e := of_decide_eq_true h
  have hw := may_wf h
  obtain ⟨s, o, kk, f, l, n, d⟩ := e
  unfold mayP at h0
  dsimp only at h0 hk
  subst hk
  have hd : (cleanO ⟨s, o, k, f, l, n, d⟩).data.length ≤ 128 := hw.data
  have b1 : 0 ≤ (cleanO ⟨s, o, k, f, l, n, d⟩).off ∧ (cleanO ⟨s, o, k, f, l, n, d⟩).off ≤ 512 := by
    show 0 ≤ (if k = 1 ∨ k = 2 then f else 0) ∧ (if k = 1 ∨ k = 2 then f else 0) ≤ 512
    split <;> omega
  have b2 : 0 ≤ (cleanO ⟨s, o, k, f, l, n, d⟩).len ∧ (cleanO ⟨s, o, k, f, l, n, d⟩).len ≤ 512 := by
    show 0 ≤ (if k = 2 ∨ k = 3 then l else 0) ∧ (if k = 2 ∨ k = 3 then l else 0) ≤ 512
    split <;> omega
  have b3 : 0 ≤ (cleanO ⟨s, o, k, f, l, n, d⟩).snap ∧ (cleanO ⟨s, o, k, f, l, n, d⟩).snap ≤ 100 := by
    show 0 ≤ (if k = 5 ∨ k = 6 then n else 0) ∧ (if k = 5 ∨ k = 6 then n else 0) ≤ 100
    split <;> omega
  have b4 : (cleanO ⟨s, o, k, f, l, n, d⟩).seq = s := rfl
  have b5 : (cleanO ⟨s, o, k, f, l, n, d⟩).owner = o := rfl
  have b6 : (cleanO ⟨s, o, k, f, l, n, d⟩).kind = k := rfl
  generalize cleanO ⟨s, o, k, f, l, n, d⟩ = c at *
  obtain ⟨s2, o2, k2, f2, l2, n2, d2⟩ := c
  dsimp only at hd b1 b2 b3 b4 b5 b6
  subst b4 b5 b6
  have e1 : ∀ rest, rNum 6 (numE 6 s2 ++ rest, 0) = (s2, (rest, 0)) := fun rest => rNum_yes 6 s2 rest (by omega) (by show s2 < 281474976710656; omega)
  have e2 : ∀ rest, rNum 1 (numE 1 o2 ++ rest, 0) = (o2, (rest, 0)) := fun rest => rNum_yes 1 o2 rest (by omega) (by show o2 < 256; omega)
  have e3 : ∀ rest, rNum 2 (numE 2 f2 ++ rest, 0) = (f2, (rest, 0)) := fun rest => rNum_yes 2 f2 rest (by omega) (by show f2 < 65536; omega)
  have e4 : ∀ rest, rNum 2 (numE 2 l2 ++ rest, 0) = (l2, (rest, 0)) := fun rest => rNum_yes 2 l2 rest (by omega) (by show l2 < 65536; omega)
  have e5 : ∀ rest, rNum 1 (numE 1 n2 ++ rest, 0) = (n2, (rest, 0)) := fun rest => rNum_yes 1 n2 rest (by omega) (by show n2 < 256; omega)
  have e6 := blob_eq hd []
  rw [List.append_nil] at e6
  unfold rawE bodyE
  dsimp only
  simp only [List.append_assoc, e1, e2, e3, e4, e5, e6]
  rfl
theorem body_len (e : E7) (hd : e.data.length ≤ 128) : (bodyE e).length ≤ 8192 := by
  unfold bodyE
  simp only [List.length_append]
  have h1 := numE_len' 6 e.seq
  have h2 := numE_len' 1 e.owner
  have h3 := numE_len' 2 e.off
  have h4 := numE_len' 2 e.len
  have h5 := numE_len' 1 e.snap
  have h6 := blobE_len e.data
  omega
theorem may_kind {e : E7} (h : mayE e = true) : 1 ≤ e.kind ∧ e.kind ≤ 6 := by
  have h0 : mayP e := of_decide_eq_true h
  obtain ⟨s, o, k, f, l, n, d⟩ := e
  unfold mayP at h0
  dsimp only at h0 ⊢
  omega
/-- An entry's bytes are a frame. -/
theorem pack_frame {e : E7} (h : mayE e = true) : packO e = frameO e.kind.toNat (bodyE (cleanO e)) ∧ (bodyE (cleanO e)).length ≤ 8192 ∧ e.kind.toNat ≤ 255 := by
  have h1 := body_len (cleanO e) (may_wf h).data
  have h2 := may_kind h
  unfold packO makeO
  rw [if_pos h, if_neg (by omega), if_neg (by omega)]
  exact ⟨rfl, h1, by omega⟩
theorem clean_clean (e : E7) : cleanO (cleanO e) = cleanO e := by
  obtain ⟨s, o, k, f, l, n, d⟩ := e
  unfold cleanO
  dsimp only
  simp only [E7.mk.injEq, true_and]
  refine ⟨?_, ?_, ?_, ?_⟩ <;> split <;> simp
theorem may_clean (e : E7) : mayE (cleanO e) = mayE e := by
  obtain ⟨s, o, k, f, l, n, d⟩ := e
  have : mayP (cleanO ⟨s, o, k, f, l, n, d⟩) ↔ mayP ⟨s, o, k, f, l, n, d⟩ := by
    unfold mayP cleanO
    dsimp only
    by_cases h1 : k = 1
    · subst h1; simp
    · by_cases h2 : k = 2
      · subst h2; simp
      · by_cases h3 : k = 3
        · subst h3; simp
        · by_cases h5 : k = 5
          · subst h5; simp
          · by_cases h6 : k = 6
            · subst h6; simp
            · simp [h1, h2, h3, h5, h6]
  unfold mayE
  exact decide_eq_decide.2 this
theorem pack_clean (e : E7) : packO (cleanO e) = packO e := by
  unfold packO
  rw [may_clean, clean_clean]
  rfl
theorem unp_pack {e : E7} (h : mayE e = true) : unpO (packO e) = (cleanO e, 0) := by
  obtain ⟨h1, h2, h3⟩ := pack_frame h
  have hk := may_kind h
  have hn := next_frame e.kind.toNat (bodyE (cleanO e)) [] h3 h2
  rw [List.append_nil] at hn
  rw [h1]
  unfold unpO unpX
  rw [hn]
  dsimp only
  have hr := body_read e (e.kind.toNat : Int) h (by omega)
  rw [hr, frameO_len]
  dsimp only
  have ho : okE (cleanO e) = true := by
    unfold okE
    rw [may_clean, h, clean_clean, same_self]
    rfl
  rw [if_neg (by decide), if_neg (by omega), if_neg (by decide), if_pos ho]
theorem unp_cut {e : E7} (h : mayE e = true) (i : Nat) (hi : i < (packO e).length) : unpO ((packO e).take i) = (zeroE, 10) := by
  obtain ⟨h1, h2, h3⟩ := pack_frame h
  rw [h1] at hi ⊢
  have hn := frame_cut e.kind.toNat _ i h3 h2 hi
  unfold unpO unpX
  rw [hn]
  rfl
theorem unp_more {e : E7} (h : mayE e = true) (x : UInt8) : unpO (packO e ++ [x]) = (zeroE, 11) := by
  obtain ⟨h1, h2, h3⟩ := pack_frame h
  have hn := next_frame e.kind.toNat (bodyE (cleanO e)) [x] h3 h2
  rw [h1]
  unfold unpO unpX
  rw [hn]
  dsimp only
  rw [if_neg (by decide), if_pos (by rw [List.length_append, frameO_len]; simp; omega)]
theorem unp_turned {e : E7} (h : mayE e = true) (i : Nat) (d : UInt8) (hi : i < (packO e).length) (hd : d ≠ (packO e).getD i 0) : unpO ((packO e).set i d) = (zeroE, if i = 0 then 11 else 20) := by
  obtain ⟨h1, h2, h3⟩ := pack_frame h
  rw [h1] at hi hd ⊢
  have hn := frame_turned e.kind.toNat _ i d h3 h2 hi hd
  unfold unpO unpX
  rw [hn]
  by_cases h0 : i = 0
  · simp only [if_pos h0]; rfl
  · simp only [if_neg h0]; rfl
theorem take4 (b : List UInt8) (h : 4 ≤ b.length) : b.take 4 = [b.getD 0 0, b.getD 1 0, b.getD 2 0, b.getD 3 0] := by
  match b, h with
  | a :: b :: c :: d :: l, _ => rfl
theorem next_inv {b : List UInt8} (h : (nextO b).e = 0) : b.take (nextO b).fin = frameO (nextO b).k.toNat (nextO b).body ∧ (nextO b).body.length ≤ 8192 ∧ 0 ≤ (nextO b).k ∧ (nextO b).k ≤ 255 := by
  unfold nextO at h ⊢
  split at h
  · exact absurd h (by show ¬ (10 : Int) = 0; decide)
  rename_i h1
  rw [if_neg h1]
  split at h
  · exact absurd h (by show ¬ (11 : Int) = 0; decide)
  rename_i h2
  rw [if_neg h2]
  split at h
  · exact absurd h (by show ¬ (20 : Int) = 0; decide)
  rename_i h3
  rw [if_neg h3]
  split at h
  · exact absurd h (by show ¬ (11 : Int) = 0; decide)
  rename_i h4
  rw [if_neg h4]
  split at h
  · exact absurd h (by show ¬ (10 : Int) = 0; decide)
  rename_i h5
  rw [if_neg h5]
  split at h
  · exact absurd h (by show ¬ (20 : Int) = 0; decide)
  rename_i h6
  rw [if_neg h6]
  dsimp only
  have hbl := bodyF_len b (lenF b) (by omega)
  have h2 : b.getD 0 0 = 90 := by simpa using h2
  have h3 : tailO (b.take 4) = (b.take 8).drop 4 := by simpa using h3
  have h6 : tailO (bodyF b (lenF b)) = footF b (lenF b) := by simpa using h6
  have k2 := (b.getD 2 0).toNat_lt
  have k3 := (b.getD 3 0).toNat_lt
  have k1 := (b.getD 1 0).toNat_lt
  have e4 : h4O (b.getD 1 0).toNat (lenF b) = b.take 4 := by
    rw [h4_eq _ _ (by omega), take4 b (by omega), h2, UInt8.ofNat_toNat]
    have d1 : lenF b / 256 % 256 = (b.getD 2 0).toNat := by unfold lenF; omega
    have d2 : lenF b % 256 = (b.getD 3 0).toNat := by unfold lenF; omega
    rw [d1, d2, UInt8.ofNat_toNat, UInt8.ofNat_toNat]
  refine ⟨?_, by rw [hbl]; omega, by omega, by omega⟩
  rw [Int.toNat_natCast]
  unfold frameO headO
  rw [hbl, e4, h3, h6]
  unfold bodyF footF
  have s1 : b.take 4 ++ (b.take 8).drop 4 = b.take 8 := by
    have := List.take_append_drop 4 (b.take 8)
    rwa [List.take_take] at this
  have s2 : b.take 8 ++ (b.take (8 + lenF b)).drop 8 = b.take (8 + lenF b) := by
    have := List.take_append_drop 8 (b.take (8 + lenF b))
    rwa [List.take_take, Nat.min_eq_left (by omega)] at this
  have s3 : b.take (8 + lenF b) ++ (b.take (12 + lenF b)).drop (8 + lenF b) = b.take (12 + lenF b) := by
    have := List.take_append_drop (8 + lenF b) (b.take (12 + lenF b))
    rwa [List.take_take, Nat.min_eq_left (by omega)] at this
  rw [s1, s2, s3]
theorem raw_got {k : Int} {b : List UInt8} (h : (rawE k b).2.2 = 0) : b = bodyE (rawE k b).1 := by
  have h0 := end_got (s := (rBlob 128 (rNum 1 (rNum 2 (rNum 2 (rNum 1 (rNum 6 (b, 0)).2).2).2).2).2).2) h
  have h6 := rBlob_got (s := (rNum 1 (rNum 2 (rNum 2 (rNum 1 (rNum 6 (b, 0)).2).2).2).2).2) (by rw [h0])
  have h5 := rNum_got (w := 1) (s := (rNum 2 (rNum 2 (rNum 1 (rNum 6 (b, 0)).2).2).2).2) h6.1
  have h4 := rNum_got (w := 2) (s := (rNum 2 (rNum 1 (rNum 6 (b, 0)).2).2).2) h5.1
  have h3 := rNum_got (w := 2) (s := (rNum 1 (rNum 6 (b, 0)).2).2) h4.1
  have h2 := rNum_got (w := 1) (s := (rNum 6 (b, 0)).2) h3.1
  have h1 := rNum_got (w := 6) (s := (b, 0)) h2.1
  have h6 := h6.2
  rw [h0] at h6
  have h1 := h1.2.1
  rw [h2.2.1, h3.2.1, h4.2.1, h5.2.1, h6] at h1
  unfold rawE bodyE
  dsimp only at h1 ⊢
  rw [List.append_nil] at h1
  simp only [List.append_assoc]
  exact h1
theorem unp_back {b : List UInt8} (h : (unpO b).2 = 0) : packO (unpO b).1 = b := by
  unfold unpO unpX at h ⊢
  split at h
  · rename_i h1; exact absurd h h1
  rename_i h1
  rw [if_neg h1]
  split at h
  · exact absurd h (by show ¬ (11 : Int) = 0; decide)
  rename_i h2
  rw [if_neg h2]
  split at h
  · rename_i h3; exact absurd h h3
  rename_i h3
  rw [if_neg h3]
  split at h
  · rename_i h4
    rw [if_pos h4]
    dsimp only
    have h1 : (nextO b).e = 0 := by simpa using h1
    have h2 : (nextO b).fin = b.length := by simpa using h2
    have h3 : (rawE (nextO b).k (nextO b).body).2.2 = 0 := by simpa using h3
    obtain ⟨n1, n2, n3, n4⟩ := next_inv h1
    have hb := raw_got h3
    have hk : (rawE (nextO b).k (nextO b).body).1.kind = (nextO b).k := rfl
    generalize (rawE (nextO b).k (nextO b).body).1 = e at *
    unfold okE at h4
    rw [Bool.and_eq_true] at h4
    obtain ⟨p1, p2, p3⟩ := pack_frame h4.1
    rw [p1, sameO_iff.1 h4.2, ← hb, hk, ← n1, h2, List.take_length]
  · exact absurd h (by show ¬ (70 : Int) = 0; decide)
/-- What is known of bytes that are an entry's. -/
theorem unp_pre (b : List UInt8) : (unpO b).2 = 0 → packO (unpO b).1 = b ∧ (unpO b).1.data.length ≤ big := by
  intro h
  refine ⟨unp_back h, ?_⟩
  unfold unpO unpX at h ⊢
  split at h
  · rename_i h1; exact absurd h h1
  rename_i h1
  rw [if_neg h1]
  split at h
  · exact absurd h (by show ¬ (11 : Int) = 0; decide)
  rename_i h2
  rw [if_neg h2]
  split at h
  · rename_i h3; exact absurd h h3
  rename_i h3
  rw [if_neg h3]
  split at h
  · rename_i h4
    rw [if_pos h4]
    dsimp only
    generalize (rawE (nextO b).k (nextO b).body).1 = e at *
    unfold okE at h4
    rw [Bool.and_eq_true] at h4
    have := (may_wf h4.1).data
    rw [sameO_iff.1 h4.2] at this
    unfold big
    omega
  · exact absurd h (by show ¬ (70 : Int) = 0; decide)
theorem pack_none {e : E7} (h : mayE e = false) : packO e = [] := by unfold packO; rw [h]; rfl
theorem pack_some {e : E7} (h : mayE e = true) : unpO (packO e) = (cleanO e, 0) ∧ cleanO (cleanO e) = cleanO e ∧ mayE (cleanO e) = true ∧ (packO e).length ≤ 8204 ∧ (cleanO e).data.length ≤ 128 := by
  obtain ⟨h1, h2, h3⟩ := pack_frame h
  exact ⟨unp_pack h, clean_clean e, by rw [may_clean]; exact h, by rw [h1, frameO_len]; omega, (may_wf h).data⟩
end Go.Proofs.YthpmmnpjdpgamaaDoor
