/- Parts of the proof, joined: HdZ HfE HeP. -/
import Derived.Test.YtpgfhbkggchliaaQn
/- The law HeadSnaps: the walk. -/
namespace Go.Proofs.Ytpgfhbkggchliaa
open Go.RowKit
set_option linter.unusedVariables false

/-- A head in a variable. -/
structure HdX (w : World) (q : Nat) (cs : Array Value) (h : HdV) : Prop where
  B : Blk w q 27 cs
  rd : HdR w (fun _ => True) h
  v : hdV h = .agg cs
  n : cs.size = 8
theorem HdX.below {w w' : World} {q : Nat} {cs : Array Value} {h : HdV} (k : HdX w q cs h) (b : Below w.heap.size w w') : HdX w' q cs h := ⟨k.B.below b, k.rd.below b, k.v, k.n⟩
theorem hd8 (h : HdV) : (hdA h).size = 8 := rfl
def z8 : Array Value := #[.int .i64 0, .int .i64 0, .int .i64 0, .int .i64 0, .slice none 0 0, .slice none 0 0, .int .i64 0, .int .i64 0]
theorem HdX.new {w w' : World} {h : HdV} {cs : Array Value} (hr : HdR w (fun _ => True) h) (hB : Blk w' w.heap.size 27 cs) (hc : hdA h = cs) (m : Mod (· = w.heap.size) (w.alloc (.cells z8 27)) w') : HdX w' w.heap.size cs h ∧ Below w.heap.size w w' := by
  have bn := below_new w (.cells z8 27)
  have b : Below w.heap.size w w' := bn.thenM m bn.size fun i hi e => by omega
  refine ⟨⟨hB, hr.below b, by rw [← hc]; rfl, by rw [← hc]; rfl⟩, b⟩
theorem same_any {w : World} {q r : Nat} {ca cb : Array Value} {a b : HdV} (ha : HdX w q ca a) (hb : HdX w r cb b) (he : a.p = b.p) (hg : BigP a.p) :
    Calls Try.prog 15 #[.agg ca, .agg cb] w fun e w' => e = .returned (.bool true) ∧ Below w.heap.size w w' := by
  have := rSame_yes _ _ a b w ha.rd hb.rd (eqH_p he) hg.hd
  rwa [ha.v, hb.v] at this

set_option maxHeartbeats 4000000 in
set_option maxRecDepth 100000 in
theorem snaps_walk (D : Nat → Prop) (h : HdV) (id : Int) (w : World) (hr : HdR w D h) :
    Calls Try.prog 7 #[hdV h, .int .i64 id] w fun e w' => e = .returned (.bool true) ∧ Below w.heap.size w w' := by
  have bb := below_new w (.cells (hdA h) 27)
  have hB := Blk.new w 27 (hdA h)
  have hr := hr.below bb
  have hv : hdV h = .agg (hdA h) := rfl
  have hfw := fun W hr => few_any D h W hr
  have hc1 := fun W hr => Snap_any6 D h W hr
  have hc2 := fun W hr => rSnap_any6 D h W hr
  have hc3 := fun W hr => Drop_any6 D h id W hr
  have hc4 := fun W hr => rDrop_any6 D h id W hr
  have hb1 := snap_big h.p
  have hb2 := drop_big h.p id
  rw [hv] at hfw hc1 hc2 hc3 hc4 ⊢
  generalize snapP h.p = d at *
  generalize dropP h.p id = g at *
  generalize hA : hdA h = cs at *
  have h8 : cs.size = 8 := by rw [← hA]; rfl
  clear hA hv
  go_enter Try.func7, Try.ntmps7
  go_wp2_with fail
  refine (awake_any6 _).mono ?_
  rintro e w1 ⟨rfl, b1⟩
  have hB := hB.below b1
  have hr := hr.below b1
  have bb := bb.thenB' b1
  clear b1
  go_wp2_with first
    | (with_reducible show wpList _ _ _ _ _ _
       refine wpList_load_row rfl 27 (.tmp 2) rfl w.heap.size rfl 27 cs (0, 0) _ hB Try.underlying27 rfl (by rw [h8]; exact infoH) ?_)
  refine (hfw _ hr).mono ?_
  clear hfw
  rintro e w2 ⟨rfl, b2⟩
  have hB := hB.below b2
  have hr := hr.below b2
  have bb := bb.thenB' b2
  clear b2
  cases hf : fewO h
  focus
    go_wp2_with fail
    go_ret
    exact ⟨rfl, bb⟩
  go_wp2_with first
    | (with_reducible show wpList _ _ _ _ _ _
       refine wpList_load_row rfl 27 (.tmp 2) rfl w.heap.size rfl 27 cs (0, 0) _ hB Try.underlying27 rfl (by rw [h8]; exact infoH) ?_)
  refine (hc1 _ hr).mono ?_
  clear hc1
  rintro e x1 ⟨h1, rfl, hp1, hr1, b1⟩
  have hB := hB.below b1
  have hr := hr.below b1
  have bb := bb.thenB' b1
  rw [show hdV h1 = .agg (hdA h1) from rfl]
  have q1 := hd8 h1
  have a1 := hdA_ok h1
  generalize hA1 : hdA h1 = c1 at *
  have hz1 := Blk.new x1 27 z8
  unfold z8 at hz1
  go_wp2_with first
    | (with_reducible show wpList _ _ _ _ _ _
       refine wpList_rowB rfl 27 (.tmp 7) (.tmp 27) rfl x1.heap.size 27 _ c1 rfl rfl hz1 (by rw [q1]; exact infoH) (by rw [q1]; rfl) a1 ?_
       intro y1 hy1 m1
       obtain ⟨K1, n1⟩ := HdX.new hr1 hy1 hA1 m1
       have hB := hB.below n1
       have hr := hr.below n1
       have bb := bb.thenB' n1)
    | (with_reducible show wpList _ _ _ _ _ _
       refine wpList_load_row rfl 27 (.tmp 2) rfl w.heap.size rfl 27 cs (0, 0) _ hB Try.underlying27 rfl (by rw [h8]; exact infoH) ?_)
  refine (hc2 _ hr).mono ?_
  clear hc2
  rintro e x2 ⟨h2, rfl, hp2, hr2, b2⟩
  have hB := hB.below b2
  have hr := hr.below b2
  have bb := bb.thenB' b2
  have K1 := K1.below b2
  rw [show hdV h2 = .agg (hdA h2) from rfl]
  have q2 := hd8 h2
  have a2 := hdA_ok h2
  generalize hA2 : hdA h2 = c2 at *
  have hz2 := Blk.new x2 27 z8
  unfold z8 at hz2
  go_wp2_with first
    | (with_reducible show wpList _ _ _ _ _ _
       refine wpList_rowB rfl 27 (.tmp 10) (.tmp 33) rfl x2.heap.size 27 _ c2 rfl rfl hz2 (by rw [q2]; exact infoH) (by rw [q2]; rfl) a2 ?_
       intro y2 hy2 m2
       obtain ⟨K2, n2⟩ := HdX.new hr2 hy2 hA2 m2
       have hB := hB.below n2
       have hr := hr.below n2
       have bb := bb.thenB' n2
       have K1 := K1.below n2)
    | (with_reducible show wpList _ _ _ _ _ _
       refine wpList_load_row rfl 27 (.tmp 2) rfl w.heap.size rfl 27 cs (0, 0) _ hB Try.underlying27 rfl (by rw [h8]; exact infoH) ?_)
  refine (hc3 _ hr).mono ?_
  clear hc3
  rintro e x3 ⟨h3, rfl, hp3, hr3, b3⟩
  have hB := hB.below b3
  have hr := hr.below b3
  have bb := bb.thenB' b3
  have K1 := K1.below b3
  have K2 := K2.below b3
  rw [show hdV h3 = .agg (hdA h3) from rfl]
  have q3 := hd8 h3
  have a3 := hdA_ok h3
  generalize hA3 : hdA h3 = c3 at *
  have hz3 := Blk.new x3 27 z8
  unfold z8 at hz3
  go_wp2_with first
    | (with_reducible show wpList _ _ _ _ _ _
       refine wpList_rowB rfl 27 (.tmp 13) (.tmp 40) rfl x3.heap.size 27 _ c3 rfl rfl hz3 (by rw [q3]; exact infoH) (by rw [q3]; rfl) a3 ?_
       intro y3 hy3 m3
       obtain ⟨K3, n3⟩ := HdX.new hr3 hy3 hA3 m3
       have hB := hB.below n3
       have hr := hr.below n3
       have bb := bb.thenB' n3
       have K1 := K1.below n3
       have K2 := K2.below n3)
    | (with_reducible show wpList _ _ _ _ _ _
       refine wpList_load_row rfl 27 (.tmp 2) rfl w.heap.size rfl 27 cs (0, 0) _ hB Try.underlying27 rfl (by rw [h8]; exact infoH) ?_)
  refine (hc4 _ hr).mono ?_
  clear hc4
  rintro e x4 ⟨h4, rfl, hp4, hr4, b4⟩
  have hB := hB.below b4
  have hr := hr.below b4
  have bb := bb.thenB' b4
  have K1 := K1.below b4
  have K2 := K2.below b4
  have K3 := K3.below b4
  rw [show hdV h4 = .agg (hdA h4) from rfl]
  have q4 := hd8 h4
  have a4 := hdA_ok h4
  generalize hA4 : hdA h4 = c4 at *
  have hz4 := Blk.new x4 27 z8
  unfold z8 at hz4
  go_wp2_with first
    | (with_reducible show wpList _ _ _ _ _ _
       refine wpList_rowB rfl 27 (.tmp 15) (.tmp 46) rfl x4.heap.size 27 _ c4 rfl rfl hz4 (by rw [q4]; exact infoH) (by rw [q4]; rfl) a4 ?_
       intro y4 hy4 m4
       obtain ⟨K4, n4⟩ := HdX.new hr4 hy4 hA4 m4
       have hB := hB.below n4
       have hr := hr.below n4
       have bb := bb.thenB' n4
       have K1 := K1.below n4
       have K2 := K2.below n4
       have K3 := K3.below n4)
    | (with_reducible show wpList _ _ _ _ _ _
       refine wpList_load_rowG rfl rfl 27 (.tmp 7) rfl x1.heap.size rfl 27 c1 K1.B _ Try.underlying27 (by rw [q1]; exact infoH) ?_)
    | (with_reducible show wpList _ _ _ _ _ _
       refine wpList_load_rowG rfl rfl 27 (.tmp 10) rfl x2.heap.size rfl 27 c2 K2.B _ Try.underlying27 (by rw [q2]; exact infoH) ?_)
  refine (same_any K1 K2 (by rw [hp1, hp2]) (by rw [hp1]; exact hb1)).mono ?_
  rintro e x5 ⟨rfl, b5⟩
  have K3 := K3.below b5
  have K4 := K4.below b5
  have bb := bb.thenB' b5
  go_wp2_with first
    | (with_reducible show wpList _ _ _ _ _ _
       refine wpList_load_rowG rfl rfl 27 (.tmp 13) rfl x3.heap.size rfl 27 c3 K3.B _ Try.underlying27 (by rw [q3]; exact infoH) ?_)
    | (with_reducible show wpList _ _ _ _ _ _
       refine wpList_load_rowG rfl rfl 27 (.tmp 15) rfl x4.heap.size rfl 27 c4 K4.B _ Try.underlying27 (by rw [q4]; exact infoH) ?_)
  refine (same_any K3 K4 (by rw [hp3, hp4]) (by rw [hp3]; exact hb2)).mono ?_
  rintro e x6 ⟨rfl, b6⟩
  go_wp2_with fail
  go_ret
  exact ⟨rfl, bb.thenB' b6⟩
end Go.Proofs.Ytpgfhbkggchliaa

/- A head's bytes are taken again, are short one byte earlier, and are too many with one more; bytes that are taken are a head's bytes: plain. -/
namespace Go.Proofs.Ytpgfhbkggchliaa
open Go.RowKit
set_option linter.unusedVariables false

theorem encN_cons (k m : Nat) : encN (k + 1) m = UInt8.ofNat (m / 256 ^ k % 256) :: encN k m := by
  unfold encN
  rw [List.range_succ_eq_map, List.map_cons, List.map_map]
  congr 1
  apply List.map_congr_left
  intro i hi
  have : i < k := by simpa using hi
  simp only [Function.comp]
  congr 4
  omega
theorem encN_mod (k m : Nat) : encN k (m % 256 ^ k) = encN k m := by
  unfold encN
  apply List.map_congr_left
  intro i hi
  have hi : i < k := by simpa using hi
  congr 1
  have e : 256 ^ k = 256 ^ (k - 1 - i) * (256 ^ (i + 1)) := by rw [← Nat.pow_add]; congr 1; omega
  rw [e, Nat.mod_mul_right_div_self, Nat.pow_succ', Nat.mod_mul_right_mod]
theorem numE_len (width n : Int) : (numE width n).length = (wideI width).toNat := by unfold numE; rw [encN_length]
theorem bigNat_append (a b : List UInt8) : bigNat (a ++ b) = bigNat a * 256 ^ b.length + bigNat b := by
  have h : ∀ (b : List UInt8) (n : Nat), b.foldl (fun n c => n * 256 + c.toNat) n = n * 256 ^ b.length + bigNat b := by
    intro b
    induction b with
    | nil => intro n; simp [bigNat]
    | cons c b ih =>
      intro n
      simp only [List.foldl_cons, List.length_cons, bigNat]
      rw [ih, ih (0 * 256 + c.toNat), Nat.zero_mul, Nat.zero_add]
      rw [Nat.pow_succ, Nat.add_mul]
      have : n * 256 * 256 ^ b.length = n * (256 ^ b.length * 256) := by rw [Nat.mul_assoc, Nat.mul_comm 256]
      omega
  unfold bigNat
  rw [List.foldl_append]
  exact h b _
theorem bigNat_encN (k : Nat) : ∀ m, m < 256 ^ k → bigNat (encN k m) = m := by
  induction k with
  | zero => intro m h; simp at h; subst h; rfl
  | succ k ih =>
    intro m h
    have hp : 0 < 256 ^ k := Nat.pow_pos (by omega)
    rw [encN_cons, ← encN_mod, show UInt8.ofNat (m / 256 ^ k % 256) :: encN k (m % 256 ^ k) = [UInt8.ofNat (m / 256 ^ k % 256)] ++ encN k (m % 256 ^ k) from rfl, bigNat_append, encN_length, ih _ (Nat.mod_lt _ hp)]
    have hq : m / 256 ^ k < 256 := Nat.div_lt_of_lt_mul (by rw [Nat.pow_succ] at h; exact h)
    have e : bigNat [UInt8.ofNat (m / 256 ^ k % 256)] = m / 256 ^ k := by
      simp only [bigNat, List.foldl_cons, List.foldl_nil]
      rw [Nat.mod_eq_of_lt hq, UInt8.toNat_ofNat', Nat.mod_eq_of_lt (by omega)]
      omega
    rw [e]
    have := Nat.div_add_mod m (256 ^ k)
    rw [Nat.mul_comm]
    exact this
theorem rTake_append (xs rest : List UInt8) : rTake xs.length (xs ++ rest, 0) = (xs, (rest, 0)) := by
  unfold rTake
  simp
theorem rTake_append' (n : Nat) (xs rest : List UInt8) (h : n = xs.length) : rTake n (xs ++ rest, 0) = (xs, (rest, 0)) := by
  subst h; exact rTake_append xs rest
theorem rNum_numE (width n : Int) (rest : List UInt8) : rNum width (numE width n ++ rest, 0) = ((clampN (wideI width).toNat n : Int), (rest, 0)) := by
  unfold rNum
  rw [rTake_append' _ _ _ (numE_len width n).symm]
  simp only
  unfold bigN numE
  rw [bigNat_encN _ _ (clampN_lt _ _)]
theorem clamp_id (k : Nat) (n : Nat) (h : n < 256 ^ k) : clampN k (n : Int) = n := by unfold clampN; simp; omega
theorem rNum_yes (width n : Int) (rest : List UInt8) (h0 : 0 ≤ n) (h : n < 256 ^ (wideI width).toNat) : rNum width (numE width n ++ rest, 0) = (n, (rest, 0)) := by
  obtain ⟨m, rfl⟩ : ∃ m : Nat, n = (m : Int) := ⟨n.toNat, by omega⟩
  have h : m < 256 ^ (wideI width).toNat := by
    generalize (wideI width).toNat = k at h ⊢
    have e : ((256 ^ k : Nat) : Int) = 256 ^ k := Int.natCast_pow 256 k
    rw [← e] at h
    exact Int.ofNat_lt.1 h
  rw [rNum_numE, clamp_id _ _ h]
theorem blobE_small (x : List UInt8) (h : x.length ≤ 65535) : blobE x = numE 2 (x.length : Nat) ++ x := by
  unfold blobE
  rw [Nat.min_eq_left h, List.take_of_length_le (Nat.le_refl _)]
theorem rTake_bad (n : Nat) (e : Int) (he : e ≠ 0) (bs : List UInt8) : rTake n (bs, e) = ([], (bs, e)) := by unfold rTake; rw [if_neg he]
theorem rNum_bad (width e : Int) (he : e ≠ 0) (bs : List UInt8) : rNum width (bs, e) = (0, (bs, e)) := by unfold rNum; rw [rTake_bad _ _ he]; rfl
theorem rBlob_bad (most e : Int) (he : e ≠ 0) (bs : List UInt8) : rBlob most (bs, e) = ([], (bs, e)) := by
  unfold rBlob; rw [rNum_bad _ _ he]; simp only; rw [if_neg (by omega)]; exact rTake_bad _ _ he _
theorem rTake_short (n : Nat) (bs : List UInt8) (h : bs.length < n) : rTake n (bs, 0) = ([], ([], 10)) := by unfold rTake; rw [if_pos rfl, if_pos h]
theorem rNum_short (width : Int) (bs : List UInt8) (h : bs.length < (wideI width).toNat) : rNum width (bs, 0) = (0, ([], 10)) := by unfold rNum; rw [rTake_short _ _ h]; rfl

/-! ### what a reader does with the bytes that were put for it -/
structure Puts (g : St → St) (x : List UInt8) : Prop where
  yes : ∀ rest, g (x ++ rest, 0) = (rest, 0)
  cut : ∀ k, k < x.length → g (x.take k, 0) = ([], 10)
  bad : g ([], 10) = ([], 10)
theorem Puts.then_ {g g' : St → St} {x y : List UInt8} (h : Puts g x) (h' : Puts g' y) : Puts (fun s => g' (g s)) (x ++ y) := by
  refine ⟨fun rest => ?_, fun k hk => ?_, ?_⟩
  · rw [List.append_assoc, h.yes, h'.yes]
  · rcases Nat.lt_or_ge k x.length with h1 | h1
    · rw [List.take_append_of_le_length (by omega), h.cut k h1, h'.bad]
    · rw [show k = x.length + (k - x.length) by omega, List.take_length_add_append, h.yes, h'.cut _ (by rw [List.length_append] at hk; omega)]
  · rw [h.bad, h'.bad]
theorem puts_num (width n : Int) : Puts (fun s => (rNum width s).2) (numE width n) := by
  refine ⟨fun rest => by rw [rNum_numE], fun k hk => ?_, by rw [rNum_bad _ _ (by decide)]⟩
  rw [numE_len] at hk
  rw [rNum_short _ _ (by rw [List.length_take]; omega)]
theorem blob_eq {x : List UInt8} (h : x.length ≤ 200) (rest : List UInt8) : rBlob 200 (blobE x ++ rest, 0) = (x, (rest, 0)) := by
  unfold rBlob
  rw [blobE_small x (by omega), List.append_assoc, rNum_yes 2 x.length _ (by omega) (by show (x.length : Int) < 65536; omega)]
  simp only
  rw [if_neg (by omega), Int.toNat_natCast]
  exact rTake_append x rest
theorem blob_cut {x : List UInt8} (h : x.length ≤ 200) (k : Nat) (hk : k < (blobE x).length) : rBlob 200 ((blobE x).take k, 0) = ([], ([], 10)) := by
  have h2 : (numE 2 (x.length : Nat)).length = 2 := by rw [numE_len]; rfl
  rw [blobE_small x (by omega)] at hk ⊢
  rw [List.length_append] at hk
  unfold rBlob
  rcases Nat.lt_or_ge k 2 with h1 | h1
  · rw [List.take_append_of_le_length (by omega), rNum_short 2 _ (by rw [List.length_take]; show _ < 2; omega)]
    simp only
    rw [if_neg (by omega)]
    exact rTake_bad _ _ (by decide) _
  · rw [show k = (numE 2 (x.length : Nat)).length + (k - 2) by omega, List.take_length_add_append, rNum_yes 2 x.length _ (by omega) (by show (x.length : Int) < 65536; omega)]
    simp only
    rw [if_neg (by omega), Int.toNat_natCast]
    exact rTake_short _ _ (by rw [List.length_take]; omega)
theorem tab_eq {m : List Int} (h : mayO m = true) (rest : List UInt8) : tabO (blobE (packO m) ++ rest, 0) = (m, (rest, 0)) := by
  unfold tabO
  rw [blob_eq (by have := packO_bd m; omega)]
  simp only
  rw [unp_pack, row_may m h]
  rfl
theorem puts_tab {m : List Int} (h : mayO m = true) : Puts (fun s => (tabO s).2) (blobE (packO m)) := by
  refine ⟨fun rest => by rw [tab_eq h], fun k hk => ?_, ?_⟩
  · unfold tabO
    rw [blob_cut (by have := packO_bd m; omega) k hk]
    rfl
  · unfold tabO
    rw [rBlob_bad _ _ (by decide)]
    rfl
/-- A snapshot that its bytes hold. -/
def okSn (s : Int × Int × List Int) : Prop := (0 ≤ s.1 ∧ s.1 < 256) ∧ (0 ≤ s.2.1 ∧ s.2.1 < 65536) ∧ mayO s.2.2 = true
def rSn (s : St) : (Int × Int × List Int) × St := (((rNum 1 s).1, (rNum 2 (rNum 1 s).2).1, (tabO (rNum 2 (rNum 1 s).2).2).1), (tabO (rNum 2 (rNum 1 s).2).2).2)
theorem sn_eq {x : Int × Int × List Int} (h : okSn x) (rest : List UInt8) : rSn (snB x ++ rest, 0) = (x, (rest, 0)) := by
  obtain ⟨⟨a1, a2⟩, ⟨b1, b2⟩, c⟩ := h
  unfold rSn snB
  rw [List.append_assoc, List.append_assoc, rNum_yes 1 _ _ a1 a2, rNum_yes 2 _ _ b1 b2, tab_eq c]
theorem puts_sn {x : Int × Int × List Int} (h : okSn x) : Puts (fun s => (rSn s).2) (snB x) := by
  unfold rSn snB
  exact ((puts_num 1 x.1).then_ (puts_num 2 x.2.1)).then_ (puts_tab h.2.2)
theorem snaps_succ (n : Nat) (s : St) (h : s.2 = 0) : snapsR (n + 1) s = ((rSn s).1 :: (snapsR n (rSn s).2).1, (snapsR n (rSn s).2).2) := by rw [snapsR, if_pos h]; rfl
theorem snaps_eq : ∀ (S : List (Int × Int × List Int)), (∀ s ∈ S, okSn s) → ∀ rest, snapsR S.length (S.flatMap snB ++ rest, 0) = (S, (rest, 0))
  | [], _, rest => rfl
  | x :: S, h, rest => by
    rw [List.length_cons, snaps_succ _ _ rfl, List.flatMap_cons, List.append_assoc, sn_eq (h x (List.mem_cons_self ..)), snaps_eq S (fun s hs => h s (List.mem_cons_of_mem _ hs))]
theorem puts_snaps : ∀ (S : List (Int × Int × List Int)), (∀ s ∈ S, okSn s) → Puts (fun s => (snapsR S.length s).2) (S.flatMap snB)
  | [], _ => ⟨fun rest => rfl, fun k hk => absurd hk (Nat.not_lt_zero _), rfl⟩
  | x :: S, h => by
    have hx := puts_sn (h x (List.mem_cons_self ..))
    have hS := puts_snaps S (fun s hs => h s (List.mem_cons_of_mem _ hs))
    have hT := hx.then_ hS
    refine ⟨fun rest => by rw [snaps_eq _ h], fun k hk => ?_, ?_⟩
    · have := hT.cut k hk
      rw [List.length_cons, List.flatMap_cons]
      rw [show (snapsR (S.length + 1) ((snB x ++ S.flatMap snB).take k, 0)).2 = (snapsR S.length (rSn ((snB x ++ S.flatMap snB).take k, 0)).2).2 from by rw [snaps_succ _ _ rfl]]
      exact this
    · rw [snapsR_done _ _ (by decide)]
/-- The count of snapshots and the snapshots. -/
def rTail (s : St) : List (Int × Int × List Int) × St := snapsR (rNum 1 s).1.toNat (cntR (rNum 1 s))
theorem tail_eq {S : List (Int × Int × List Int)} (h : ∀ s ∈ S, okSn s) (h4 : S.length ≤ 4) (rest : List UInt8) : rTail (numE 1 (S.length : Nat) ++ (S.flatMap snB ++ rest), 0) = (S, (rest, 0)) := by
  unfold rTail cntR
  rw [rNum_yes 1 _ _ (by omega) (by show (S.length : Int) < 256; omega)]
  simp only
  rw [if_neg (by omega), Int.toNat_natCast, snaps_eq S h]
theorem tail_short (s : St) (h : rNum 1 s = (0, ([], 10))) : (rTail s).2 = ([], 10) := by
  unfold rTail
  rw [h]
  rfl
theorem puts_tail {S : List (Int × Int × List Int)} (h : ∀ s ∈ S, okSn s) (h4 : S.length ≤ 4) : Puts (fun s => (rTail s).2) (numE 1 (S.length : Nat) ++ S.flatMap snB) := by
  have h1 : (numE 1 (S.length : Nat)).length = 1 := by rw [numE_len]; rfl
  refine ⟨fun rest => by rw [List.append_assoc, tail_eq h h4], fun k hk => ?_, tail_short _ (rNum_bad _ _ (by decide) _)⟩
  rcases Nat.lt_or_ge k 1 with hk1 | hk1
  · exact tail_short _ (rNum_short _ _ (by rw [List.length_take]; show _ < 1; omega))
  · rw [show k = (numE 1 (S.length : Nat)).length + (k - 1) by omega, List.take_length_add_append]
    unfold rTail cntR
    rw [rNum_yes 1 _ _ (by omega) (by show (S.length : Int) < 256; omega)]
    simp only
    rw [if_neg (by omega), Int.toNat_natCast]
    exact (puts_snaps S h).cut _ (by rw [List.length_append] at hk; omega)
theorem okSn_of {u n o last : Int} (hl : last ≤ 100) : ∀ (S : List (Int × Int × List Int)) (a : Int), 0 ≤ a → snapsO u n o last a S = true → ∀ s ∈ S, okSn s
  | [], _, _, _, s, hs => absurd hs (by simp)
  | x :: S, a, ha, h, s, hs => by
    unfold snapsO at h
    simp only [Bool.and_eq_true, decide_eq_true_eq] at h
    obtain ⟨h1, h2, h3, h4⟩ := h
    rcases List.mem_cons.1 hs with rfl | hs
    · have := sized_bd h3
      exact ⟨by omega, by omega, this.2.2⟩
    · exact okSn_of hl S x.1 (by omega) h4 s hs
end Go.Proofs.Ytpgfhbkggchliaa

/- The law HeadPacks: the walk. -/
namespace Go.Proofs.Ytpgfhbkggchliaa
open Go.RowKit
set_option linter.unusedVariables false

set_option maxHeartbeats 8000000 in
set_option maxRecDepth 100000 in
theorem packs_walk (D D' : Nat → Prop) (h : HdV) (A : Option Addr) (b : List UInt8) (c : Nat) (w : World) (hr : HdR w D h) (r : RdB w D' A b) (l : b.length ≤ c) (mx : c ≤ 9223372036854775807) :
    Calls Try.prog 4 #[hdV h, .slice A b.length c] w fun e w' => e = .returned (.bool true) ∧ Below w.heap.size w w' := by
  have bb := below_new w (.cells (hdA h) 27)
  have hB := Blk.new w 27 (hdA h)
  have hr := hr.below bb
  have hv : hdV h = .agg (hdA h) := rfl
  have hfw := fun W hr => few_any D h W hr
  have r := r.below bb
  have hc1 := fun (W : World) (r : RdB W D' A b) (hl : b.length ≤ big) => Unpack_any6 D' A c b W r hl
  have hc2 := fun (W : World) (r : RdB W D' A b) => rUnpack_any6 D' A c b W r l mx
  have hc3 := fun W hr => Pack_any6 D h W hr
  have hc4 := fun W hr => rPack_any6 D h W hr
  have hb1 := unp_big b
  rw [hv] at hfw hc3 hc4 ⊢
  generalize unpP b = d at *
  generalize packP h.p = pp at *
  generalize hA : hdA h = cs at *
  have h8 : cs.size = 8 := by rw [← hA]; rfl
  clear hA hv
  go_enter Try.func4, Try.ntmps4
  go_wp2_with fail
  refine (awake_any6 _).mono ?_
  rintro e w1 ⟨rfl, b1⟩
  have hB := hB.below b1
  have hr := hr.below b1
  have r := r.below b1
  have bb := bb.thenB' b1
  clear b1
  go_wp2_with first
    | (with_reducible show wpList _ _ _ _ _ _
       refine wpList_load_row rfl 27 (.tmp 2) rfl w.heap.size rfl 27 cs (0, 0) _ hB Try.underlying27 rfl (by rw [h8]; exact infoH) ?_)
  refine (hfw _ hr).mono ?_
  clear hfw
  rintro e w2 ⟨rfl, b2⟩
  have hB := hB.below b2
  have hr := hr.below b2
  have r := r.below b2
  have bb := bb.thenB' b2
  clear b2
  cases hf : fewO h
  focus
    go_wp2_with fail
    go_ret
    exact ⟨rfl, bb⟩
  by_cases hl3 : (3000 : Int) < (b.length : Int)
  focus
    go_wp2_with fail
    go_ret
    exact ⟨rfl, bb⟩
  have hlb : b.length ≤ big := by unfold big; omega
  go_wp2_with fail
  refine (hc1 _ r hlb).mono ?_
  clear hc1
  rintro e x1 ⟨h1, rfl, hp1, hr1, b1⟩
  have hB := hB.below b1
  have hr := hr.below b1
  have r := r.below b1
  have bb := bb.thenB' b1
  rw [show hdV h1 = .agg (hdA h1) from rfl]
  have q1 := hd8 h1
  have a1 := hdA_ok h1
  generalize hA1 : hdA h1 = c1 at *
  have hz1 := Blk.new x1 27 z8
  unfold z8 at hz1
  go_wp2_with first
    | (with_reducible show wpList _ _ _ _ _ _
       refine wpList_rowB rfl 27 (.tmp 7) (.tmp 26) rfl x1.heap.size 27 _ c1 rfl rfl hz1 (by rw [q1]; exact infoH) (by rw [q1]; rfl) a1 ?_
       intro y1 hy1 m1
       obtain ⟨K1, n1⟩ := HdX.new hr1 hy1 hA1 m1
       have hB := hB.below n1
       have hr := hr.below n1
       have r := r.below n1
       have bb := bb.thenB' n1)
  refine (hc2 _ r).mono ?_
  clear hc2
  rintro e x2 ⟨h2, rfl, hp2, hr2, b2⟩
  have hB := hB.below b2
  have hr := hr.below b2
  have r := r.below b2
  have bb := bb.thenB' b2
  have K1 := K1.below b2
  rw [show hdV h2 = .agg (hdA h2) from rfl]
  have q2 := hd8 h2
  have a2 := hdA_ok h2
  generalize hA2 : hdA h2 = c2 at *
  have hz2 := Blk.new x2 27 z8
  unfold z8 at hz2
  go_wp2_with first
    | (with_reducible show wpList _ _ _ _ _ _
       refine wpList_rowB rfl 27 (.tmp 9) (.tmp 31) rfl x2.heap.size 27 _ c2 rfl rfl hz2 (by rw [q2]; exact infoH) (by rw [q2]; rfl) a2 ?_
       intro y2 hy2 m2
       obtain ⟨K2, n2⟩ := HdX.new hr2 hy2 hA2 m2
       have hB := hB.below n2
       have hr := hr.below n2
       have r := r.below n2
       have bb := bb.thenB' n2
       have K1 := K1.below n2)
  refine r_start (R := RB) (by rfl) (n := 18) (L := #[false, false, false, false, false, false, false, false, false, false, false, false, false, false, false, false, false, false]) rfl rfl ?_
  have bd : Below y2.heap.size y2 y2.drew := (Below.refl _ _).drew
  have hB := hB.below bd
  have hr := hr.below bd
  have K1 := K1.below bd
  have K2 := K2.below bd
  try have p1 := OwnB.below p1 bd
  try have p2 := OwnB.below p2 bd
  have bb := bb.thenB' bd
  generalize y2.drew = wd1 at *
  clear bd
  refine r_flt RB_refl 0 33 #[true, false, false, false, false, false, false, false, false, false, false, false, false, false, false, false, false, false] (by simp only [List.getElem?_toArray, List.getElem?_cons_zero]; rfl) (by rfl) (by kernel_rfl) (by kernel_rfl) (by kernel_rfl) (fun _ _ _ _ h => h) rfl (by rfl) ?_
  apply Exists.intro
  apply And.intro
  · intro W hW
    exact exec_load_row rfl rfl (hB.below hW) Try.underlying27 (by rw [h8]; exact infoH)
  (try simp only [Act.put, List.setIfInBounds_toArray]); (try simp only [List.set_cons_succ]); (try simp only [List.set_cons_zero])
  refine r_flt RB_refl 3 36 #[true, false, false, true, false, false, false, false, false, false, false, false, false, false, false, false, false, false] (by simp only [List.getElem?_toArray, List.getElem?_cons_succ, List.getElem?_cons_zero]; rfl) (by rfl) (by kernel_rfl) (by kernel_rfl) (by kernel_rfl) (fun _ _ _ _ h => h) rfl (by rfl) ?_
  apply Exists.intro
  apply And.intro
  · intro W hW
    exact exec_load_row rfl rfl (hB.below hW) Try.underlying27 (by rw [h8]; exact infoH)
  (try simp only [Act.put, List.setIfInBounds_toArray]); (try simp only [List.set_cons_succ]); (try simp only [List.set_cons_zero])
  refine r_one RB_trans 1 (by kernel_rfl) ?_
  refine alt_call 34 #[true, true, false, true, false, false, false, false, false, false, false, false, false, false, false, false, false, false] (by simp only [List.getElem?_toArray, List.getElem?_cons_succ, List.getElem?_cons_zero]; rfl) (by rfl) rfl (by rfl) (by go_simp; first | exact ⟨rfl, rfl⟩ | rfl) ?_
  with_reducible refine (hc3 _ hr).mono ?_
  clear hc3
  rintro e' w4 ⟨vw4, rfl, p1, bp⟩
  obtain ⟨Aw4, nw4, cw4, rfl, E4, _, _⟩ := OwnB.form' p1
  refine ⟨_, rfl, bp, ?_⟩
  have hB := hB.below bp
  have hr := hr.below bp
  have K1 := K1.below bp
  have K2 := K2.below bp
  try have p2 := OwnB.below p2 bp
  have bb := bb.thenB' bp
  (try simp only [Act.put, List.setIfInBounds_toArray]); (try simp only [List.set_cons_succ]); (try simp only [List.set_cons_zero])
  refine r_flt RB_refl 2 35 #[true, true, true, true, false, false, false, false, false, false, false, false, false, false, false, false, false, false] (by simp only [List.getElem?_toArray, List.getElem?_cons_succ, List.getElem?_cons_zero]; rfl) (by rfl) (by kernel_rfl) (by kernel_rfl) (by kernel_rfl) (fun _ _ _ _ h => h) rfl (by rfl) ?_
  apply Exists.intro
  apply And.intro
  · intro W hW
    have s := str_inB p1 E4.out hW
    go_simp; rfl
  (try simp only [Act.put, List.setIfInBounds_toArray]); (try simp only [List.set_cons_succ]); (try simp only [List.set_cons_zero])
  refine r_one RB_trans 4 (by kernel_rfl) ?_
  refine alt_call 37 #[true, true, true, true, true, false, false, false, false, false, false, false, false, false, false, false, false, false] (by simp only [List.getElem?_toArray, List.getElem?_cons_succ, List.getElem?_cons_zero]; rfl) (by rfl) rfl (by rfl) (by go_simp; first | exact ⟨rfl, rfl⟩ | rfl) ?_
  with_reducible refine (hc4 _ hr).mono ?_
  clear hc4
  rintro e' w5 ⟨vw5, rfl, p2, bp⟩
  obtain ⟨Aw5, nw5, cw5, rfl, E5, _, _⟩ := OwnB.form' p2
  refine ⟨_, rfl, bp, ?_⟩
  have hB := hB.below bp
  have hr := hr.below bp
  have K1 := K1.below bp
  have K2 := K2.below bp
  try have p1 := OwnB.below p1 bp
  have bb := bb.thenB' bp
  (try simp only [Act.put, List.setIfInBounds_toArray]); (try simp only [List.set_cons_succ]); (try simp only [List.set_cons_zero])
  refine r_flt RB_refl 5 38 #[true, true, true, true, true, true, false, false, false, false, false, false, false, false, false, false, false, false] (by simp only [List.getElem?_toArray, List.getElem?_cons_succ, List.getElem?_cons_zero]; rfl) (by rfl) (by kernel_rfl) (by kernel_rfl) (by kernel_rfl) (fun _ _ _ _ h => h) rfl (by rfl) ?_
  apply Exists.intro
  apply And.intro
  · intro W hW
    have s := str_inB p2 E5.out hW
    go_simp; rfl
  (try simp only [Act.put, List.setIfInBounds_toArray]); (try simp only [List.set_cons_succ]); (try simp only [List.set_cons_zero])
  refine r_flt RB_refl 6 39 #[true, true, true, true, true, true, true, false, false, false, false, false, false, false, false, false, false, false] (by simp only [List.getElem?_toArray, List.getElem?_cons_succ, List.getElem?_cons_zero]; rfl) (by rfl) (by kernel_rfl) (by kernel_rfl) (by kernel_rfl) (fun _ _ _ _ h => h) rfl (by rfl) ?_
  apply Exists.intro
  apply And.intro
  · intro W hW
    first | (go_simp; with_reducible rfl) | go_simp
  (try simp only [Act.put, List.setIfInBounds_toArray]); (try simp only [List.set_cons_succ]); (try simp only [List.set_cons_zero])
  refine r_flt RB_refl 7 40 #[true, true, true, true, true, true, true, true, false, false, false, false, false, false, false, false, false, false] (by simp only [List.getElem?_toArray, List.getElem?_cons_succ, List.getElem?_cons_zero]; rfl) (by rfl) (by kernel_rfl) (by kernel_rfl) (by kernel_rfl) (fun _ _ _ _ h => h) rfl (by rfl) ?_
  apply Exists.intro
  apply And.intro
  · intro W hW
    first | (go_simp; with_reducible rfl) | go_simp
  (try simp only [Act.put, List.setIfInBounds_toArray]); (try simp only [List.set_cons_succ]); (try simp only [List.set_cons_zero])
  refine r_flt RB_refl 8 41 #[true, true, true, true, true, true, true, true, true, false, false, false, false, false, false, false, false, false] (by simp only [List.getElem?_toArray, List.getElem?_cons_succ, List.getElem?_cons_zero]; rfl) (by rfl) (by kernel_rfl) (by kernel_rfl) (by kernel_rfl) (fun _ _ _ _ h => h) rfl (by rfl) ?_
  apply Exists.intro
  apply And.intro
  · intro W hW
    first | (go_simp; with_reducible rfl) | go_simp
  (try simp only [Act.put, List.setIfInBounds_toArray]); (try simp only [List.set_cons_succ]); (try simp only [List.set_cons_zero])
  refine r_flt RB_refl 9 42 #[true, true, true, true, true, true, true, true, true, true, false, false, false, false, false, false, false, false] (by simp only [List.getElem?_toArray, List.getElem?_cons_succ, List.getElem?_cons_zero]; rfl) (by rfl) (by kernel_rfl) (by kernel_rfl) (by kernel_rfl) (fun _ _ _ _ h => h) rfl (by rfl) ?_
  apply Exists.intro
  apply And.intro
  · intro W hW
    first | (go_simp; with_reducible rfl) | go_simp
  (try simp only [Act.put, List.setIfInBounds_toArray]); (try simp only [List.set_cons_succ]); (try simp only [List.set_cons_zero])
  refine r_flt RB_refl 10 43 #[true, true, true, true, true, true, true, true, true, true, true, false, false, false, false, false, false, false] (by simp only [List.getElem?_toArray, List.getElem?_cons_succ, List.getElem?_cons_zero]; rfl) (by rfl) (by kernel_rfl) (by kernel_rfl) (by kernel_rfl) (fun _ _ _ _ h => h) rfl (by rfl) ?_
  apply Exists.intro
  apply And.intro
  · intro W hW
    first | (go_simp; with_reducible rfl) | go_simp
  (try simp only [Act.put, List.setIfInBounds_toArray]); (try simp only [List.set_cons_succ]); (try simp only [List.set_cons_zero])
  refine r_flt RB_refl 11 44 #[true, true, true, true, true, true, true, true, true, true, true, true, false, false, false, false, false, false] (by simp only [List.getElem?_toArray, List.getElem?_cons_succ, List.getElem?_cons_zero]; rfl) (by rfl) (by kernel_rfl) (by kernel_rfl) (by kernel_rfl) (fun _ _ _ _ h => h) rfl (by rfl) ?_
  apply Exists.intro
  apply And.intro
  · intro W hW
    first | (go_simp; with_reducible rfl) | go_simp
  (try simp only [Act.put, List.setIfInBounds_toArray]); (try simp only [List.set_cons_succ]); (try simp only [List.set_cons_zero])
  refine r_flt RB_refl 12 45 #[true, true, true, true, true, true, true, true, true, true, true, true, true, false, false, false, false, false] (by simp only [List.getElem?_toArray, List.getElem?_cons_succ, List.getElem?_cons_zero]; rfl) (by rfl) (by kernel_rfl) (by kernel_rfl) (by kernel_rfl) (fun _ _ _ _ h => h) rfl (by rfl) ?_
  apply Exists.intro
  apply And.intro
  · intro W hW
    first | (go_simp; with_reducible rfl) | go_simp
  (try simp only [Act.put, List.setIfInBounds_toArray]); (try simp only [List.set_cons_succ]); (try simp only [List.set_cons_zero])
  refine r_flt RB_refl 13 46 #[true, true, true, true, true, true, true, true, true, true, true, true, true, true, false, false, false, false] (by simp only [List.getElem?_toArray, List.getElem?_cons_succ, List.getElem?_cons_zero]; rfl) (by rfl) (by kernel_rfl) (by kernel_rfl) (by kernel_rfl) (fun _ _ _ _ h => h) rfl (by rfl) ?_
  apply Exists.intro
  apply And.intro
  · intro W hW
    exact exec_load_row rfl rfl (K1.B.below hW) Try.underlying27 (by rw [q1]; exact infoH)
  (try simp only [Act.put, List.setIfInBounds_toArray]); (try simp only [List.set_cons_succ]); (try simp only [List.set_cons_zero])
  refine r_flt RB_refl 14 47 #[true, true, true, true, true, true, true, true, true, true, true, true, true, true, true, false, false, false] (by simp only [List.getElem?_toArray, List.getElem?_cons_succ, List.getElem?_cons_zero]; rfl) (by rfl) (by kernel_rfl) (by kernel_rfl) (by kernel_rfl) (fun _ _ _ _ h => h) rfl (by rfl) ?_
  apply Exists.intro
  apply And.intro
  · intro W hW
    exact exec_load_row rfl rfl (K2.B.below hW) Try.underlying27 (by rw [q2]; exact infoH)
  (try simp only [Act.put, List.setIfInBounds_toArray]); (try simp only [List.set_cons_succ]); (try simp only [List.set_cons_zero])
  refine r_one RB_trans 15 (by kernel_rfl) ?_
  refine alt_call 48 #[true, true, true, true, true, true, true, true, true, true, true, true, true, true, true, true, false, false] (by simp only [List.getElem?_toArray, List.getElem?_cons_succ, List.getElem?_cons_zero]; rfl) (by rfl) rfl (by rfl) (by go_simp; first | exact ⟨rfl, rfl⟩ | rfl) ?_
  with_reducible refine (same_any K1 K2 (by rw [hp1, hp2]) (by rw [hp1]; exact hb1)).mono ?_
  rintro e' w6 ⟨rfl, bi⟩
  refine ⟨_, rfl, bi, ?_⟩
  have bb := bb.thenB' bi
  (try simp only [Act.put, List.setIfInBounds_toArray]); (try simp only [List.set_cons_succ]); (try simp only [List.set_cons_zero])
  refine r_flt RB_refl 16 49 #[true, true, true, true, true, true, true, true, true, true, true, true, true, true, true, true, true, false] (by simp only [List.getElem?_toArray, List.getElem?_cons_succ, List.getElem?_cons_zero]; rfl) (by rfl) (by kernel_rfl) (by kernel_rfl) (by kernel_rfl) (fun _ _ _ _ h => h) rfl (by rfl) ?_
  apply Exists.intro
  apply And.intro
  · intro W hW
    first | (go_simp; with_reducible rfl) | go_simp
  (try simp only [Act.put, List.setIfInBounds_toArray]); (try simp only [List.set_cons_succ]); (try simp only [List.set_cons_zero])
  refine r_flt RB_refl 17 4 #[true, true, true, true, true, true, true, true, true, true, true, true, true, true, true, true, true, true] (by simp only [List.getElem?_toArray, List.getElem?_cons_succ, List.getElem?_cons_zero]; rfl) (by rfl) (by kernel_rfl) (by kernel_rfl) (by kernel_rfl) (fun _ _ _ _ h => h) rfl (by rfl) ?_
  apply Exists.intro
  apply And.intro
  · intro W hW
    first | (go_simp; with_reducible rfl) | go_simp
  (try simp only [Act.put, List.setIfInBounds_toArray]); (try simp only [List.set_cons_succ]); (try simp only [List.set_cons_zero])
  refine r_done (by kernel_rfl) ?_
  go_wp2_with fail
  go_ret
  exact ⟨rfl, bb⟩
end Go.Proofs.Ytpgfhbkggchliaa
