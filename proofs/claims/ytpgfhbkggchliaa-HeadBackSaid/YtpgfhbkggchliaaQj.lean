/- Parts of the proof, joined: HdK HdL. -/
import Derived.Test.YtpgfhbkggchliaaQi
import Derived.Deep.CutRange
import Derived.Deep.CutBlock
/- A head of bytes: the code. -/
namespace Go.Proofs.Ytpgfhbkggchliaa
open Go.RowKit
set_option linter.unusedVariables false

def snapsR : Nat → St → List (Int × Int × List Int) × St
  | 0, s => ([], s)
  | n + 1, s => if s.2 = 0 then (((rNum 1 s).1, (rNum 2 (rNum 1 s).2).1, (tabO (rNum 2 (rNum 1 s).2).2).1) :: (snapsR n (tabO (rNum 2 (rNum 1 s).2).2).2).1, (snapsR n (tabO (rNum 2 (rNum 1 s).2).2).2).2) else ([], s)
/-- Behind the count of snapshots. -/
def cntR (a : Int × St) : St := if a.1 > 4 then rFail 11 a.2 else a.2
def unpRead (b : List UInt8) : PH × St :=
  let a1 := rNum 1 (b, 0)
  let a2 := rNum 1 a1.2
  let a3 := rNum 1 a2.2
  let a4 := rNum 1 a3.2
  let a5 := rNum 2 a4.2
  let a6 := rNum 6 a5.2
  let a7 := tabO a6.2
  let a8 := rNum 1 a7.2
  let r := snapsR a8.1.toNat (cntR a8)
  (⟨a1.1, a2.1, a3.1, a5.1, a7.1, r.1, a4.1, a6.1⟩, r.2)
def unpP (b : List UInt8) : PH × Int :=
  if (rEnd (unpRead b).2).2 = 0 then (if mayP (unpRead b).1 then ((unpRead b).1, 0) else (zeroP, 60)) else (zeroP, (rEnd (unpRead b).2).2)
theorem rFail_ne (x : Int) (s : St) (hx : x ≠ 0) : (rFail x s).2 ≠ 0 := by
  unfold rFail
  split
  · exact hx
  · rename_i h
    intro e
    exact h ⟨e, hx⟩
theorem cntR_ok (a : Int × St) : a.1 ≤ 4 ∨ (cntR a).2 ≠ 0 := by
  unfold cntR
  split
  · exact .inr (rFail_ne 11 _ (by decide))
  · exact .inl (by omega)
theorem snapsR_done (n : Nat) (s : St) (h : s.2 ≠ 0) : snapsR n s = ([], s) := by
  cases n with
  | zero => rfl
  | succ n => rw [snapsR, if_neg h]
theorem infoI1 : (Try.prog.info? 3).map (·.size) = some 1 := by kernel_rfl
theorem infoM1 : (Try.prog.info? 24).map (·.size) = some 1 := by kernel_rfl
theorem infoS1 : (Try.prog.info? 25).map (·.size) = some 1 := by kernel_rfl
theorem infoSn3 : (Try.prog.info? 52).map (·.size) = some 3 := by kernel_rfl
theorem Rdr.imp {w : World} {g : Nat} {D D' : Nat → Prop} {s : St} (h : Rdr w g D s) (hd : ∀ b, b < w.heap.size → D b → D' b) (hg : ¬ D' g) : Rdr w g D' s := by
  obtain ⟨A, c, h1, h2, h3, h4, h5⟩ := h
  exact ⟨A, c, h1, Rd.imp h2 hd (by decide), h3, h4, hg⟩
def hzA : Array Value := #[.int .i64 0, .int .i64 0, .int .i64 0, .int .i64 0, .slice none 0 0, .slice none 0 0, .int .i64 0, .int .i64 0]
theorem Rdr.ext {a c : World} {v x : Value} {g : Nat} {D : Nat → Prop} {s : St} (h : Rdr a g D s) (k : Ext a c v x) (hg : v.ownBlock ≠ some g) (hd : ∀ b, D b → v.ownBlock ≠ some b) : Rdr c g D s :=
  h.mod (X := fun i => v.ownBlock = some i) (Mod.of_grown k.grown fun i hi => .inl hi) hg hd
theorem Mod.ext {X : Nat → Prop} {o a c : World} {v x : Value} (h : Mod X o a) (k : Ext a c v x) (hv : ∀ i, i < o.heap.size → v.ownBlock = some i → X i) : Mod X o c :=
  h.then_ (Mod.of_grown (X := fun i => v.ownBlock = some i) k.grown fun i hi => .inl hi) hv
def UD (g hb : Nat) (v : Value) (b : Nat) : Prop := b ≠ g ∧ hb < b ∧ v.ownBlock ≠ some b
/-- What stands at the head of each round. -/
structure UL (w : World) (g hb : Nat) (D : Nat → Prop) (F : Value → Array Value) (MA : Option Addr) (m : List Int) (wr : World) (s : St) (v : Value) (L : List SnV) : Prop where
  B : Blk wr hb 27 (F v)
  own : OwnSn wr (hb + 1) v L
  sn : ∀ x ∈ L, SnR wr (UD g hb v) x
  R : Rdr wr g D s
  rm : RdI wr (UD g hb v) MA m
  q : Blk wr w.heap.size 27 hzA
  bb : Below w.heap.size w wr
/-- One snapshot more behind the row, and its new value in the head's block. -/
theorem UL.push {w w5 w6 w7 : World} {g hb : Nat} {D : Nat → Prop} {F : Value → Array Value} {MA : Option Addr} {m : List Int} {s : St} {v v' : Value} {L : List SnV} {x : SnV} (h : UL w g hb D F MA m w5 s v L) (hx : SnR w5 (UD g hb v) x)
    (e : Ext w5 w6 v v') (o : OwnSn w6 (hb + 1) v' (L ++ [x])) (hB : Blk w7 hb 27 (F v')) (m7 : Mod (· = hb) w6 w7) (hD : ∀ b, D b → b < hb) (hg : g < hb) (hq : w.heap.size < hb) :
    UL w g hb D F MA m w7 s v' (L ++ [x]) := by
  have hv : ∀ i, v.ownBlock = some i → hb + 1 ≤ i := fun i hi => (h.own.lt i hi).1
  have hv' : ∀ i, v'.ownBlock = some i → hb + 1 ≤ i := fun i hi => (o.lt i hi).1
  have sx : ∀ y, SnR w5 (UD g hb v) y → SnR w7 (UD g hb v') y := fun y hy =>
    ((hy.ext e fun b hb => hb.2.2).imp fun b _ hd => ⟨hd.1.1, hd.1.2.1, hd.2⟩).mod m7 fun b hd e => by have := hd.2.1; omega
  refine ⟨hB, o.mod m7 fun i hi e => by have := hv' i hi; omega, fun y hy => ?_, ?_, ?_, ?_, ?_⟩
  · rcases List.mem_append.1 hy with hy | hy
    · exact sx y (h.sn y hy)
    · obtain rfl : y = x := by simpa using hy
      exact sx y hx
  · exact (h.R.ext e (fun e => by have := hv g e; omega) fun b hb e => by have := hv b e; have := hD b hb; omega).mod m7 (fun e => by omega) fun b hb e => by have := hD b hb; omega
  · exact Rd.mod (Rd.imp (RdI.ext h.rm e fun b hb => hb.2.2) (fun b _ hd => ⟨hd.1.1, hd.1.2.1, hd.2⟩) (by decide)) m7 fun b hd e => by have := hd.2.1; omega
  · exact (h.q.ext e fun e => by have := hv _ e; omega).mod m7 fun e => by omega
  · exact (h.bb.trans (e.below h.own (by omega) h.bb.size)).thenM m7 (Nat.le_trans h.bb.size e.grown.size) fun i hi e => by omega
theorem UL.turn {w w5 w6 : World} {g hb : Nat} {D : Nat → Prop} {F : Value → Array Value} {MA : Option Addr} {m : List Int} {s s' : St} {v : Value} {L : List SnV} {X : Nat → Prop} (h : UL w g hb D F MA m w5 s v L) (R : Rdr w6 g D s') (mm : Mod X w5 w6) (hX : ∀ i, i < w5.heap.size → X i → i = g) (hg : w.heap.size < g) (hgb : g < hb) :
    UL w g hb D F MA m w6 s' v L := by
  have mm : Mod (· = g) w5 w6 := mm.mono hX
  have hv : ∀ i, v.ownBlock = some i → hb + 1 ≤ i := fun i hi => (h.own.lt i hi).1
  exact ⟨h.B.mod mm (by omega), h.own.mod mm fun i hi e => by have := hv i hi; omega, fun y hy => (h.sn y hy).mod mm fun b hd e => hd.1 e, R, Rd.mod h.rm mm fun b hd e => hd.1 e, h.q.mod mm (by omega), h.bb.thenM mm h.bb.size fun i hi e => by omega⟩
theorem snC_pos (s : SnV) : 0 < (snC s).length := by simp [snC]
theorem UL.hd {w w5 w6 : World} {g hb : Nat} {D : Nat → Prop} {F : Value → Array Value} {MA SA : Option Addr} {m : List Int} {mc sc : Nat} {s : St} {L : List SnV} {X : Nat → Prop} {u n o size last seq : Int} (h : UL w g hb D F MA m w5 s (.slice SA L.length sc) L) (m6 : Mod X w5 w6) (hX : ∀ i, X i → i < hb)
    (lm : m.length ≤ mc) (mm : mc ≤ 9223372036854775807) (lS : L.length ≤ sc) (mS : sc ≤ maxLen) : HdR w6 (fun _ => True) ⟨u, n, o, size, MA, m, mc, SA, L, sc, last, seq⟩ := by
  have h1 : RdI w6 (fun b => hb < b) MA m := Rd.mod (Rd.imp h.rm (fun b _ hd => hd.2.1) (by decide)) m6 fun b hd hx => by have := hX b hx; omega
  have h2 : RdL w6 (fun b => hb < b) 3 snC SA L := ((h.own.rd).imp (D' := fun b => hb < b) snC_pos fun b _ hb => (h.own.lt b hb).1).mod m6 fun b hd hx => by have := hX b hx; omega
  refine ⟨Rd.imp h1 (fun _ _ _ => trivial) (by decide), lm, mm, h2.imp snC_pos fun _ _ _ => trivial, lS, by unfold maxLen at mS; dsimp only; omega, fun s hs => ?_⟩
  have h3 : SnR w6 (fun b => hb < b) s := ((h.sn s hs).imp fun b _ hd => hd.2.1).mod m6 fun b hd hx => by have := hX b hx; omega
  exact h3.imp fun _ _ _ => trivial
theorem own_one {w : World} {base : Nat} {v : Value} {L : List SnV} (h : OwnSn w base v L) : v.oneCell' = true := by
  obtain ⟨A, c, rfl, _⟩ := h.form
  rfl
theorem hzA_ok : hzA.all (·.oneCell') = true := by unfold hzA; simp [Value.oneCell']
theorem hd_cells (h : HdV) : hdA h = #[.int .i64 h.u, .int .i64 h.n, .int .i64 h.o, .int .i64 h.size, .slice h.MA h.m.length h.mc, .slice h.SA h.S.length h.sc, .int .i64 h.last, .int .i64 h.seq] := rfl

set_option maxHeartbeats 8000000 in
set_option maxRecDepth 100000 in
theorem Unpack_any6 (D : Nat → Prop) (A : Option Addr) (c : Nat) (b : List UInt8) (w : World) (h : RdB w D A b) (hl : b.length ≤ big) :
    Calls Try.prog 21 #[.slice A b.length c] w fun e w' => ∃ h' : HdV, e = .returned (.tuple #[hdV h', .int .i64 (unpP b).2]) ∧ h'.p = (unpP b).1 ∧ HdR w' (fun _ => True) h' ∧ Below w.heap.size w w' := by
  have hmf : ∀ (fn : Fn) (first cap : Array Value) (w : World), (Instr.makeFunc fn first cap).run Try.prog w = .ok (.func fn first cap) w := fun _ _ _ _ => rfl
  have bb := below_new w (.cells hzA 27)
  have q := Blk.new w 27 hzA
  have hsz : (w.alloc (.cells hzA 27)).heap.size = w.heap.size + 1 := Array.size_push ..
  have hR := Read_any D A c b _ (h.below bb) hl
  rw [hsz] at hR
  unfold hzA at *
  go_enter Try.func21, Try.ntmps21
  go_wp2_with fail
  refine hR.mono ?_
  clear hR
  rintro e w1 ⟨g, rfl, R, hg, b1⟩
  rw [← hsz] at b1
  have q := q.below b1
  have bb := bb.thenB' b1
  clear b1 hsz h
  have R : Rdr w1 g (fun b => b < w1.heap.size ∧ b ≠ g) (b, 0) := R.imp (fun b hb hd => ⟨hb, hd.2⟩) (fun e => e.2 rfl)
  have hg1 : g < w1.heap.size := R.lt
  have hq1 : w.heap.size < w1.heap.size := q.lt
  have hgq : g ≠ w.heap.size := by omega
  have hbg : w1.heap.size ≠ g := by omega
  have hbq : w1.heap.size ≠ w.heap.size := by omega
  have hDb : ∀ b, b < w1.heap.size ∧ b ≠ g → b ≠ w1.heap.size := fun b hb e => by omega
  have bn := below_new w1 (.cells #[.int .i64 0, .int .i64 0, .int .i64 0, .int .i64 0, .slice none 0 0, .slice none 0 0, .int .i64 0, .int .i64 0] 27)
  have hB0 := Blk.new w1 27 #[.int .i64 0, .int .i64 0, .int .i64 0, .int .i64 0, .slice none 0 0, .slice none 0 0, .int .i64 0, .int .i64 0]
  go_wp2_with fail
  have R := R.below bn
  have q := q.below bn
  have bb := bb.thenB' bn
  have hB := hB0
  clear hB0 bn

  refine (Num_any' g (fun b => b < w1.heap.size ∧ b ≠ g) (b, 0) 1 _ R).mono ?_
  rintro e w3 ⟨rfl, R, m3⟩
  generalize ha1 : rNum 1 (b, 0) = a1 at *
  have Y1 := Lib.hid ha1
  clear ha1
  have hB := hB.mod m3 hbg
  have q := q.mod m3 (fun e => hgq e.symm)
  have bb := bb.thenM m3 bb.size (fun i hi e => by omega)
  clear m3
  go_wp2_with fail
  refine (Num_any' g (fun b => b < w1.heap.size ∧ b ≠ g) a1.2 1 _ R).mono ?_
  rintro e w4 ⟨rfl, R, m4⟩
  generalize ha2 : rNum 1 a1.2 = a2 at *
  have Y2 := Lib.hid ha2
  clear ha2
  have hB := hB.mod m4 hbg
  have q := q.mod m4 (fun e => hgq e.symm)
  have bb := bb.thenM m4 bb.size (fun i hi e => by omega)
  clear m4
  go_wp2_with fail
  refine (Num_any' g (fun b => b < w1.heap.size ∧ b ≠ g) a2.2 1 _ R).mono ?_
  rintro e w5 ⟨rfl, R, m5⟩
  generalize ha3 : rNum 1 a2.2 = a3 at *
  have Y3 := Lib.hid ha3
  clear ha3
  have hB := hB.mod m5 hbg
  have q := q.mod m5 (fun e => hgq e.symm)
  have bb := bb.thenM m5 bb.size (fun i hi e => by omega)
  clear m5
  go_wp2_with first
    | (with_reducible show wpList _ _ _ _ _ _
       refine wpList_fldB rfl 3 (.tmp 20) (.tmp 14) rfl w1.heap.size 0 27 _ (.int .i64 a1.1) rfl rfl rfl infoI1 hB 8 rfl (by decide) ?_
       intro w6 hB m6
       replace hB : Blk w6 w1.heap.size 27 #[.int .i64 a1.1, .int .i64 0, .int .i64 0, .int .i64 0, .slice none 0 0, .slice none 0 0, .int .i64 0, .int .i64 0] := hB)
    | (with_reducible show wpList _ _ _ _ _ _
       refine wpList_fldB rfl 3 (.tmp 22) (.tmp 16) rfl w1.heap.size 1 27 _ (.int .i64 a2.1) rfl rfl rfl infoI1 hB 8 rfl (by decide) ?_
       intro w7 hB m7
       replace hB : Blk w7 w1.heap.size 27 #[.int .i64 a1.1, .int .i64 a2.1, .int .i64 0, .int .i64 0, .slice none 0 0, .slice none 0 0, .int .i64 0, .int .i64 0] := hB)
    | (with_reducible show wpList _ _ _ _ _ _
       refine wpList_fldB rfl 3 (.tmp 24) (.tmp 18) rfl w1.heap.size 2 27 _ (.int .i64 a3.1) rfl rfl rfl infoI1 hB 8 rfl (by decide) ?_
       intro w8 hB m8
       replace hB : Blk w8 w1.heap.size 27 #[.int .i64 a1.1, .int .i64 a2.1, .int .i64 a3.1, .int .i64 0, .slice none 0 0, .slice none 0 0, .int .i64 0, .int .i64 0] := hB)
  have R := R.mod m6 (fun e => hbg e.symm) hDb
  have q := q.mod m6 (fun e => hbq e.symm)
  have bb := bb.thenM m6 bb.size (fun i hi e => by omega)
  have R := R.mod m7 (fun e => hbg e.symm) hDb
  have q := q.mod m7 (fun e => hbq e.symm)
  have bb := bb.thenM m7 bb.size (fun i hi e => by omega)
  have R := R.mod m8 (fun e => hbg e.symm) hDb
  have q := q.mod m8 (fun e => hbq e.symm)
  have bb := bb.thenM m8 bb.size (fun i hi e => by omega)
  clear m6 m7 m8
  refine (Num_any' g (fun b => b < w1.heap.size ∧ b ≠ g) a3.2 1 _ R).mono ?_
  rintro e w9 ⟨rfl, R, m9⟩
  generalize ha4 : rNum 1 a3.2 = a4 at *
  have Y4 := Lib.hid ha4
  clear ha4
  have hB := hB.mod m9 hbg
  have q := q.mod m9 (fun e => hgq e.symm)
  have bb := bb.thenM m9 bb.size (fun i hi e => by omega)
  clear m9
  go_wp2_with first
    | (with_reducible show wpList _ _ _ _ _ _
       refine wpList_fldB rfl 3 (.tmp 27) (.tmp 26) rfl w1.heap.size 6 27 _ (.int .i64 a4.1) rfl rfl rfl infoI1 hB 8 rfl (by decide) ?_
       intro w10 hB m10
       replace hB : Blk w10 w1.heap.size 27 #[.int .i64 a1.1, .int .i64 a2.1, .int .i64 a3.1, .int .i64 0, .slice none 0 0, .slice none 0 0, .int .i64 a4.1, .int .i64 0] := hB)
  have R := R.mod m10 (fun e => hbg e.symm) hDb
  have q := q.mod m10 (fun e => hbq e.symm)
  have bb := bb.thenM m10 bb.size (fun i hi e => by omega)
  clear m10
  refine (Num_any' g (fun b => b < w1.heap.size ∧ b ≠ g) a4.2 2 _ R).mono ?_
  rintro e w11 ⟨rfl, R, m11⟩
  generalize ha5 : rNum 2 a4.2 = a5 at *
  have Y5 := Lib.hid ha5
  clear ha5
  have hB := hB.mod m11 hbg
  have q := q.mod m11 (fun e => hgq e.symm)
  have bb := bb.thenM m11 bb.size (fun i hi e => by omega)
  clear m11
  go_wp2_with first
    | (with_reducible show wpList _ _ _ _ _ _
       refine wpList_fldB rfl 3 (.tmp 30) (.tmp 29) rfl w1.heap.size 3 27 _ (.int .i64 a5.1) rfl rfl rfl infoI1 hB 8 rfl (by decide) ?_
       intro w12 hB m12
       replace hB : Blk w12 w1.heap.size 27 #[.int .i64 a1.1, .int .i64 a2.1, .int .i64 a3.1, .int .i64 a5.1, .slice none 0 0, .slice none 0 0, .int .i64 a4.1, .int .i64 0] := hB)
  have R := R.mod m12 (fun e => hbg e.symm) hDb
  have q := q.mod m12 (fun e => hbq e.symm)
  have bb := bb.thenM m12 bb.size (fun i hi e => by omega)
  clear m12
  refine (Num_any' g (fun b => b < w1.heap.size ∧ b ≠ g) a5.2 6 _ R).mono ?_
  rintro e w13 ⟨rfl, R, m13⟩
  generalize ha6 : rNum 6 a5.2 = a6 at *
  have Y6 := Lib.hid ha6
  clear ha6
  have hB := hB.mod m13 hbg
  have q := q.mod m13 (fun e => hgq e.symm)
  have bb := bb.thenM m13 bb.size (fun i hi e => by omega)
  clear m13
  go_wp2_with first
    | (with_reducible show wpList _ _ _ _ _ _
       refine wpList_fldB rfl 3 (.tmp 33) (.tmp 32) rfl w1.heap.size 7 27 _ (.int .i64 a6.1) rfl rfl rfl infoI1 hB 8 rfl (by decide) ?_
       intro w14 hB m14
       replace hB : Blk w14 w1.heap.size 27 #[.int .i64 a1.1, .int .i64 a2.1, .int .i64 a3.1, .int .i64 a5.1, .slice none 0 0, .slice none 0 0, .int .i64 a4.1, .int .i64 a6.1] := hB)
  have R := R.mod m14 (fun e => hbg e.symm) hDb
  have q := q.mod m14 (fun e => hbq e.symm)
  have bb := bb.thenM m14 bb.size (fun i hi e => by omega)
  clear m14
  refine (table_any g (fun b => b < w1.heap.size ∧ b ≠ g) a6.2 _ R).mono ?_
  rintro e w15 ⟨MA, mc, rfl, rm, lm, mm, R, m15⟩
  have hbl := hB.lt
  have rm : RdI w15 (fun b => b ≠ g ∧ w1.heap.size < b) MA _ := Rd.imp rm (fun b _ hb => by have := Nat.lt_of_lt_of_le hbl hb; exact ⟨by omega, this⟩) (by decide)
  generalize ha7 : tabO a6.2 = a7 at *
  have Y7 := Lib.hid ha7
  clear ha7
  have hB := hB.mod m15 hbg
  have q := q.mod m15 (fun e => hgq e.symm)
  have bb := bb.thenM m15 bb.size (fun i hi e => by omega)
  clear m15
  go_wp2_with first
    | (with_reducible show wpList _ _ _ _ _ _
       refine wpList_fldB rfl 24 (.tmp 38) (.tmp 37) rfl w1.heap.size 4 27 _ (.slice MA a7.1.length mc) rfl rfl rfl infoM1 hB 8 rfl (by decide) ?_
       intro w16 hB m16
       replace hB : Blk w16 w1.heap.size 27 #[.int .i64 a1.1, .int .i64 a2.1, .int .i64 a3.1, .int .i64 a5.1, .slice MA a7.1.length mc, .slice none 0 0, .int .i64 a4.1, .int .i64 a6.1] := hB)
  have R := R.mod m16 (fun e => hbg e.symm) hDb
  have q := q.mod m16 (fun e => hbq e.symm)
  have bb := bb.thenM m16 bb.size (fun i hi e => by omega)
  have rm := Rd.mod rm m16 (fun b hb e => by omega)
  clear m16
  refine (Num_any' g (fun b => b < w1.heap.size ∧ b ≠ g) a7.2 1 _ R).mono ?_
  rintro e w17 ⟨rfl, R, m17⟩
  generalize ha8 : rNum 1 a7.2 = a8 at *
  have Y8 := Lib.hid ha8
  clear ha8
  have hB := hB.mod m17 hbg
  have q := q.mod m17 (fun e => hgq e.symm)
  have bb := bb.thenM m17 bb.size (fun i hi e => by omega)
  have rm := Rd.mod rm m17 (fun b hb e => hb.1 e)
  clear m17
  have hcnt := cntR_ok a8
  have ha8 : 0 ≤ a8.1 ∧ a8.1 ≤ 255 := by
    have h1 := rNum1_bd a7.2
    rw [Y8.out] at h1
    exact h1
  obtain ⟨N, hN⟩ : ∃ N : Nat, a8.1 = (N : Int) := ⟨a8.1.toNat, by omega⟩
  have hN5 : N ≤ 255 := by omega
  have Y9 : Hid (snapsR a8.1.toNat (cntR a8) = snapsR N (cntR a8)) := by unfold Hid; rw [hN]; rfl
  go_upto_if 42 with fail
  go_cut [] from 42 to 44 (fun wx => Rdr wx g (fun b => b < w1.heap.size ∧ b ≠ g) (cntR a8) ∧ Mod (· = g) w17 wx)
  case first =>
    by_cases h4 : (4 : Int) < (N : Int)
    · have e : Hid (cntR a8 = rFail 11 a8.2) := by unfold Hid cntR; rw [if_pos (by omega)]
      go_wp2_with fail
      refine (Fail_any g _ a8.2 11 _ R).mono ?_
      rintro e wx ⟨rfl, R, m⟩
      go_wp2_with fail
      go_meet
      case rel => exact ⟨by rw [e.out]; exact R, m⟩
    · have e : Hid (cntR a8 = a8.2) := by unfold Hid cntR; rw [if_neg (by omega)]
      go_wp2_with fail
      go_meet
      case rel => exact ⟨by rw [e.out]; exact R, Mod.refl _ _⟩
  case rest =>
    obtain ⟨R, m⟩ := hcut
    have hq2 := q.mod m (fun e => hgq e.symm)
    have hB2 := hB.mod m hbg
    have bb2 := bb.thenM m bb.size (fun i hi e => by omega)
    have rm2 := Rd.mod rm m (fun b hb e => hb.1 e)
    have hU : UL w g w1.heap.size (fun b => b < w1.heap.size ∧ b ≠ g) (fun v => #[.int .i64 a1.1, .int .i64 a2.1, .int .i64 a3.1, .int .i64 a5.1, .slice MA a7.1.length mc, v, .int .i64 a4.1, .int .i64 a6.1]) MA a7.1 wc (cntR a8) (.slice none 0 0) [] :=
      ⟨hB2, OwnSn.nil, fun x hx => by simp at hx, R, Rd.imp rm2 (fun b _ hd => ⟨hd.1, hd.2, by simp [Value.ownBlock]⟩) (by decide), hq2, bb2⟩
    clear hq2 hB2 bb2 rm2 R m hB q bb rm
    have HY : Hid (unpRead b = (⟨a1.1, a2.1, a3.1, a5.1, a7.1, (snapsR N (cntR a8)).1, a4.1, a6.1⟩, (snapsR N (cntR a8)).2)) := by
      unfold Hid
      rw [← Y9.out]
      unfold unpRead
      simp only [Y1.out, Y2.out, Y3.out, Y4.out, Y5.out, Y6.out, Y7.out, Y8.out]
    clear Y1 Y2 Y3 Y4 Y5 Y6 Y7 Y8 Y9
    have hgw : w.heap.size < g := by omega
    go_upto_block 0 with fail
    go_cut [7] from 46 to 69 (fun s7 wx => ∃ (v : Value) (L : List SnV), L.length ≤ 4 ∧ UL w g w1.heap.size (fun b => b < w1.heap.size ∧ b ≠ g) (fun v => #[.int .i64 a1.1, .int .i64 a2.1, .int .i64 a3.1, .int .i64 a5.1, .slice MA a7.1.length mc, v, .int .i64 a4.1, .int .i64 a6.1]) MA a7.1 wx (snapsR N (cntR a8)).2 v L ∧ Hid (pureS L = (snapsR N (cntR a8)).1))
    case first =>
      go_wp2_with fail
      go_loopw [7, 46] (fun s7 i wr => ∃ (k : Nat) (v : Value) (L : List SnV) (s : St), k ≤ N ∧ i = .int .i64 (k : Int) ∧ (L.length ≤ k ∧ L.length ≤ 4) ∧ UL w g w1.heap.size (fun b => b < w1.heap.size ∧ b ≠ g) (fun v => #[.int .i64 a1.1, .int .i64 a2.1, .int .i64 a3.1, .int .i64 a5.1, .slice MA a7.1.length mc, v, .int .i64 a4.1, .int .i64 a6.1]) MA a7.1 wr s v L ∧ Hid (snapsR N (cntR a8) = (pureS L ++ (snapsR (N - k) s).1, (snapsR (N - k) s).2)) ∧ (N ≤ 4 ∨ s.2 ≠ 0)) (fun _ i _ => N - (intOf i).toNat)
      case atStart => exact ⟨0, _, [], cntR a8, Nat.zero_le _, rfl, ⟨Nat.le_refl _, by decide⟩, hU, Lib.hid rfl, by omega⟩
      case round =>
        clear hU
        obtain ⟨k, v, L, s, hk, rfl, ⟨hLk, hL4⟩, hU, HS, hN4⟩ := hrel
        by_cases hlt : k < N
        · by_cases hs : s.2 = 0
          · have hN4 : N ≤ 4 := by omega
            have hb1 : (s.2 != 0) = false := by simp [hs]
            obtain ⟨r, hr⟩ : ∃ r, N - k = r + 1 := ⟨N - k - 1, by omega⟩
            have HS2 : Hid (snapsR (N - k) s = (((rNum 1 s).1, (rNum 2 (rNum 1 s).2).1, (tabO (rNum 2 (rNum 1 s).2).2).1) :: (snapsR r (tabO (rNum 2 (rNum 1 s).2).2).2).1, (snapsR r (tabO (rNum 2 (rNum 1 s).2).2).2).2)) := by
              unfold Hid
              rw [hr, snapsR, if_pos hs]
            have hr2 : Hid (N - (k + 1) = r) := by unfold Hid; omega
            have R := hU.R
            have hB := hU.B
            have hbl := hB.lt
            clear hs hr
            go_wp2_with fail
            refine (Err_any g _ s wr R).mono ?_
            rintro e w' ⟨rfl, rfl⟩
            have bn := below_new wr (.cells #[.int .i64 0, .int .i64 0, .slice none 0 0] 52)
            have hS := Blk.new wr 52 #[.int .i64 0, .int .i64 0, .slice none 0 0]
            have hN := Num_any' g _ s 1 _ (R.below bn)
            have mm : Mod (· = g) wr _ := Mod.of_below bn _
            have hgl := R.lt
            have hsg : wr.heap.size ≠ g := by omega
            have hsD : ∀ b, b < w1.heap.size ∧ b ≠ g → b ≠ wr.heap.size := fun b hb e => by omega
            go_wp2_with fail
            refine hN.mono ?_
            clear hN R bn
            rintro e y1 ⟨rfl, R, m1⟩
            generalize hd1 : rNum 1 s = d1 at *
            clear hd1
            have hS := hS.mod m1 hsg
            have mm := mm.trans m1
            go_wp2_with first
              | (with_reducible show wpList _ _ _ _ _ _
                 refine wpList_fldB rfl 3 (.tmp 54) (.tmp 53) rfl wr.heap.size 0 52 _ (.int .i64 d1.1) rfl rfl rfl infoI1 hS 3 rfl (by decide) ?_
                 intro y2 hS m2
                 replace hS : Blk y2 wr.heap.size 52 #[.int .i64 d1.1, .int .i64 0, .slice none 0 0] := hS)
            have R := R.mod m2 (fun e => hsg e.symm) hsD
            have mm := mm.then_ m2 (fun i hi e => by omega)
            refine (Num_any' g _ d1.2 2 _ R).mono ?_
            clear R m1 m2
            rintro e y3 ⟨rfl, R, m1⟩
            generalize hd2 : rNum 2 d1.2 = d2 at *
            clear hd2
            have hS := hS.mod m1 hsg
            have mm := mm.trans m1
            go_wp2_with first
              | (with_reducible show wpList _ _ _ _ _ _
                 refine wpList_fldB rfl 3 (.tmp 57) (.tmp 56) rfl wr.heap.size 1 52 _ (.int .i64 d2.1) rfl rfl rfl infoI1 hS 3 rfl (by decide) ?_
                 intro y4 hS m2
                 replace hS : Blk y4 wr.heap.size 52 #[.int .i64 d1.1, .int .i64 d2.1, .slice none 0 0] := hS)
            have R := R.mod m2 (fun e => hsg e.symm) hsD
            have mm := mm.then_ m2 (fun i hi e => by omega)
            have hsl := hS.lt
            have hyl := mm.size
            refine (table_any g _ d2.2 _ R).mono ?_
            clear R m1 m2
            rintro e y5 ⟨Ax, cx, rfl, rx, lx, mx, R, m1⟩
            generalize hd3 : tabO d2.2 = d3 at *
            clear hd3
            have hS := hS.mod m1 hsg
            have mm := mm.trans m1
            go_wp2_with first
              | (with_reducible show wpList _ _ _ _ _ _
                 refine wpList_fldB rfl 24 (.tmp 62) (.tmp 61) rfl wr.heap.size 2 52 _ (.slice Ax d3.1.length cx) rfl rfl rfl infoM1 hS 3 rfl (by decide) ?_
                 intro y6 hS m2
                 replace hS : Blk y6 wr.heap.size 52 #[.int .i64 d1.1, .int .i64 d2.1, .slice Ax d3.1.length cx] := hS
                 have R := R.mod m2 (fun e => hsg e.symm) hsD
                 have mm := mm.then_ m2 (fun i hi e => by omega)
                 have hU5 := hU.turn R mm (fun i _ h => h) hgw hg1
                 have bn := below_new y6 (.cells #[.int .i64 d1.1, .int .i64 d2.1, .slice Ax d3.1.length cx] 52)
                 have hU6 := hU5.turn (R.below bn) (Mod.of_below bn (· = g)) (fun i _ h => h) hgw hg1
                 have k5 := hU5.B.cell 5
                 simp at k5
                 have rS := rd_newSn y6 ⟨d1.1, d2.1, Ax, d3.1, cx⟩
                 rw [← snF_single] at rS
                 have hLn : L.length + [(⟨d1.1, d2.1, Ax, d3.1, cx⟩ : SnV)].length ≤ 1000000 := by simp only [List.length_singleton]; omega
                 have hbs6 : w1.heap.size + 1 ≤ (y6.alloc (.cells #[.int .i64 d1.1, .int .i64 d2.1, .slice Ax d3.1.length cx] 52)).heap.size := by have := bn.size; have := m2.size; have := m1.size; omega)
              | (with_reducible show wpList _ _ _ _ _ _
                 refine wpList_load_row rfl 52 (.tmp 7) rfl wr.heap.size rfl 52 _ (0, 0) _ hS Try.underlying52 rfl infoSn3 ?_)
              | (at_builtin
                 refine wpList_appSn rfl (.tmp 64) (.tmp 66) rfl (w1.heap.size + 1) v L [⟨d1.1, d2.1, Ax, d3.1, cx⟩] rfl hU6.own _ _ 1 1 rfl rfl rS hLn hbs6 ?_
                 intro v6 y7 o7 e7
                 have hB7 := hU6.B.ext e7 (fun e => by have := (hU6.own.lt _ e).1; omega))
              | (with_reducible show wpList _ _ _ _ _ _
                 refine wpList_fldB rfl 25 (.tmp 68) (.tmp 67) rfl w1.heap.size 5 27 _ v6 rfl rfl (own_one o7) infoS1 hB7 8 rfl (by decide) ?_
                 intro y8 hB8 m8
                 replace hB8 : Blk y8 w1.heap.size 27 #[.int .i64 a1.1, .int .i64 a2.1, .int .i64 a3.1, .int .i64 a5.1, .slice MA a7.1.length mc, v6, .int .i64 a4.1, .int .i64 a6.1] := hB8)
            go_roundw
            case rel =>
              have hx : SnR y6 (UD g w1.heap.size v) ⟨d1.1, d2.1, Ax, d3.1, cx⟩ := ⟨Rd.imp (Rd.mod rx m2 (fun b hb e => by omega)) (fun b _ hb => ⟨by omega, by omega, fun e => by have := (hU.own.lt _ e).2; omega⟩) (by decide), lx, mx⟩
              refine ⟨k + 1, v6, L ++ [⟨d1.1, d2.1, Ax, d3.1, cx⟩], d3.2, by omega, by go_num, by simp; omega, hU6.push ⟨RdI.below hx.1 bn, hx.2⟩ e7 o7 hB8 m8 (fun b hb => hb.1) hg1 hq1, ?_, .inl hN4⟩
              unfold Hid
              rw [HS.out, HS2.out, hr2.out]
              unfold pureS
              rw [List.map_append, List.append_assoc]
              rfl
            case measure => simp [intOf] <;> omega
          · have hb1 : (s.2 != 0) = true := by simp [hs]
            have HS2 : Hid (snapsR N (cntR a8) = (pureS L, s)) := by
              unfold Hid
              rw [HS.out, snapsR_done _ _ hs, List.append_nil]
            clear HS
            go_wp2_with fail
            refine (Err_any g _ s wr hU.R).mono ?_
            rintro e w' ⟨rfl, rfl⟩
            go_wp2_with fail
            go_meet
            case rel => exact ⟨v, L, hL4, by rw [HS2.out]; exact hU, by unfold Hid; rw [HS2.out]⟩
        · have hz : N - k = 0 := by omega
          have HS2 : Hid (snapsR N (cntR a8) = (pureS L, s)) := by
            unfold Hid
            rw [HS.out, hz, snapsR, List.append_nil]
          go_wp2_with fail
          go_meet
          case rel => exact ⟨v, L, hL4, by rw [HS2.out]; exact hU, by unfold Hid; rw [HS2.out]⟩
    case rest =>
      clear hU
      obtain ⟨v, L, hL4, hU, HL⟩ := hcut
      obtain ⟨SA, sc, rfl, lS, mS⟩ := hU.own.form
      go_wp2_with fail
      refine (End_any g _ _ wc hU.R).mono ?_
      rintro e w2 ⟨rfl, R, m⟩
      have hU := hU.turn R m (fun i _ h => h) hgw hg1
      have hB := hU.B
      have hq := hU.q
      have hP : Hid ((⟨a1.1, a2.1, a3.1, a5.1, MA, a7.1, mc, SA, L, sc, a4.1, a6.1⟩ : HdV).p = (unpRead b).1) := by
        unfold Hid HdV.p
        rw [HY.out, ← HL.out]
      have hE : Hid ((unpRead b).2 = (snapsR N (cntR a8)).2) := by unfold Hid; rw [HY.out]
      rw [← hE.out] at *
      have hU0 := hU.hd (u := a1.1) (n := a2.1) (o := a3.1) (size := a5.1) (last := a4.1) (seq := a6.1) (Mod.refl (fun _ => False) _) (fun _ h => h.elim) lm mm lS mS
      have hM := may_p ⟨a1.1, a2.1, a3.1, a5.1, MA, a7.1, mc, SA, L, sc, a4.1, a6.1⟩
      have hck := Check_any6 _ ⟨a1.1, a2.1, a3.1, a5.1, MA, a7.1, mc, SA, L, sc, a4.1, a6.1⟩ w2 hU0
      rw [hM, hP.out] at hck
      clear hM HY hE
      unfold hdV hdA at hck
      dsimp only at hck
      by_cases he : (rEnd (unpRead b).2).2 = 0
      focus
        have he1 : ((rEnd (unpRead b).2).2 != 0) = false := by simp [he]
        cases hmay : mayP (unpRead b).1
        focus
          have hF : Hid (unpP b = (zeroP, 60)) := by unfold Hid unpP; rw [if_pos he, hmay]; rfl
          rw [hmay, show eno false 60 = 60 from rfl] at hck
          clear he hmay
          go_wp2_with first
            | (with_reducible show wpList _ _ _ _ _ _
               refine wpList_load_row rfl 27 (.tmp 5) rfl w1.heap.size rfl 27 _ (0, 0) _ hB Try.underlying27 rfl infoH ?_)
          refine hck.mono ?_
          clear hck
          rintro e w3 ⟨rfl, b3⟩
          have hq3 := hq.below b3
          go_wp2_with first
            | (with_reducible show wpList _ _ _ _ _ _
               refine wpList_rowB rfl 27 (.tmp 2) (.tmp 80) rfl w.heap.size 27 _ hzA rfl rfl hq3 infoH rfl hzA_ok ?_
               intro w4 hq4 m4)
          (try simp only [Exit.inBlock, Exit.then])
          refine bodyPost_ret (results_cell_tmp rfl _ _ w.heap.size _ _ (0, 0) _ rfl hq4 Try.underlying27 rfl infoH) rfl ?_
          rw [hF.out]
          exact ⟨zeroH, rfl, rfl, freshH_rd 0 0 0 0 _ _, (hU.bb.thenB' b3).thenM m4 (hU.bb.thenB' b3).size (fun i hi e => by omega)⟩
        focus
          have hF : Hid (unpP b = ((unpRead b).1, 0)) := by unfold Hid unpP; rw [if_pos he, hmay]; rfl
          rw [hmay, show eno true 60 = 0 from rfl] at hck
          clear he hmay
          go_wp2_with first
            | (with_reducible show wpList _ _ _ _ _ _
               refine wpList_load_row rfl 27 (.tmp 5) rfl w1.heap.size rfl 27 _ (0, 0) _ hB Try.underlying27 rfl infoH ?_)
          refine hck.mono ?_
          clear hck
          rintro e w3 ⟨rfl, b3⟩
          have hq3 := hq.below b3
          have hB3 := hB.below b3
          go_wp2_with first
            | (with_reducible show wpList _ _ _ _ _ _
               refine wpList_load_row rfl 27 (.tmp 5) rfl w1.heap.size rfl 27 _ (0, 0) _ hB3 Try.underlying27 rfl infoH ?_)
            | (with_reducible show wpList _ _ _ _ _ _
               refine wpList_rowB rfl 27 (.tmp 2) (.tmp 82) rfl w.heap.size 27 _ (hdA ⟨a1.1, a2.1, a3.1, a5.1, MA, a7.1, mc, SA, L, sc, a4.1, a6.1⟩) rfl rfl hq3 infoH rfl (hdA_ok _) ?_
               intro w4 hq4 m4)
          (try simp only [Exit.inBlock, Exit.then])
          refine bodyPost_ret (results_cell_tmp rfl _ _ w.heap.size _ _ (0, 0) _ rfl hq4 Try.underlying27 rfl infoH) rfl ?_
          rw [hF.out]
          refine ⟨⟨a1.1, a2.1, a3.1, a5.1, MA, a7.1, mc, SA, L, sc, a4.1, a6.1⟩, rfl, hP.out, ?_, (hU.bb.thenB' b3).thenM m4 (hU.bb.thenB' b3).size (fun i hi e => by omega)⟩
          exact hU.hd ((Mod.of_below b3 (· = w.heap.size)).trans m4) (fun i e => by omega) lm mm lS mS
      focus
        have he1 : ((rEnd (unpRead b).2).2 != 0) = true := by simp [he]
        have hF : Hid (unpP b = (zeroP, (rEnd (unpRead b).2).2)) := by unfold Hid unpP; rw [if_neg he]
        clear he hck
        go_wp2_with first
          | (with_reducible show wpList _ _ _ _ _ _
             refine wpList_rowB rfl 27 (.tmp 2) (.tmp 74) rfl w.heap.size 27 _ hzA rfl rfl hq infoH rfl hzA_ok ?_
             intro w4 hq4 m4)
        (try simp only [Exit.inBlock, Exit.then])
        refine bodyPost_ret (results_cell_tmp rfl _ _ w.heap.size _ _ (0, 0) _ rfl hq4 Try.underlying27 rfl infoH) rfl ?_
        rw [hF.out]
        exact ⟨zeroH, rfl, rfl, freshH_rd 0 0 0 0 _ _, hU.bb.thenM m4 hU.bb.size (fun i hi e => by omega)⟩
end Go.Proofs.Ytpgfhbkggchliaa

/- A head of bytes: the document. -/
namespace Go.Proofs.Ytpgfhbkggchliaa
open Go.RowKit
set_option linter.unusedVariables false

theorem RdR.ext {a c : World} {v x : Value} {g : Nat} {D : Nat → Prop} {s : St} (h : RdR a g D s) (k : Ext a c v x) (hg : v.ownBlock ≠ some g) (hd : ∀ b, D b → v.ownBlock ≠ some b) : RdR c g D s :=
  h.mod (X := fun i => v.ownBlock = some i) (Mod.of_grown k.grown fun i hi => .inl hi) hg hd
/-- What stands at the head of each round. -/
structure ULr (w : World) (g hb : Nat) (D : Nat → Prop) (F : Value → Array Value) (MA : Option Addr) (m : List Int) (wr : World) (s : St) (v : Value) (L : List SnV) : Prop where
  B : Blk wr hb 27 (F v)
  own : OwnSn wr (hb + 1) v L
  sn : ∀ x ∈ L, SnR wr (UD g hb v) x
  R : RdR wr g D s
  rm : RdI wr (UD g hb v) MA m
  q : Blk wr w.heap.size 27 hzA
  bb : Below w.heap.size w wr
/-- One snapshot more behind the row, and its new value in the head's block. -/
theorem ULr.push {w w5 w6 w7 : World} {g hb : Nat} {D : Nat → Prop} {F : Value → Array Value} {MA : Option Addr} {m : List Int} {s : St} {v v' : Value} {L : List SnV} {x : SnV} (h : ULr w g hb D F MA m w5 s v L) (hx : SnR w5 (UD g hb v) x)
    (e : Ext w5 w6 v v') (o : OwnSn w6 (hb + 1) v' (L ++ [x])) (hB : Blk w7 hb 27 (F v')) (m7 : Mod (· = hb) w6 w7) (hD : ∀ b, D b → b < hb) (hg : g < hb) (hq : w.heap.size < hb) :
    ULr w g hb D F MA m w7 s v' (L ++ [x]) := by
  have hv : ∀ i, v.ownBlock = some i → hb + 1 ≤ i := fun i hi => (h.own.lt i hi).1
  have hv' : ∀ i, v'.ownBlock = some i → hb + 1 ≤ i := fun i hi => (o.lt i hi).1
  have sx : ∀ y, SnR w5 (UD g hb v) y → SnR w7 (UD g hb v') y := fun y hy =>
    ((hy.ext e fun b hb => hb.2.2).imp fun b _ hd => ⟨hd.1.1, hd.1.2.1, hd.2⟩).mod m7 fun b hd e => by have := hd.2.1; omega
  refine ⟨hB, o.mod m7 fun i hi e => by have := hv' i hi; omega, fun y hy => ?_, ?_, ?_, ?_, ?_⟩
  · rcases List.mem_append.1 hy with hy | hy
    · exact sx y (h.sn y hy)
    · obtain rfl : y = x := by simpa using hy
      exact sx y hx
  · exact (h.R.ext e (fun e => by have := hv g e; omega) fun b hb e => by have := hv b e; have := hD b hb; omega).mod m7 (fun e => by omega) fun b hb e => by have := hD b hb; omega
  · exact Rd.mod (Rd.imp (RdI.ext h.rm e fun b hb => hb.2.2) (fun b _ hd => ⟨hd.1.1, hd.1.2.1, hd.2⟩) (by decide)) m7 fun b hd e => by have := hd.2.1; omega
  · exact (h.q.ext e fun e => by have := hv _ e; omega).mod m7 fun e => by omega
  · exact (h.bb.trans (e.below h.own (by omega) h.bb.size)).thenM m7 (Nat.le_trans h.bb.size e.grown.size) fun i hi e => by omega
theorem ULr.turn {w w5 w6 : World} {g hb : Nat} {D : Nat → Prop} {F : Value → Array Value} {MA : Option Addr} {m : List Int} {s s' : St} {v : Value} {L : List SnV} {X : Nat → Prop} (h : ULr w g hb D F MA m w5 s v L) (R : RdR w6 g D s') (mm : Mod X w5 w6) (hX : ∀ i, i < w5.heap.size → X i → i = g) (hg : w.heap.size < g) (hgb : g < hb) :
    ULr w g hb D F MA m w6 s' v L := by
  have mm : Mod (· = g) w5 w6 := mm.mono hX
  have hv : ∀ i, v.ownBlock = some i → hb + 1 ≤ i := fun i hi => (h.own.lt i hi).1
  exact ⟨h.B.mod mm (by omega), h.own.mod mm fun i hi e => by have := hv i hi; omega, fun y hy => (h.sn y hy).mod mm fun b hd e => hd.1 e, R, Rd.mod h.rm mm fun b hd e => hd.1 e, h.q.mod mm (by omega), h.bb.thenM mm h.bb.size fun i hi e => by omega⟩
theorem ULr.hd {w w5 w6 : World} {g hb : Nat} {D : Nat → Prop} {F : Value → Array Value} {MA SA : Option Addr} {m : List Int} {mc sc : Nat} {s : St} {L : List SnV} {X : Nat → Prop} {u n o size last seq : Int} (h : ULr w g hb D F MA m w5 s (.slice SA L.length sc) L) (m6 : Mod X w5 w6) (hX : ∀ i, X i → i < hb)
    (lm : m.length ≤ mc) (mm : mc ≤ 9223372036854775807) (lS : L.length ≤ sc) (mS : sc ≤ maxLen) : HdR w6 (fun _ => True) ⟨u, n, o, size, MA, m, mc, SA, L, sc, last, seq⟩ := by
  have h1 : RdI w6 (fun b => hb < b) MA m := Rd.mod (Rd.imp h.rm (fun b _ hd => hd.2.1) (by decide)) m6 fun b hd hx => by have := hX b hx; omega
  have h2 : RdL w6 (fun b => hb < b) 3 snC SA L := ((h.own.rd).imp (D' := fun b => hb < b) snC_pos fun b _ hb => (h.own.lt b hb).1).mod m6 fun b hd hx => by have := hX b hx; omega
  refine ⟨Rd.imp h1 (fun _ _ _ => trivial) (by decide), lm, mm, h2.imp snC_pos fun _ _ _ => trivial, lS, by unfold maxLen at mS; dsimp only; omega, fun s hs => ?_⟩
  have h3 : SnR w6 (fun b => hb < b) s := ((h.sn s hs).imp fun b _ hd => hd.2.1).mod m6 fun b hd hx => by have := hX b hx; omega
  exact h3.imp fun _ _ _ => trivial
set_option maxHeartbeats 8000000 in
set_option maxRecDepth 100000 in
theorem rUnpack_any6 (D : Nat → Prop) (A : Option Addr) (c : Nat) (b : List UInt8) (w : World) (h : RdB w D A b) (hc : b.length ≤ c) (hm : c ≤ 9223372036854775807) :
    Calls Try.prog 22 #[.slice A b.length c] w fun e w' => ∃ h' : HdV, e = .returned (.tuple #[hdV h', .int .i64 (unpP b).2]) ∧ h'.p = (unpP b).1 ∧ HdR w' (fun _ => True) h' ∧ Below w.heap.size w w' := by
  have bb := below_new w (.cells hzA 27)
  have q := Blk.new w 27 hzA
  have hsz : (w.alloc (.cells hzA 27)).heap.size = w.heap.size + 1 := Array.size_push ..
  have b1 := below_new (w.alloc (.cells hzA 27)) (.cells #[.slice A b.length c, .int .i64 0] 66)
  have r1 := Blk.new (w.alloc (.cells hzA 27)) 66 #[.slice A b.length c, .int .i64 0]
  have q := q.below b1
  rw [hsz] at r1
  have R : RdR _ (w.heap.size + 1) (fun b => b < w.heap.size) (b, 0) := ⟨A, c, r1, RdB.below (RdB.below (Rd.imp h (fun b hb _ => hb) (by decide)) bb) b1, hc, hm, by omega⟩
  have hs1 : ((w.alloc (.cells hzA 27)).alloc (.cells #[.slice A b.length c, .int .i64 0] 66)).heap.size = w.heap.size + 1 + 1 := by rw [← hsz]; exact Array.size_push ..
  have bb := bb.thenB' b1
  clear b1 r1 hsz h
  unfold hzA at *
  go_enter Try.func22, Try.ntmps22
  go_wp2_with fail
  rw [← hs1]
  generalize (w.alloc (.cells #[.int .i64 0, .int .i64 0, .int .i64 0, .int .i64 0, .slice none 0 0, .slice none 0 0, .int .i64 0, .int .i64 0] 27)).alloc (.cells #[.slice A b.length c, .int .i64 0] 66) = w1 at *
  generalize hg : w.heap.size + 1 = g at *
  have R : RdR w1 g (fun b => b < w1.heap.size ∧ b ≠ g) (b, 0) := R.imp (fun b hb hd => ⟨hb, by omega⟩) (fun e => e.2 rfl)
  have hg1 : g < w1.heap.size := R.lt
  have hq1 : w.heap.size < w1.heap.size := q.lt
  have hgq : g ≠ w.heap.size := by omega
  have hbg : w1.heap.size ≠ g := by omega
  have hbq : w1.heap.size ≠ w.heap.size := by omega
  have hDb : ∀ b, b < w1.heap.size ∧ b ≠ g → b ≠ w1.heap.size := fun b hb e => by omega
  have hg : w.heap.size + 1 ≤ g := by omega
  clear hs1
  have bn := below_new w1 (.cells #[.int .i64 0, .int .i64 0, .int .i64 0, .int .i64 0, .slice none 0 0, .slice none 0 0, .int .i64 0, .int .i64 0] 27)
  have hB0 := Blk.new w1 27 #[.int .i64 0, .int .i64 0, .int .i64 0, .int .i64 0, .slice none 0 0, .slice none 0 0, .int .i64 0, .int .i64 0]
  have R := R.below bn
  have q := q.below bn
  have bb := bb.thenB' bn
  have hB := hB0
  clear hB0 bn

  refine (rNum_any g (fun b => b < w1.heap.size ∧ b ≠ g) (b, 0) 1 _ R).mono ?_
  rintro e w3 ⟨rfl, R, m3⟩
  generalize ha1 : rNum 1 (b, 0) = a1 at *
  have Y1 := Lib.hid ha1
  clear ha1
  have hB := hB.mod m3 hbg
  have q := q.mod m3 (fun e => hgq e.symm)
  have bb := bb.thenM m3 bb.size (fun i hi e => by omega)
  clear m3
  go_wp2_with first
    | (with_reducible show wpList _ _ _ _ _ _
       refine wpList_fldB rfl 3 (.tmp 17) (.tmp 15) rfl w1.heap.size 0 27 _ (.int .i64 a1.1) rfl rfl rfl infoI1 hB 8 rfl (by decide) ?_
       intro w4 hB m4
       replace hB : Blk w4 w1.heap.size 27 #[.int .i64 a1.1, .int .i64 0, .int .i64 0, .int .i64 0, .slice none 0 0, .slice none 0 0, .int .i64 0, .int .i64 0] := hB)
  have R := R.mod m4 (fun e => hbg e.symm) hDb
  have q := q.mod m4 (fun e => hbq e.symm)
  have bb := bb.thenM m4 bb.size (fun i hi e => by omega)
  clear m4
  refine (rNum_any g (fun b => b < w1.heap.size ∧ b ≠ g) a1.2 1 _ R).mono ?_
  rintro e w5 ⟨rfl, R, m5⟩
  generalize ha2 : rNum 1 a1.2 = a2 at *
  have Y2 := Lib.hid ha2
  clear ha2
  have hB := hB.mod m5 hbg
  have q := q.mod m5 (fun e => hgq e.symm)
  have bb := bb.thenM m5 bb.size (fun i hi e => by omega)
  clear m5
  go_wp2_with first
    | (with_reducible show wpList _ _ _ _ _ _
       refine wpList_fldB rfl 3 (.tmp 21) (.tmp 19) rfl w1.heap.size 1 27 _ (.int .i64 a2.1) rfl rfl rfl infoI1 hB 8 rfl (by decide) ?_
       intro w6 hB m6
       replace hB : Blk w6 w1.heap.size 27 #[.int .i64 a1.1, .int .i64 a2.1, .int .i64 0, .int .i64 0, .slice none 0 0, .slice none 0 0, .int .i64 0, .int .i64 0] := hB)
  have R := R.mod m6 (fun e => hbg e.symm) hDb
  have q := q.mod m6 (fun e => hbq e.symm)
  have bb := bb.thenM m6 bb.size (fun i hi e => by omega)
  clear m6
  refine (rNum_any g (fun b => b < w1.heap.size ∧ b ≠ g) a2.2 1 _ R).mono ?_
  rintro e w7 ⟨rfl, R, m7⟩
  generalize ha3 : rNum 1 a2.2 = a3 at *
  have Y3 := Lib.hid ha3
  clear ha3
  have hB := hB.mod m7 hbg
  have q := q.mod m7 (fun e => hgq e.symm)
  have bb := bb.thenM m7 bb.size (fun i hi e => by omega)
  clear m7
  go_wp2_with first
    | (with_reducible show wpList _ _ _ _ _ _
       refine wpList_fldB rfl 3 (.tmp 25) (.tmp 23) rfl w1.heap.size 2 27 _ (.int .i64 a3.1) rfl rfl rfl infoI1 hB 8 rfl (by decide) ?_
       intro w8 hB m8
       replace hB : Blk w8 w1.heap.size 27 #[.int .i64 a1.1, .int .i64 a2.1, .int .i64 a3.1, .int .i64 0, .slice none 0 0, .slice none 0 0, .int .i64 0, .int .i64 0] := hB)
  have R := R.mod m8 (fun e => hbg e.symm) hDb
  have q := q.mod m8 (fun e => hbq e.symm)
  have bb := bb.thenM m8 bb.size (fun i hi e => by omega)
  clear m8
  refine (rNum_any g (fun b => b < w1.heap.size ∧ b ≠ g) a3.2 1 _ R).mono ?_
  rintro e w9 ⟨rfl, R, m9⟩
  generalize ha4 : rNum 1 a3.2 = a4 at *
  have Y4 := Lib.hid ha4
  clear ha4
  have hB := hB.mod m9 hbg
  have q := q.mod m9 (fun e => hgq e.symm)
  have bb := bb.thenM m9 bb.size (fun i hi e => by omega)
  clear m9
  go_wp2_with first
    | (with_reducible show wpList _ _ _ _ _ _
       refine wpList_fldB rfl 3 (.tmp 28) (.tmp 27) rfl w1.heap.size 6 27 _ (.int .i64 a4.1) rfl rfl rfl infoI1 hB 8 rfl (by decide) ?_
       intro w10 hB m10
       replace hB : Blk w10 w1.heap.size 27 #[.int .i64 a1.1, .int .i64 a2.1, .int .i64 a3.1, .int .i64 0, .slice none 0 0, .slice none 0 0, .int .i64 a4.1, .int .i64 0] := hB)
  have R := R.mod m10 (fun e => hbg e.symm) hDb
  have q := q.mod m10 (fun e => hbq e.symm)
  have bb := bb.thenM m10 bb.size (fun i hi e => by omega)
  clear m10
  refine (rNum_any g (fun b => b < w1.heap.size ∧ b ≠ g) a4.2 2 _ R).mono ?_
  rintro e w11 ⟨rfl, R, m11⟩
  generalize ha5 : rNum 2 a4.2 = a5 at *
  have Y5 := Lib.hid ha5
  clear ha5
  have hB := hB.mod m11 hbg
  have q := q.mod m11 (fun e => hgq e.symm)
  have bb := bb.thenM m11 bb.size (fun i hi e => by omega)
  clear m11
  go_wp2_with first
    | (with_reducible show wpList _ _ _ _ _ _
       refine wpList_fldB rfl 3 (.tmp 31) (.tmp 30) rfl w1.heap.size 3 27 _ (.int .i64 a5.1) rfl rfl rfl infoI1 hB 8 rfl (by decide) ?_
       intro w12 hB m12
       replace hB : Blk w12 w1.heap.size 27 #[.int .i64 a1.1, .int .i64 a2.1, .int .i64 a3.1, .int .i64 a5.1, .slice none 0 0, .slice none 0 0, .int .i64 a4.1, .int .i64 0] := hB)
  have R := R.mod m12 (fun e => hbg e.symm) hDb
  have q := q.mod m12 (fun e => hbq e.symm)
  have bb := bb.thenM m12 bb.size (fun i hi e => by omega)
  clear m12
  refine (rNum_any g (fun b => b < w1.heap.size ∧ b ≠ g) a5.2 6 _ R).mono ?_
  rintro e w13 ⟨rfl, R, m13⟩
  generalize ha6 : rNum 6 a5.2 = a6 at *
  have Y6 := Lib.hid ha6
  clear ha6
  have hB := hB.mod m13 hbg
  have q := q.mod m13 (fun e => hgq e.symm)
  have bb := bb.thenM m13 bb.size (fun i hi e => by omega)
  clear m13
  go_wp2_with first
    | (with_reducible show wpList _ _ _ _ _ _
       refine wpList_fldB rfl 3 (.tmp 34) (.tmp 33) rfl w1.heap.size 7 27 _ (.int .i64 a6.1) rfl rfl rfl infoI1 hB 8 rfl (by decide) ?_
       intro w14 hB m14
       replace hB : Blk w14 w1.heap.size 27 #[.int .i64 a1.1, .int .i64 a2.1, .int .i64 a3.1, .int .i64 a5.1, .slice none 0 0, .slice none 0 0, .int .i64 a4.1, .int .i64 a6.1] := hB)
  have R := R.mod m14 (fun e => hbg e.symm) hDb
  have q := q.mod m14 (fun e => hbq e.symm)
  have bb := bb.thenM m14 bb.size (fun i hi e => by omega)
  clear m14
  refine (rtable_any g (fun b => b < w1.heap.size ∧ b ≠ g) a6.2 _ R).mono ?_
  rintro e w15 ⟨MA, mc, rfl, rm, lm, mm, R, m15⟩
  have hbl := hB.lt
  have rm : RdI w15 (fun b => b ≠ g ∧ w1.heap.size < b) MA _ := Rd.imp rm (fun b _ hb => by have := Nat.lt_of_lt_of_le hbl hb; exact ⟨by omega, this⟩) (by decide)
  generalize ha7 : tabO a6.2 = a7 at *
  have Y7 := Lib.hid ha7
  clear ha7
  have hB := hB.mod m15 hbg
  have q := q.mod m15 (fun e => hgq e.symm)
  have bb := bb.thenM m15 bb.size (fun i hi e => by omega)
  clear m15
  go_wp2_with first
    | (with_reducible show wpList _ _ _ _ _ _
       refine wpList_fldB rfl 24 (.tmp 37) (.tmp 36) rfl w1.heap.size 4 27 _ (.slice MA a7.1.length mc) rfl rfl rfl infoM1 hB 8 rfl (by decide) ?_
       intro w16 hB m16
       replace hB : Blk w16 w1.heap.size 27 #[.int .i64 a1.1, .int .i64 a2.1, .int .i64 a3.1, .int .i64 a5.1, .slice MA a7.1.length mc, .slice none 0 0, .int .i64 a4.1, .int .i64 a6.1] := hB)
  have R := R.mod m16 (fun e => hbg e.symm) hDb
  have q := q.mod m16 (fun e => hbq e.symm)
  have bb := bb.thenM m16 bb.size (fun i hi e => by omega)
  have rm := Rd.mod rm m16 (fun b hb e => by omega)
  clear m16
  refine (rNum_any g (fun b => b < w1.heap.size ∧ b ≠ g) a7.2 1 _ R).mono ?_
  rintro e w17 ⟨rfl, R, m17⟩
  generalize ha8 : rNum 1 a7.2 = a8 at *
  have Y8 := Lib.hid ha8
  clear ha8
  have hB := hB.mod m17 hbg
  have q := q.mod m17 (fun e => hgq e.symm)
  have bb := bb.thenM m17 bb.size (fun i hi e => by omega)
  have rm := Rd.mod rm m17 (fun b hb e => hb.1 e)
  clear m17
  have hcnt := cntR_ok a8
  have ha8 : 0 ≤ a8.1 ∧ a8.1 ≤ 255 := by
    have h1 := rNum1_bd a7.2
    rw [Y8.out] at h1
    exact h1
  obtain ⟨N, hN⟩ : ∃ N : Nat, a8.1 = (N : Int) := ⟨a8.1.toNat, by omega⟩
  have hN5 : N ≤ 255 := by omega
  have Y9 : Hid (snapsR a8.1.toNat (cntR a8) = snapsR N (cntR a8)) := by unfold Hid; rw [hN]; rfl
  go_upto_if 41 with fail
  go_cut [] from 41 to 43 (fun wx => RdR wx g (fun b => b < w1.heap.size ∧ b ≠ g) (cntR a8) ∧ Mod (· = g) w17 wx)
  case first =>
    by_cases h4 : (4 : Int) < (N : Int)
    · have e : Hid (cntR a8 = rFail 11 a8.2) := by unfold Hid cntR; rw [if_pos (by omega)]
      go_wp2_with fail
      refine (rFail_any g _ a8.2 11 _ R).mono ?_
      rintro e wx ⟨rfl, R, m⟩
      go_wp2_with fail
      go_meet
      case rel => exact ⟨by rw [e.out]; exact R, m⟩
    · have e : Hid (cntR a8 = a8.2) := by unfold Hid cntR; rw [if_neg (by omega)]
      go_wp2_with fail
      go_meet
      case rel => exact ⟨by rw [e.out]; exact R, Mod.refl _ _⟩
  case rest =>
    obtain ⟨R, m⟩ := hcut
    have hq2 := q.mod m (fun e => hgq e.symm)
    have hB2 := hB.mod m hbg
    have bb2 := bb.thenM m bb.size (fun i hi e => by omega)
    have rm2 := Rd.mod rm m (fun b hb e => hb.1 e)
    have hU : ULr w g w1.heap.size (fun b => b < w1.heap.size ∧ b ≠ g) (fun v => #[.int .i64 a1.1, .int .i64 a2.1, .int .i64 a3.1, .int .i64 a5.1, .slice MA a7.1.length mc, v, .int .i64 a4.1, .int .i64 a6.1]) MA a7.1 wc (cntR a8) (.slice none 0 0) [] :=
      ⟨hB2, OwnSn.nil, fun x hx => by simp at hx, R, Rd.imp rm2 (fun b _ hd => ⟨hd.1, hd.2, by simp [Value.ownBlock]⟩) (by decide), hq2, bb2⟩
    clear hq2 hB2 bb2 rm2 R m hB q bb rm
    have HY : Hid (unpRead b = (⟨a1.1, a2.1, a3.1, a5.1, a7.1, (snapsR N (cntR a8)).1, a4.1, a6.1⟩, (snapsR N (cntR a8)).2)) := by
      unfold Hid
      rw [← Y9.out]
      unfold unpRead
      simp only [Y1.out, Y2.out, Y3.out, Y4.out, Y5.out, Y6.out, Y7.out, Y8.out]
    clear Y1 Y2 Y3 Y4 Y5 Y6 Y7 Y8 Y9
    have hgw : w.heap.size < g := by omega
    go_upto_block 0 with fail
    go_cut [7, 8] from 44 to 70 (fun s7 s8 wx => ∃ (v : Value) (L : List SnV), L.length ≤ 4 ∧ ULr w g w1.heap.size (fun b => b < w1.heap.size ∧ b ≠ g) (fun v => #[.int .i64 a1.1, .int .i64 a2.1, .int .i64 a3.1, .int .i64 a5.1, .slice MA a7.1.length mc, v, .int .i64 a4.1, .int .i64 a6.1]) MA a7.1 wx (snapsR N (cntR a8)).2 v L ∧ Hid (pureS L = (snapsR N (cntR a8)).1))
    case first =>
      go_wp2_with fail
      go_loopw [7, 8] (fun i s8 wr => ∃ (k : Nat) (v : Value) (L : List SnV) (s : St), k ≤ N ∧ i = .int .i64 (k : Int) ∧ (L.length ≤ k ∧ L.length ≤ 4) ∧ ULr w g w1.heap.size (fun b => b < w1.heap.size ∧ b ≠ g) (fun v => #[.int .i64 a1.1, .int .i64 a2.1, .int .i64 a3.1, .int .i64 a5.1, .slice MA a7.1.length mc, v, .int .i64 a4.1, .int .i64 a6.1]) MA a7.1 wr s v L ∧ Hid (snapsR N (cntR a8) = (pureS L ++ (snapsR (N - k) s).1, (snapsR (N - k) s).2)) ∧ (N ≤ 4 ∨ s.2 ≠ 0)) (fun i _ _ => N - (intOf i).toNat)
      case atStart => exact ⟨0, _, [], cntR a8, Nat.zero_le _, rfl, ⟨Nat.le_refl _, by decide⟩, hU, Lib.hid rfl, by omega⟩
      case round =>
        clear hU
        obtain ⟨k, v, L, s, hk, rfl, ⟨hLk, hL4⟩, hU, HS, hN4⟩ := hrel
        obtain ⟨A0, q0, hBr, _⟩ := id hU.R
        have r1 := hBr.cell 1
        simp at r1
        by_cases hlt : k < N
        · by_cases hs : s.2 = 0
          · have hN4 : N ≤ 4 := by omega
            have hb1 : (s.2 == 0) = true := by simp [hs]
            obtain ⟨r, hr⟩ : ∃ r, N - k = r + 1 := ⟨N - k - 1, by omega⟩
            have HS2 : Hid (snapsR (N - k) s = (((rNum 1 s).1, (rNum 2 (rNum 1 s).2).1, (tabO (rNum 2 (rNum 1 s).2).2).1) :: (snapsR r (tabO (rNum 2 (rNum 1 s).2).2).2).1, (snapsR r (tabO (rNum 2 (rNum 1 s).2).2).2).2)) := by
              unfold Hid
              rw [hr, snapsR, if_pos hs]
            have hr2 : Hid (N - (k + 1) = r) := by unfold Hid; omega
            have R := hU.R
            have hB := hU.B
            have hbl := hB.lt
            clear hs hr
            have bn := below_new wr (.cells #[.int .i64 0, .int .i64 0, .slice none 0 0] 52)
            have hS := Blk.new wr 52 #[.int .i64 0, .int .i64 0, .slice none 0 0]
            have hN := rNum_any g _ s 1 _ (R.below bn)
            have mm : Mod (· = g) wr _ := Mod.of_below bn _
            have hgl := R.lt
            have hsg : wr.heap.size ≠ g := by omega
            have hsD : ∀ b, b < w1.heap.size ∧ b ≠ g → b ≠ wr.heap.size := fun b hb e => by omega
            go_wp2_with fail
            refine hN.mono ?_
            clear hN R bn
            rintro e y1 ⟨rfl, R, m1⟩
            generalize hd1 : rNum 1 s = d1 at *
            clear hd1
            have hS := hS.mod m1 hsg
            have mm := mm.trans m1
            go_wp2_with first
              | (with_reducible show wpList _ _ _ _ _ _
                 refine wpList_fldB rfl 3 (.tmp 58) (.tmp 57) rfl wr.heap.size 0 52 _ (.int .i64 d1.1) rfl rfl rfl infoI1 hS 3 rfl (by decide) ?_
                 intro y2 hS m2
                 replace hS : Blk y2 wr.heap.size 52 #[.int .i64 d1.1, .int .i64 0, .slice none 0 0] := hS)
            have R := R.mod m2 (fun e => hsg e.symm) hsD
            have mm := mm.then_ m2 (fun i hi e => by omega)
            refine (rNum_any g _ d1.2 2 _ R).mono ?_
            clear R m1 m2
            rintro e y3 ⟨rfl, R, m1⟩
            generalize hd2 : rNum 2 d1.2 = d2 at *
            clear hd2
            have hS := hS.mod m1 hsg
            have mm := mm.trans m1
            go_wp2_with first
              | (with_reducible show wpList _ _ _ _ _ _
                 refine wpList_fldB rfl 3 (.tmp 61) (.tmp 60) rfl wr.heap.size 1 52 _ (.int .i64 d2.1) rfl rfl rfl infoI1 hS 3 rfl (by decide) ?_
                 intro y4 hS m2
                 replace hS : Blk y4 wr.heap.size 52 #[.int .i64 d1.1, .int .i64 d2.1, .slice none 0 0] := hS)
            have R := R.mod m2 (fun e => hsg e.symm) hsD
            have mm := mm.then_ m2 (fun i hi e => by omega)
            have hsl := hS.lt
            have hyl := mm.size
            refine (rtable_any g _ d2.2 _ R).mono ?_
            clear R m1 m2
            rintro e y5 ⟨Ax, cx, rfl, rx, lx, mx, R, m1⟩
            generalize hd3 : tabO d2.2 = d3 at *
            clear hd3
            have hS := hS.mod m1 hsg
            have mm := mm.trans m1
            go_wp2_with first
              | (with_reducible show wpList _ _ _ _ _ _
                 refine wpList_fldB rfl 24 (.tmp 64) (.tmp 63) rfl wr.heap.size 2 52 _ (.slice Ax d3.1.length cx) rfl rfl rfl infoM1 hS 3 rfl (by decide) ?_
                 intro y6 hS m2
                 replace hS : Blk y6 wr.heap.size 52 #[.int .i64 d1.1, .int .i64 d2.1, .slice Ax d3.1.length cx] := hS
                 have R := R.mod m2 (fun e => hsg e.symm) hsD
                 have mm := mm.then_ m2 (fun i hi e => by omega)
                 have hU5 := hU.turn R mm (fun i _ h => h) hgw hg1
                 have bn := below_new y6 (.cells #[.int .i64 d1.1, .int .i64 d2.1, .slice Ax d3.1.length cx] 52)
                 have hU6 := hU5.turn (R.below bn) (Mod.of_below bn (· = g)) (fun i _ h => h) hgw hg1
                 have k5 := hU5.B.cell 5
                 simp at k5
                 have rS := rd_newSn y6 ⟨d1.1, d2.1, Ax, d3.1, cx⟩
                 rw [← snF_single] at rS
                 have hLn : L.length + [(⟨d1.1, d2.1, Ax, d3.1, cx⟩ : SnV)].length ≤ 1000000 := by simp only [List.length_singleton]; omega
                 have hbs6 : w1.heap.size + 1 ≤ (y6.alloc (.cells #[.int .i64 d1.1, .int .i64 d2.1, .slice Ax d3.1.length cx] 52)).heap.size := by have := bn.size; have := m2.size; have := m1.size; omega)
              | (with_reducible show wpList _ _ _ _ _ _
                 refine wpList_load_row rfl 52 (.tmp 8) rfl wr.heap.size rfl 52 _ (0, 0) _ hS Try.underlying52 rfl infoSn3 ?_)
              | (at_builtin
                 refine wpList_appSn rfl (.tmp 66) (.tmp 68) rfl (w1.heap.size + 1) v L [⟨d1.1, d2.1, Ax, d3.1, cx⟩] rfl hU6.own _ _ 1 1 rfl rfl rS hLn hbs6 ?_
                 intro v6 y7 o7 e7
                 have hB7 := hU6.B.ext e7 (fun e => by have := (hU6.own.lt _ e).1; omega))
              | (with_reducible show wpList _ _ _ _ _ _
                 refine wpList_fldB rfl 25 (.tmp 70) (.tmp 69) rfl w1.heap.size 5 27 _ v6 rfl rfl (own_one o7) infoS1 hB7 8 rfl (by decide) ?_
                 intro y8 hB8 m8
                 replace hB8 : Blk y8 w1.heap.size 27 #[.int .i64 a1.1, .int .i64 a2.1, .int .i64 a3.1, .int .i64 a5.1, .slice MA a7.1.length mc, v6, .int .i64 a4.1, .int .i64 a6.1] := hB8)
            go_roundw
            case rel =>
              have hx : SnR y6 (UD g w1.heap.size v) ⟨d1.1, d2.1, Ax, d3.1, cx⟩ := ⟨Rd.imp (Rd.mod rx m2 (fun b hb e => by omega)) (fun b _ hb => ⟨by omega, by omega, fun e => by have := (hU.own.lt _ e).2; omega⟩) (by decide), lx, mx⟩
              refine ⟨k + 1, v6, L ++ [⟨d1.1, d2.1, Ax, d3.1, cx⟩], d3.2, by omega, by go_num, by simp; omega, hU6.push ⟨RdI.below hx.1 bn, hx.2⟩ e7 o7 hB8 m8 (fun b hb => hb.1) hg1 hq1, ?_, .inl hN4⟩
              unfold Hid
              rw [HS.out, HS2.out, hr2.out]
              unfold pureS
              rw [List.map_append, List.append_assoc]
              rfl
            case measure => simp [intOf] <;> omega
          · have hb1 : (s.2 == 0) = false := by simp [hs]
            have HS2 : Hid (snapsR N (cntR a8) = (pureS L, s)) := by
              unfold Hid
              rw [HS.out, snapsR_done _ _ hs, List.append_nil]
            clear HS
            go_wp2_with fail
            go_meet
            case rel => exact ⟨v, L, hL4, by rw [HS2.out]; exact hU, by unfold Hid; rw [HS2.out]⟩
        · have hz : N - k = 0 := by omega
          have HS2 : Hid (snapsR N (cntR a8) = (pureS L, s)) := by
            unfold Hid
            rw [HS.out, hz, snapsR, List.append_nil]
          go_wp2_with fail
          go_meet
          case rel => exact ⟨v, L, hL4, by rw [HS2.out]; exact hU, by unfold Hid; rw [HS2.out]⟩
    case rest =>
      clear hU
      obtain ⟨v, L, hL4, hU, HL⟩ := hcut
      obtain ⟨SA, sc, rfl, lS, mS⟩ := hU.own.form
      go_wp2_with fail
      refine (rEnd_any g _ _ wc hU.R).mono ?_
      rintro e w2 ⟨rfl, R, m⟩
      have hU := hU.turn R m (fun i _ h => h) hgw hg1
      have hB := hU.B
      have hq := hU.q
      have hP : Hid ((⟨a1.1, a2.1, a3.1, a5.1, MA, a7.1, mc, SA, L, sc, a4.1, a6.1⟩ : HdV).p = (unpRead b).1) := by
        unfold Hid HdV.p
        rw [HY.out, ← HL.out]
      have hE : Hid ((unpRead b).2 = (snapsR N (cntR a8)).2) := by unfold Hid; rw [HY.out]
      rw [← hE.out] at *
      have hU0 := hU.hd (u := a1.1) (n := a2.1) (o := a3.1) (size := a5.1) (last := a4.1) (seq := a6.1) (Mod.refl (fun _ => False) _) (fun _ h => h.elim) lm mm lS mS
      have hM := may_p ⟨a1.1, a2.1, a3.1, a5.1, MA, a7.1, mc, SA, L, sc, a4.1, a6.1⟩
      have hck := rMay_any _ ⟨a1.1, a2.1, a3.1, a5.1, MA, a7.1, mc, SA, L, sc, a4.1, a6.1⟩ w2 hU0
      rw [hM, hP.out] at hck
      clear hM HY hE
      unfold hdV hdA at hck
      dsimp only at hck
      by_cases he : (rEnd (unpRead b).2).2 = 0
      focus
        have he1 : ((rEnd (unpRead b).2).2 != 0) = false := by simp [he]
        cases hmay : mayP (unpRead b).1
        focus
          have hF : Hid (unpP b = (zeroP, 60)) := by unfold Hid unpP; rw [if_pos he, hmay]; rfl
          rw [hmay] at hck
          clear he hmay
          go_wp2_with first
            | (with_reducible show wpList _ _ _ _ _ _
               refine wpList_load_row rfl 27 (.tmp 5) rfl w1.heap.size rfl 27 _ (0, 0) _ hB Try.underlying27 rfl infoH ?_)
          refine hck.mono ?_
          clear hck
          rintro e w3 ⟨rfl, b3⟩
          have hq3 := hq.below b3
          go_wp2_with first
            | (with_reducible show wpList _ _ _ _ _ _
               refine wpList_rowB rfl 27 (.tmp 2) (.tmp 81) rfl w.heap.size 27 _ hzA rfl rfl hq3 infoH rfl hzA_ok ?_
               intro w4 hq4 m4)
          (try simp only [Exit.inBlock, Exit.then])
          refine bodyPost_ret (results_cell_tmp rfl _ _ w.heap.size _ _ (0, 0) _ rfl hq4 Try.underlying27 rfl infoH) rfl ?_
          rw [hF.out]
          exact ⟨zeroH, rfl, rfl, freshH_rd 0 0 0 0 _ _, (hU.bb.thenB' b3).thenM m4 (hU.bb.thenB' b3).size (fun i hi e => by omega)⟩
        focus
          have hF : Hid (unpP b = ((unpRead b).1, 0)) := by unfold Hid unpP; rw [if_pos he, hmay]; rfl
          rw [hmay] at hck
          clear he hmay
          go_wp2_with first
            | (with_reducible show wpList _ _ _ _ _ _
               refine wpList_load_row rfl 27 (.tmp 5) rfl w1.heap.size rfl 27 _ (0, 0) _ hB Try.underlying27 rfl infoH ?_)
          refine hck.mono ?_
          clear hck
          rintro e w3 ⟨rfl, b3⟩
          have hq3 := hq.below b3
          have hB3 := hB.below b3
          go_wp2_with first
            | (with_reducible show wpList _ _ _ _ _ _
               refine wpList_load_row rfl 27 (.tmp 5) rfl w1.heap.size rfl 27 _ (0, 0) _ hB3 Try.underlying27 rfl infoH ?_)
            | (with_reducible show wpList _ _ _ _ _ _
               refine wpList_rowB rfl 27 (.tmp 2) (.tmp 82) rfl w.heap.size 27 _ (hdA ⟨a1.1, a2.1, a3.1, a5.1, MA, a7.1, mc, SA, L, sc, a4.1, a6.1⟩) rfl rfl hq3 infoH rfl (hdA_ok _) ?_
               intro w4 hq4 m4)
          (try simp only [Exit.inBlock, Exit.then])
          refine bodyPost_ret (results_cell_tmp rfl _ _ w.heap.size _ _ (0, 0) _ rfl hq4 Try.underlying27 rfl infoH) rfl ?_
          rw [hF.out]
          refine ⟨⟨a1.1, a2.1, a3.1, a5.1, MA, a7.1, mc, SA, L, sc, a4.1, a6.1⟩, rfl, hP.out, ?_, (hU.bb.thenB' b3).thenM m4 (hU.bb.thenB' b3).size (fun i hi e => by omega)⟩
          exact hU.hd ((Mod.of_below b3 (· = w.heap.size)).trans m4) (fun i e => by omega) lm mm lS mS
      focus
        have he1 : ((rEnd (unpRead b).2).2 != 0) = true := by simp [he]
        have hF : Hid (unpP b = (zeroP, (rEnd (unpRead b).2).2)) := by unfold Hid unpP; rw [if_neg he]
        clear he hck
        go_wp2_with first
          | (with_reducible show wpList _ _ _ _ _ _
             refine wpList_rowB rfl 27 (.tmp 2) (.tmp 75) rfl w.heap.size 27 _ hzA rfl rfl hq infoH rfl hzA_ok ?_
             intro w4 hq4 m4)
        (try simp only [Exit.inBlock, Exit.then])
        refine bodyPost_ret (results_cell_tmp rfl _ _ w.heap.size _ _ (0, 0) _ rfl hq4 Try.underlying27 rfl infoH) rfl ?_
        rw [hF.out]
        exact ⟨zeroH, rfl, rfl, freshH_rd 0 0 0 0 _ _, hU.bb.thenM m4 hU.bb.size (fun i hi e => by omega)⟩
end Go.Proofs.Ytpgfhbkggchliaa
