/- A message more in a net, and one less: what becomes of the memory. -/
import Derived.Test.YtpfbiamgnmbhnaaNt3
namespace Go.Proofs.Ytpfbiamgnmbhnaa
open Go.RowKit
set_option linter.unusedVariables false
set_option maxRecDepth 100000

section
variable {w w' : World} {base : Nat} {v v' : Value} {vs : List Value}
theorem Ext.low_ {a c : World} {u x : Value} (h : a.grownBy c none) (hx : ∀ k, x.ownBlock = some k → a.heap.size ≤ k) : Ext a c u x := ⟨⟨h.os, h.tape, h.output, h.size, fun k hk _ => h.block k hk (by simp)⟩, .inr hx⟩
/-- One more slice behind a bag's row. -/
theorem BagO.append1 (h : BagO w base v vs) (u : Value) (hu : u.oneCell' = true) (A : Option Addr) (c : Nat) (D : Nat → Prop) (hr : Rd w D 1 A 1 [u]) (hlen : vs.length ≤ 1000000) (hb : base ≤ w.heap.size) (ty : TypeId) :
    ∃ v' w', (Builtin.append_ #[55, 55] ty #[v, .slice A 1 c]).run Try.prog w = .ok v' w' ∧ OwnS w' base v' (vs ++ [u]) ∧ Ext w w' v v' := by
  have h1 : ∀ x ∈ [u], x.oneCell' = true := by simpa using hu
  have go : OwnS w base v vs → ∃ v' w', (Builtin.append_ #[55, 55] ty #[v, .slice A 1 c]).run Try.prog w = .ok v' w' ∧ OwnS w' base v' (vs ++ [u]) ∧ Ext w w' v v' := fun ho => by
    obtain ⟨v', w', hrun, h2, h3, h4⟩ := run_app w base 55 ty 27 (.slice none 0 0) 1 24 Try.underlying55 infoS rfl (by decide) v _ _ ho D A _ c _ hr h1 (by unfold maxLen; omega) (by omega) hb
    exact ⟨v', w', hrun, by unfold OwnS; rw [List.length_append]; exact h2, ⟨h3, h4.imp id fun e k hk => by rw [e] at hk; injection hk with hk; omega⟩⟩
  rcases id h with ⟨rfl, rfl⟩ | ⟨g, cap, cs, rfl, hg, hB, hc, hm, ht, hs⟩
  · exact go (World.ownsRow_nil _ _ _ _)
  · rcases hs with hs | hs
    · exact go ⟨by simp, .inr ⟨g, cap, cs, rfl, hg, hB, hc, hm, by simpa using hs, by simpa using ht⟩⟩
    · obtain ⟨ad, rfl, _, hcell⟩ := hr.2 (by omega)
      obtain ⟨i, hi, hz0, hz1, hz2⟩ := info_parts infoS
      obtain ⟨_, hrd⟩ := h.rd rfl
      have olds : ∀ j x, vs[j]? = some x → w.cell? ((⟨g, 0, none⟩ : Addr).add j) = some x := fun j x hx => by
        have hj := (List.getElem?_eq_some_iff.1 hx).1
        obtain ⟨ad, e, _, hc⟩ := hrd.2 (by omega)
        injection e with e
        subst e
        exact hc j x hx
      obtain ⟨v', w', hrun, h2, h3⟩ := run_append_arg_grows w (P := Try.prog) 55 ty 27 i (.slice none 0 0) 1 24 Try.underlying55 hi hz0 hz1 hz2 rfl (by decide) ⟨g, 0, none⟩ vs.length cap vs (by simp) olds ad 1 c [u] (by simp) (fun j x hx => hcell j x hx) (by omega) (by unfold maxLen; omega) (by omega)
      refine ⟨v', w', hrun, ?_, Ext.low_ h3 fun k hk => (h2.lt k hk).1⟩
      unfold OwnS
      rw [List.length_append]
      exact own_low h2 hb
end

theorem own_grown {w w' : World} {base : Nat} {e : TypeId} {size n : Nat} {u v : Value} {xs : List Value} (h : w.ownsRow base e size v n xs) (hb : w.grownBy w' u.ownBlock) (hs : Sep u v) : w'.ownsRow base e size v n xs :=
  own_keepX h fun k cs hk hB => hb.block k (Array.getElem?_eq_some_iff.1 hB).1 fun e => hs k e.symm hk
theorem Sep.ext {a c : World} {u u' v : Value} (h : Sep u v) (x : Ext a c u u') (hv : ∀ k, v.ownBlock = some k → k < a.heap.size) : Sep u' v := fun k hk e => by
  rcases x.lies with l | l
  · rw [l] at hk; exact h k hk e
  · have h1 := l k hk
    have h2 := hv k e
    omega
theorem BagO.lt {w : World} {base : Nat} {v : Value} {vs : List Value} (h : BagO w base v vs) (k : Nat) (hk : v.ownBlock = some k) : k < w.heap.size := by
  obtain ⟨_, cs, hB⟩ := h.blk hk
  exact hB.lt
/-- A bag and bytes share no block. -/
theorem BagO.sepB {w : World} {base b2 : Nat} {v u : Value} {vs : List Value} {bs : List UInt8} (h : BagO w base v vs) (ho : OwnB w b2 u bs) : Sep v u := fun k hk e => by
  obtain ⟨_, cs, hB⟩ := h.blk hk
  rcases ho.2 with ⟨rfl, _⟩ | ⟨g, cap, cur, rfl, hg, hh, r⟩
  · simp [Value.ownBlock] at e
  · have : g = k := by simpa [Value.ownBlock] using e
    subst this
    unfold Blk at hB
    rw [hh] at hB
    injection hB with hB
    injection hB with _ hB
    exact absurd hB (by decide)
theorem BagO.grown {w w' : World} {base : Nat} {u v : Value} {vs : List Value} (h : BagO w base v vs) (hb : w.grownBy w' u.ownBlock) (hs : Sep u v) : BagO w' base v vs := h.keep fun k cs hk hB => hb.block k hB.lt fun e => hs k e.symm hk
theorem BagV.grown {w w' : World} {base : Nat} {u v : Value} {bs : List (List UInt8)} {rows : List BV} {us : List Value} (h : BagV w base v bs rows) (hb : w.grownBy w' u.ownBlock) (hu : BagO w base u us) (hs : Sep u v) : BagV w' base v bs rows :=
  ⟨h.own.grown hb hs, h.txt, fun s hs' => own_grown (h.all s hs') hb (hu.sepB (h.all s hs'))⟩
/-- A step of a net's map. -/
theorem BagV.ofMap {w w' : World} {base m cl : Nat} {L : List NE} {v : Value} {bs : List (List UInt8)} {rows : List BV} (h : BagV w base v bs rows) (hM : MapN w m L cl) (M : Mod (· = m) w w') : BagV w' base v bs rows := h.mod M fun k cs T hk hB => by
  subst hk
  rw [hM.obj] at hB
  cases hB
theorem own_ofMap {w w' : World} {base m cl n size : Nat} {e : TypeId} {L : List NE} {v : Value} {xs : List Value} (h : w.ownsRow base e size v n xs) (hM : MapN w m L cl) (M : Mod (· = m) w w') : w'.ownsRow base e size v n xs := own_keepX h fun k cs _ hB => M.block k (Array.getElem?_eq_some_iff.1 hB).1 fun e => by
  subst e
  rw [hM.obj] at hB
  cases hB
theorem netty_map {w : World} {m cl : Nat} {L : List NE} (h : MapN w m L cl) : nettyO w.heap[m]? := by rw [h.obj]; trivial
theorem netty_bag {w : World} {g : Nat} {cs : Array Value} (h : Blk w g 27 cs) : nettyO w.heap[g]? := by unfold Blk at h; rw [h]; exact .inr rfl
theorem NMod.of_ext {w w' : World} {base : Nat} {v v' : Value} {vs : List Value} (x : Ext w w' v v') (h : BagO w base v vs) : NMod base w w' := Mod.of_grown x.grown fun k hk => by
  obtain ⟨h1, cs, hB⟩ := h.blk hk
  exact .inl ⟨h1, netty_bag hB⟩
theorem NMod.of_map {w w' : World} {base m cl : Nat} {L : List NE} (M : Mod (· = m) w w') (h : MapN w m L cl) (hb : base ≤ m) : NMod base w w' := NMod.of_one M hb (netty_map h)

/-- The bag at a key is turned: the net's messages behind it. -/
theorem NetM.turned {w0 w' : World} {base m cl cl' : Nat} {L L' : List NE} {S S' : List Msg} {k : Int × Int} {v' : Value} {rows' : List BV} (h : NetM w0 base m cl L S) (hM : MapN w' m L' cl') (hp : PutN L k v' L')
    (hold : ∀ x ∈ L, x.k ≠ k → ∃ rows, BagV w' base x.v (bagN S x.k) rows) (hnew : BagV w' base v' (bagN S' k) rows') (hne : bagN S' k ≠ []) (hsep : ∀ x ∈ L, x.k ≠ k → Sep v' x.v)
    (hS : ∀ j, j ≠ k → bagN S' j = bagN S j) (hfew : S'.length ≤ 1000) (hends : ∀ e ∈ S', EndP e.1.1 ∧ EndP e.1.2) : NetM w' base m cl' L' S' where
  hm := h.hm
  map := hM
  bags x hx := by
    rcases hp.mem x hx with ⟨h1, h2⟩ | ⟨rfl, rfl⟩
    · rw [hS _ h2]
      exact ⟨(h.bags x h1).1, hold x h1 h2⟩
    · exact ⟨hne, _, hnew⟩
  keys j hj := by
    by_cases e : j = k
    · subst e
      obtain ⟨x, hx, h1, _⟩ := hp.new
      exact ⟨x, hx, h1⟩
    · rw [hS _ e] at hj
      obtain ⟨x, hx, rfl⟩ := h.keys j hj
      exact ⟨x, hp.kept x hx e, rfl⟩
  sep x hx y hy hne := by
    rcases hp.mem x hx with ⟨h1, h2⟩ | ⟨h1, rfl⟩ <;> rcases hp.mem y hy with ⟨h3, h4⟩ | ⟨h3, h5⟩
    · exact h.sep x h1 y h3 hne
    · rw [h5]; exact (hsep x h1 h2).symm
    · exact hsep y h3 h4
    · exact absurd (h1.trans h3.symm) hne
  few := hfew
  ends := hends
/-- Put's memory: the map's entry, the append, the entry's store. -/
theorem put_core {w0 w1 w2 w3 : World} {base m cl cl1 : Nat} {L L1 : List NE} {S : List Msg} {k : Int × Int} {v v' : Value} {x : NE} {rows : List BV} {u : BV} (h : NetM w0 base m cl L S) (hl : LookN L k v) (hv : BagV w0 base v (bagN S k) rows)
    (hM1 : MapN w1 m L1 cl1) (hx : x ∈ L1) (hxk : x.k = k) (hoth : ∀ y : NE, y.k ≠ k → (y ∈ L1 ↔ y ∈ L)) (m1 : Mod (· = m) w0 w1)
    (ho2 : OwnS w2 base v' (rows.map cS ++ [cS u])) (x2 : Ext w1 w2 v v') (hu : OwnB w0 base (.slice u.A u.l.length u.c) u.l)
    (hM3 : MapN w3 m (putN k v' L1) cl1) (m3 : Mod (· = m) w2 w3) (hlen : S.length < 1000) (hk : EndP k.1 ∧ EndP k.2) :
    NetM w3 base m cl1 (putN k v' L1) (S ++ [(k, u.l)]) ∧ NMod base w0 w3 := by
  have hvV := hv.ofMap h.map m1
  have hM2 : MapN w2 m L1 cl1 := by
    refine ⟨(x2.grown.block m hM1.lt fun e => ?_).trans hM1.obj, hM1.keys, hM1.born, hM1.old⟩
    obtain ⟨_, cs, hB⟩ := hvV.own.blk e.symm
    unfold Blk at hB
    rw [hM1.obj] at hB
    cases hB
  have n2 : NMod base w1 w2 := NMod.of_ext x2 hvV.own
  have hsepv : ∀ y ∈ L, y.k ≠ k → Sep v y.v := fun y hy hne => by
    rcases hl with ⟨z, hz, hzk, rfl⟩ | ⟨_, rfl⟩
    · exact h.sep z hz y hy (by rw [hzk]; exact Ne.symm hne)
    · exact (Sep.nil y.v).symm
  refine ⟨h.turned hM3 (k := k) (v' := v') (rows' := rows ++ [u]) ?_ ?_ ?_ ?_ ?_ ?_ ?_ ?_, ((NMod.of_map m1 h.map h.hm).trans n2).trans (NMod.of_map m3 hM2 h.hm)⟩
  · have hp := PutN.of_put (L := L1) v' hx hxk
    refine ⟨fun y hy => ?_, fun y hy hne => hp.kept y ((hoth y hne).2 hy) hne, hp.new⟩
    rcases hp.mem y hy with ⟨h1, h2⟩ | h1
    · exact .inl ⟨(hoth y h2).1 h1, h2⟩
    · exact .inr h1
  · intro y hy hne
    obtain ⟨_, r, hr⟩ := h.bags y hy
    exact ⟨r, ((hr.ofMap h.map m1).grown x2.grown hvV.own (hsepv y hy hne)).ofMap hM2 m3⟩
  · rw [bagN_app, if_pos rfl]
    refine ⟨.of_own (own_ofMap (by rw [List.map_append]; exact ho2) hM2 m3), by rw [List.map_append, hv.txt]; rfl, fun s hs => ?_⟩
    have hs0 : OwnB w0 base (.slice s.A s.l.length s.c) s.l := by
      rcases List.mem_append.1 hs with h | h
      · exact hv.all s h
      · obtain rfl : s = u := by simpa using h
        exact hu
    have h1 := own_ofMap hs0 h.map m1
    exact own_ofMap (own_grown h1 x2.grown (hvV.own.sepB h1)) hM2 m3
  · rw [bagN_app, if_pos rfl]; simp
  · intro y hy hne
    obtain ⟨_, r, hr⟩ := h.bags y hy
    exact (hsepv y hy hne).ext x2 fun j hj => (hr.ofMap h.map m1).own.lt j hj
  · intro j hj
    rw [bagN_app, if_neg hj]
  · rw [List.length_append]; simp; omega
  · intro e he
    rcases List.mem_append.1 he with he | he
    · exact h.ends e he
    · obtain rfl : e = (k, u.l) := by simpa using he
      exact hk
end Go.Proofs.Ytpfbiamgnmbhnaa
