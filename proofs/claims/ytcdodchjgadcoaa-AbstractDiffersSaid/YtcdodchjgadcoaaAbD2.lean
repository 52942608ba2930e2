/- The law AbstractDiffers: the plain laws, the walk. -/
import Derived.Test.YtcdodchjgadcoaaAbTw
namespace Go.Proofs.Ytcdodchjgadcoaa
open Go.RowKit
set_option linter.unusedVariables false
set_option maxRecDepth 100000

theorem diff_comm (a b : List UInt8) (n : Int) : diffF a b n = diffF b a n := by
  unfold diffF
  congr 1
  cases h : atO a n.toNat != atO b n.toNat
  · have : atO a n.toNat = atO b n.toNat := by simpa using h
    rw [this]; simp
  · have : ¬ atO a n.toNat = atO b n.toNat := by simpa using h
    symm
    simpa using fun e => this e.symm
theorem diff_self (a : List UInt8) (n : Int) : diffF a a n = false := by unfold diffF; simp
theorem diff_tri (a b c : List UInt8) (n : Int) : (diffF a c n && !(diffF a b n || diffF b c n)) = false := by
  unfold diffF
  cases decide (0 ≤ n ∧ n < 512)
  · rfl
  · simp only [Bool.true_and]
    by_cases h1 : atO a n.toNat = atO b n.toNat
    · by_cases h2 : atO b n.toNat = atO c n.toNat
      · rw [h1, h2]; simp
      · rw [h1]
        have : (atO b n.toNat != atO c n.toNat) = true := by simpa using h2
        rw [this]; simp
    · have : (atO a n.toNat != atO b n.toNat) = true := by simpa using h1
      rw [this]; simp
theorem diff_in {a b : List UInt8} {n : Int} (h : diffF a b n = true) : 0 ≤ n ∧ n < 512 := by
  unfold diffF at h
  simp only [Bool.and_eq_true, decide_eq_true_eq] at h
  exact h.1
theorem row_len {f : Int → Bool} {L : List Sp} (h : IsR f L) (hf : ∀ n, f n = true → 0 ≤ n ∧ n < 512) : L.length ≤ 512 := by
  have hb : ∀ s ∈ L, (0 : Int) ≤ s.1 ∧ s.2 ≤ 512 := fun s hs => by
    have hm := clean_mem h.clean s hs
    refine ⟨hm.1, ?_⟩
    have h1 : hasS L (s.2 - 1) = true := (clean_one h.clean).2 ⟨s, hs, by omega, by omega⟩
    rw [h.is] at h1
    have := hf _ h1
    omega
  rcases clean_count h.clean hb with h1 | h1
  · omega
  · rw [h1]; decide
theorem diffE_comm {p : PI} {a b : Int} (hm : mayI p = true) : diffE p a b = diffE p b a := by
  cases ha : (asO p a).isSome
  · rw [diffE_b hm (.inl ha), diffE_b hm (.inr ha)]
  · cases hb : (asO p b).isSome
    · rw [diffE_b hm (.inr hb), diffE_b hm (.inl hb)]
    · rw [diffE_c hm ha hb, diffE_c hm hb ha]
theorem differs_one {p : PI} {a b : Int} (hm : mayI p = true) {L M : List Sp} (h1 : diffE p a b = 0 → IsR (diffR p a b) L) (h2 : diffE p a b ≠ 0 → L = []) (h3 : diffE p b a = 0 → IsR (diffR p b a) M) (h4 : diffE p b a ≠ 0 → M = []) : L = M := by
  have e := diffE_comm (a := a) (b := b) hm
  by_cases h : diffE p a b = 0
  · exact (h1 h).one (h3 (e ▸ h)) fun n => diff_comm _ _ n
  · rw [h2 h, h4 (e ▸ h)]
theorem differs_len {p : PI} {a b : Int} {L : List Sp} (h1 : diffE p a b = 0 → IsR (diffR p a b) L) (h2 : diffE p a b ≠ 0 → L = []) : L.length ≤ 512 := by
  by_cases h : diffE p a b = 0
  · exact diff_len (h1 h)
  · rw [h2 h]; decide

set_option maxHeartbeats 8000000 in
theorem differs_walk (W : World) (z : Int) (iz : I64 z) (AL : Option Addr) (L : List EV) (cL : Nat) (rL : RdL W (Old W) 7 evC AL L) (lL : L.length ≤ cL) (mL : cL ≤ 9223372036854775807) (nL : AL = none → cL = 0) (sL : ∀ s ∈ L, EvR W (Old W) s ∧ EnI s.e) (at_ : Int) (ia : I64 at_) :
    Calls Try.prog 5 #[.int .i64 z, .slice AL L.length cL, .int .i64 at_] W fun e w' => e = .returned (.bool true) ∧ Below W.heap.size W w' := by
  clear iz nL ia
  have haw := awake18 W
  have hbe := fun V (b : Below W.heap.size W V) => behind_any z AL L cL V ((RdL.below rL b).imp evC_pos fun _ hb _ => hb) lL mL fun s hs => ⟨Rd.imp (RdB.below (sL s hs).1.1 b) (fun _ hb _ => hb) (by decide), (sL s hs).1.2⟩
  go_enter Try.func5, Try.ntmps5
  go_wp2_with fail
  refine haw.mono ?_
  clear haw
  rintro e1 w1 ⟨rfl, bb⟩
  have hbe := hbe w1 bb
  clear rL lL sL
  go_wp2_with fail
  refine hbe.mono ?_
  clear hbe
  rintro e2 w2 ⟨im, rfl, hmay, rM, b_⟩
  replace bb := bb.thenB' b_
  clear b_
  have HM := Lib.hid hmay
  clear hmay
  go_upto_region 8 with first
    | (with_reducible show wpList _ _ _ _ _ _
       refine wpList_rowB rfl 25 (.tmp 8) (.tmp 26) rfl w2.heap.size 25 _ (imA im) rfl rfl (Blk.new w2 25 #[.slice none 0 0, .slice none 0 0, .int .i64 0]) infoIm rfl (imA_ok _) ?_
       intro w3 hM mm
       have nn : Below w2.heap.size w2 w3 := im_new mm
       replace rM := rM.below nn
       replace bb := bb.thenB' nn
       clear nn mm)
  generalize at_.tmod 5 = a at *
  generalize (wrap64 (at_.tdiv 5)).tmod 5 = b at *
  generalize (wrap64 (at_.tdiv 25)).tmod 5 = c at *
  have hdf := fun V D (q : ImR V D im) x y => Differ_any D im x y V q
  unfold Differs at hdf
  go_wp2_with first
    | (with_reducible show wpList _ _ _ _ _ _
       refine wpList_load_row rfl 25 (.tmp 8) rfl w2.heap.size rfl 25 _ (0, 0) _ hM Try.underlying25 rfl infoIm ?_)
  refine (hdf _ _ rM a b).mono ?_
  rintro e3 w4 ⟨vX, X, rfl, oX, pX, qX, b_⟩
  replace rM := rM.below b_
  replace hM := hM.below b_
  replace bb := bb.thenB' b_
  clear b_
  obtain ⟨AX, cX, rfl, -, -⟩ := OwnC.form oX
  have rX := OwnSp.rd oX
  clear oX
  have PX := Lib.hid pX
  have QX := Lib.hid qX
  clear pX qX
  go_wp2_with first
    | (with_reducible show wpList _ _ _ _ _ _
       refine wpList_load_row rfl 25 (.tmp 8) rfl w2.heap.size rfl 25 _ (0, 0) _ hM Try.underlying25 rfl infoIm ?_)
  refine (hdf _ _ rM b a).mono ?_
  rintro e4 w5 ⟨vY, Y, rfl, oY, pY, qY, b_⟩
  have rX := RdL.below rX b_
  replace rM := rM.below b_
  replace hM := hM.below b_
  replace bb := bb.thenB' b_
  clear b_
  obtain ⟨AY, cY, rfl, -, -⟩ := OwnC.form oY
  have rY := OwnSp.rd oY
  clear oY
  have PY := Lib.hid pY
  have QY := Lib.hid qY
  clear pY qY
  have hXY : X = Y := differs_one HM.out PX.out QX.out PY.out QY.out
  subst hXY
  have lX := differs_len PX.out QX.out
  have hsm := rSame_any _ _ AX AY cX cY X X _ rX rY (by omega)
  rw [decide_eq_true rfl] at hsm
  rw [diffE_comm HM.out (a := b) (b := a)]
  generalize hEab : diffE im.p a b = eab at *
  go_wp2_with fail
  refine hsm.mono ?_
  clear hsm
  rintro e5 w6 ⟨rfl, b_⟩
  have rX := RdL.below rX b_
  replace rM := rM.below b_
  replace hM := hM.below b_
  replace bb := bb.thenB' b_
  clear b_
  go_wp2_with first
    | (with_reducible show wpList _ _ _ _ _ _
       refine wpList_load_row rfl 25 (.tmp 8) rfl w2.heap.size rfl 25 _ (0, 0) _ hM Try.underlying25 rfl infoIm ?_)
  refine (hdf _ _ rM b c).mono ?_
  rintro e6 w7 ⟨vZr, Zr, rfl, oZr, pZr, qZr, b_⟩
  have rX := RdL.below rX b_
  replace rM := rM.below b_
  replace hM := hM.below b_
  replace bb := bb.thenB' b_
  clear b_
  obtain ⟨AZr, cZr, rfl, -, -⟩ := OwnC.form oZr
  have rZr := OwnSp.rd oZr
  clear oZr
  have PZr := Lib.hid pZr
  have QZr := Lib.hid qZr
  clear pZr qZr
  go_wp2_with first
    | (with_reducible show wpList _ _ _ _ _ _
       refine wpList_load_row rfl 25 (.tmp 8) rfl w2.heap.size rfl 25 _ (0, 0) _ hM Try.underlying25 rfl infoIm ?_)
  refine (hdf _ _ rM a c).mono ?_
  rintro e7 w8 ⟨vWr, Wr, rfl, oWr, pWr, qWr, b_⟩
  have rX := RdL.below rX b_
  have rZr := RdL.below rZr b_
  replace rM := rM.below b_
  replace hM := hM.below b_
  replace bb := bb.thenB' b_
  clear b_
  obtain ⟨AWr, cWr, rfl, -, -⟩ := OwnC.form oWr
  have rWr := OwnSp.rd oWr
  clear oWr
  have PWr := Lib.hid pWr
  have QWr := Lib.hid qWr
  clear pWr qWr
  generalize hEbc : diffE im.p b c = ebc at *
  generalize hEac : diffE im.p a c = eac at *
  by_cases h1 : eab = 0
  rotate_left
  focus
    have h1b : (eab != 0) = true := by simp [h1]
    clear hEab hEbc hEac
    go_wp2_with fail
    go_ret
    exact ⟨rfl, bb⟩
  by_cases h2 : ebc = 0
  rotate_left
  focus
    have h2b : (ebc != 0) = true := by simp [h2]
    clear hEab hEbc hEac
    subst h1
    go_wp2_with fail
    go_ret
    exact ⟨rfl, bb⟩
  by_cases h3 : eac = 0
  rotate_left
  focus
    have h3b : (eac != 0) = true := by simp [h3]
    clear hEab hEbc hEac
    subst h1 h2
    go_wp2_with fail
    go_ret
    exact ⟨rfl, bb⟩
  subst h1 h2 h3
  have iX := PX.out rfl
  have iZ := PZr.out rfl
  have iW := PWr.out rfl
  have lZ := diff_len iZ
  have lW := diff_len iW
  have HW := Lib.hid iW
  have HXZ : Hid (∀ u, IsR (docW (docB 1) X Zr) u → IsR (fun n => diffR im.p a b n || diffR im.p b c n) u) := by
    unfold Hid
    intro u hu
    refine (hu.to (docW_join X Zr)).to fun n => ?_
    unfold joinF
    rw [iX.is, iZ.is]
  clear hEab hEbc hEac iX iZ iW PX QX PY QY PZr QZr PWr QWr rY
  have hof1 := rOf_big _ _ AX AZr cX cZr X Zr 1 _ rX rZr (by omega) (by omega)
  go_wp2_with fail
  refine hof1.mono ?_
  clear hof1
  rintro e8 w9 ⟨vu, u, rfl, ou, iu, b_⟩
  have rWr := RdL.below rWr b_
  replace rM := rM.below b_
  replace hM := hM.below b_
  replace bb := bb.thenB' b_
  clear b_
  have iu2 := HXZ.out u iu
  have lu := row_len iu2 (fun n hn => by
    have hn' : (diffR im.p a b n || diffR im.p b c n) = true := hn
    rw [Bool.or_eq_true] at hn'
    rcases hn' with h | h
    · exact diff_in h
    · exact diff_in h)
  obtain ⟨Au, cu, rfl, -, -⟩ := OwnC.form ou
  have ru := OwnSp.rd ou
  have HU := Lib.hid iu2
  clear ou iu iu2 HXZ
  have hof2 := rOf_big _ _ AWr Au cWr cu Wr u 3 _ rWr ru (by omega) (by omega)
  go_wp2_with fail
  refine hof2.mono ?_
  clear hof2
  rintro e9 w10 ⟨vt, t, rfl, ot, it, b_⟩
  replace bb := bb.thenB' b_
  have ht : t = [] := (it.to (docW_less Wr u)).nil.2 fun n => by
    unfold lessF
    rw [HW.out.is, HU.out.is]
    exact diff_tri _ _ _ n
  subst ht
  obtain ⟨At, ct, rfl, -, -⟩ := OwnC.form ot
  clear ot it
  by_cases hac : a = c
  · have hw0 : Wr = [] := HW.out.nil.2 fun n => by rw [hac]; exact diff_self _ n
    subst hw0
    have g1 : (a != c) = false := by simp [hac]
    go_wp2_with fail
    go_ret
    exact ⟨rfl, bb⟩
  · have g1 : (a != c) = true := by simp [hac]
    go_wp2_with fail
    go_ret
    exact ⟨rfl, bb⟩
end Go.Proofs.Ytcdodchjgadcoaa
