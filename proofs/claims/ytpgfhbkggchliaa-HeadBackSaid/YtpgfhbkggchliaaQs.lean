/- Parts of the proof, joined: HfG. -/
import Derived.Test.YtpgfhbkggchliaaQr
/- The law HeadBack: the walk. -/
namespace Go.Proofs.Ytpgfhbkggchliaa
open Go.RowKit
set_option linter.unusedVariables false

set_option maxHeartbeats 8000000 in
set_option maxRecDepth 100000 in
theorem hback_walk (D D' : Nat → Prop) (h : HdV) (A : Option Addr) (b : List UInt8) (c : Nat) (w : World) (hr : HdR w D h) (r : RdB w D' A b) (l : b.length ≤ c) (mx : c ≤ 9223372036854775807) :
    Calls Try.prog 6 #[hdV h, .slice A b.length c] w fun e w' => e = .returned (.bool true) ∧ Below w.heap.size w w' := by
  have bb := below_new w (.cells (hdA h) 27)
  have hB := Blk.new w 27 (hdA h)
  have hr := hr.below bb
  have hv : hdV h = .agg (hdA h) := rfl
  have hfw := fun W hr => few_any D h W hr
  have r := r.below bb
  have hc1 := fun (W : World) (hr : HdR W D h) => Pack_any6 D h W hr
  have hck := fun (W : World) (hr : HdR W D h) => Check_any6 D h W hr
  have hc4 := fun (W : World) (r : RdB W D' A b) (hl : b.length ≤ big) => Unpack_any6 D' A c b W r hl
  have hmp := may_p h
  have hv' := hv
  rw [hv] at hfw hc1 hck ⊢
  generalize hA : hdA h = cs at *
  have h8 : cs.size = 8 := by rw [← hA]; rfl
  clear hA hv
  go_enter Try.func6, Try.ntmps6
  go_wp2_with fail
  refine (awake_any6 _).mono ?_
  rintro e w1 ⟨rfl, b1⟩
  have hB := hB.below b1
  have hr := hr.below b1
  have r := r.below b1
  have bb := bb.thenB' b1
  clear b1
  go_wp2_with first
    | (with_reducible show wpList _ _ _ _ _ _
       refine wpList_load_row rfl 27 (.tmp 2) rfl w.heap.size rfl 27 cs (0, 0) _ hB Try.underlying27 rfl (by rw [h8]; exact infoH) ?_)
  refine (hfw _ hr).mono ?_
  clear hfw
  rintro e w2 ⟨rfl, b2⟩
  have hB := hB.below b2
  have hr := hr.below b2
  have r := r.below b2
  have bb := bb.thenB' b2
  clear b2
  cases hf : fewO h
  focus
    go_wp2_with fail
    go_ret
    exact ⟨rfl, bb⟩
  by_cases hl3 : (3000 : Int) < (b.length : Int)
  focus
    go_wp2_with fail
    go_ret
    exact ⟨rfl, bb⟩
  have hlb : b.length ≤ big := by unfold big; omega
  rw [hmp] at hck
  go_wp2_with first
    | (with_reducible show wpList _ _ _ _ _ _
       refine wpList_load_row rfl 27 (.tmp 2) rfl w.heap.size rfl 27 cs (0, 0) _ hB Try.underlying27 rfl (by rw [h8]; exact infoH) ?_)
  refine (hc1 _ hr).mono ?_
  clear hc1
  rintro e w3 ⟨v3, rfl, o3, b3⟩
  have hB := hB.below b3
  have hr := hr.below b3
  have r := r.below b3
  have bb := bb.thenB' b3
  obtain ⟨A3, k3, rfl, l3, kk3⟩ := OwnB.form o3
  cases hmay : mayP h.p
  focus
    have E : packP h.p = [] := by unfold packP; rw [hmay]; rfl
    rw [hmay, show eno false 60 = 60 from rfl] at hck
    rw [E]
    clear hmay hmp E
    go_wp2_with first
      | (with_reducible show wpList _ _ _ _ _ _
         refine wpList_load_row rfl 27 (.tmp 2) rfl w.heap.size rfl 27 cs (0, 0) _ hB Try.underlying27 rfl (by rw [h8]; exact infoH) ?_)
    refine (hck _ hr).mono ?_
    rintro e w4 ⟨rfl, b4⟩
    go_wp2_with fail
    go_ret
    exact ⟨rfl, bb.thenB' b4⟩
  rw [hmay, show eno true 60 = 0 from rfl] at hck
  have F1 := Lib.hid (unp_one hmay)
  have F2 := Lib.hid (unp_less hmay)
  have F3 := Lib.hid (unp_more hmay)
  have F4 := Lib.hid (may_big hmay)
  have hpl := pack_small hmay
  clear hmay hmp
  generalize packP h.p = pp at *
  obtain ⟨n, hn⟩ : ∃ n, pp.length = n + 1 := ⟨pp.length - 1, by omega⟩
  have HN := Lib.hid hn
  have hnb : n ≤ 1000000 := by omega
  have hlp : pp.length ≤ big := by unfold big; omega
  have htl : (pp.take n).length = n := by rw [List.length_take]; omega
  have hlt : (pp.take n).length ≤ big := by unfold big; omega
  have hnn : pp.length - 1 = n := by omega
  rw [hnn] at F2
  have hu1 := fun (W : World) (o : OwnB W w2.heap.size (.slice A3 pp.length k3) pp) => Unpack_any6 _ A3 k3 pp W o.rd hlp
  have hu2 := fun (W : World) (o : OwnB W w2.heap.size (.slice A3 pp.length k3) pp) => Unpack_any6 _ A3 k3 (pp.take n) W (o.rd.take (by omega)) hlt
  have hrd := fun (W : World) (o : OwnB W w2.heap.size (.slice A3 pp.length k3) pp) => OwnB.rdG o
  rw [F1.out] at hu1
  rw [F2.out, htl] at hu2
  rw [hn] at o3 hu1 hu2 l3 hrd ⊢
  clear hn hnn hpl hlp hlt htl
  go_wp2_with first
    | (with_reducible show wpList _ _ _ _ _ _
       refine wpList_load_row rfl 27 (.tmp 2) rfl w.heap.size rfl 27 cs (0, 0) _ hB Try.underlying27 rfl (by rw [h8]; exact infoH) ?_)
  refine (hck _ hr).mono ?_
  clear hck
  rintro e w4 ⟨rfl, b4⟩
  have hB := hB.below b4
  have hr := hr.below b4
  have r := r.below b4
  have o3 := o3.below b4
  have bb := bb.thenB' b4
  go_wp2_with fail
  refine (hu1 _ o3).mono ?_
  rintro e x1 ⟨h1, rfl, hp1, hr1, b1⟩
  have hB := hB.below b1
  have hr := hr.below b1
  have r := r.below b1
  have o3 := o3.below b1
  have bb := bb.thenB' b1
  rw [show hdV h1 = .agg (hdA h1) from rfl]
  have q1 := hd8 h1
  have a1 := hdA_ok h1
  generalize hA1 : hdA h1 = c1 at *
  have hz1 := Blk.new x1 27 z8
  unfold z8 at hz1
  go_wp2_with first
    | (with_reducible show wpList _ _ _ _ _ _
       refine wpList_rowB rfl 27 (.tmp 8) (.tmp 39) rfl x1.heap.size 27 _ c1 rfl rfl hz1 (by rw [q1]; exact infoH) (by rw [q1]; rfl) a1 ?_
       intro y1 hy1 m1
       obtain ⟨K1, n1⟩ := HdX.new hr1 hy1 hA1 m1
       have hB := hB.below n1
       have hr := hr.below n1
       have bb := bb.thenB' n1
       have r := r.below n1
       have o3 := o3.below n1)
  refine (hu2 _ o3).mono ?_
  rintro e x2 ⟨h2, rfl, hp2, hr2, b2⟩
  have hB := hB.below b2
  have hr := hr.below b2
  have r := r.below b2
  have o3 := o3.below b2
  have K1 := K1.below b2
  have bb := bb.thenB' b2
  rw [show hdV h2 = .agg (hdA h2) from rfl]
  have q2 := hd8 h2
  have a2 := hdA_ok h2
  generalize hA2 : hdA h2 = c2 at *
  have hz2 := Blk.new x2 27 z8
  unfold z8 at hz2
  go_wp2_with first
    | (with_reducible show wpList _ _ _ _ _ _
       refine wpList_rowB rfl 27 (.tmp 10) (.tmp 48) rfl x2.heap.size 27 _ c2 rfl rfl hz2 (by rw [q2]; exact infoH) (by rw [q2]; rfl) a2 ?_
       intro y2 hy2 m2
       obtain ⟨K2, n2⟩ := HdX.new hr2 hy2 hA2 m2
       have hB := hB.below n2
       have hr := hr.below n2
       have bb := bb.thenB' n2
       have r := r.below n2
       have o3 := o3.below n2
       have K1 := K1.below n2
       have hem : OwnB (y2.alloc (.cells #[] 5)) y2.heap.size (.slice (some ⟨y2.heap.size, 0, none⟩) 0 0) [] := own_lit y2 _ [] _ (Nat.le_refl _) (by simp)
       have be := below_new y2 (.cells #[] 5)
       have re := hrd _ (o3.below be))
    | (at_builtin
       refine wpList_appB rfl (.tmp 51) (.tmp 52) rfl y2.heap.size _ [] rfl hem _ A3 (n + 1) k3 pp rfl HN.out.symm re (by unfold big; rw [List.length_nil, HN.out]; omega) be.size ?_
       intro v5 w5 o5 x5
       rw [List.nil_append] at o5
       have bx := be.trans (x5.below hem (Nat.le_refl _) be.size)
       have bn := below_new w5 (.cells #[.int .u8 0] 5)
       have by5 := bx.thenB' bn
       have o5b := o5.below bn)
    | (at_builtin
       refine wpList_appB rfl (.tmp 53) (.tmp 54) rfl y2.heap.size v5 pp rfl o5b _ (some ⟨w5.heap.size, 0, none⟩) 1 1 [0] rfl rfl (rd_newB w5 0 0 rfl) (by unfold big; rw [List.length_singleton, HN.out]; omega) by5.size ?_
       intro v6 w6 o6 x6
       have b6 := by5.trans (x6.below o5b (Nat.le_refl _) by5.size))
  obtain ⟨A6, n6, k6, rfl, E6, l6, kk6⟩ := o6.form'
  have hu3 := Unpack_any6 _ A6 k6 (pp ++ [0]) w6 (OwnB.rd (E6.out ▸ o6)) (by unfold big; rw [List.length_append, List.length_singleton, HN.out]; omega)
  rw [← E6.out, F3.out] at hu3
  have hB := hB.below b6
  have hr := hr.below b6
  have r := r.below b6
  have o3 := o3.below b6
  have K1 := K1.below b6
  have bb := bb.thenB' b6
  clear hem be re o5 x5 bx bn by5 o5b x6 o6 b6 F3 E6
  refine (hu3).mono ?_
  rintro e x3 ⟨h3, rfl, hp3, hr3, b3⟩
  have hB := hB.below b3
  have hr := hr.below b3
  have r := r.below b3
  have o3 := o3.below b3
  have K1 := K1.below b3
  have bb := bb.thenB' b3
  rw [show hdV h3 = .agg (hdA h3) from rfl]
  have q3 := hd8 h3
  have a3 := hdA_ok h3
  generalize hA3 : hdA h3 = c3 at *
  have hz3 := Blk.new x3 27 z8
  unfold z8 at hz3
  go_wp2_with first
    | (with_reducible show wpList _ _ _ _ _ _
       refine wpList_rowB rfl 27 (.tmp 12) (.tmp 57) rfl x3.heap.size 27 _ c3 rfl rfl hz3 (by rw [q3]; exact infoH) (by rw [q3]; rfl) a3 ?_
       intro y3 hy3 m3
       obtain ⟨K3, n3⟩ := HdX.new hr3 hy3 hA3 m3
       have hB := hB.below n3
       have hr := hr.below n3
       have bb := bb.thenB' n3
       have r := r.below n3
       have o3 := o3.below n3
       have K1 := K1.below n3)
    | (with_reducible show wpList _ _ _ _ _ _
       refine wpList_load_rowG rfl rfl 27 (.tmp 8) rfl x1.heap.size rfl 27 c1 K1.B _ Try.underlying27 (by rw [q1]; exact infoH) ?_)
    | (with_reducible show wpList _ _ _ _ _ _
       refine wpList_load_rowG rfl rfl 27 (.tmp 2) rfl w.heap.size rfl 27 cs hB _ Try.underlying27 (by rw [h8]; exact infoH) ?_)
  have hs := rSame_yes _ _ h1 h _ K1.rd hr (eqH_p hp1) (BigP.hd (by rw [hp1]; exact F4.out))
  rw [show hdV h1 = .agg c1 from K1.v, hv'] at hs
  refine hs.mono ?_
  rintro e w7 ⟨rfl, b7⟩
  have hB := hB.below b7
  have hr := hr.below b7
  have r := r.below b7
  have bb := bb.thenB' b7
  clear hs K1 o3 hr1 hr2 hr3 hp1 hp2 hp3 hu1 hu2 hu3 hrd
  go_wp2_with fail
  refine (hc4 _ r hlb).mono ?_
  rintro e x4 ⟨h4, rfl, hp4, hr4, b4⟩
  have hB := hB.below b4
  have hr := hr.below b4
  have r := r.below b4
  have bb := bb.thenB' b4
  have hy := fun (he : (unpP b).2 = 0) => (unp_back he).1
  rw [← hp4] at hy
  generalize (unpP b).2 = er at *
  by_cases he : er = 0
  focus
    subst he
    have hb4 := Lib.hid (hy rfl)
    clear hy
    rw [show hdV h4 = .agg (hdA h4) from rfl]
    have q4 := hd8 h4
    have a4 := hdA_ok h4
    generalize hA4 : hdA h4 = c4 at *
    have hz4 := Blk.new x4 27 z8
    unfold z8 at hz4
    go_wp2_with first
      | (with_reducible show wpList _ _ _ _ _ _
         refine wpList_rowB rfl 27 (.tmp 14) (.tmp 78) rfl x4.heap.size 27 _ c4 rfl rfl hz4 (by rw [q4]; exact infoH) (by rw [q4]; rfl) a4 ?_
         intro y4 hy4 m4
         obtain ⟨K4, n4⟩ := HdX.new hr4 hy4 hA4 m4
         have hB := hB.below n4
         have hr := hr.below n4
         have bb := bb.thenB' n4
         have r := r.below n4)
    refine r_start (R := RB) (by rfl) (n := 11) (L := #[false, false, false, false, false, false, false, false, false, false, false]) rfl rfl ?_
    have bd : Below y4.heap.size y4 y4.drew := (Below.refl _ _).drew
    have hB := hB.below bd
    have hr := hr.below bd
    have r := r.below bd
    have K4 := K4.below bd
    have bb := bb.thenB' bd
    generalize y4.drew = wd1 at *
    clear bd
    refine r_flt RB_refl 0 80 #[true, false, false, false, false, false, false, false, false, false, false] (by simp only [List.getElem?_toArray, List.getElem?_cons_zero]; rfl) (by rfl) (by kernel_rfl) (by kernel_rfl) (by kernel_rfl) (fun _ _ _ _ h => h) rfl (by rfl) ?_
    apply Exists.intro
    apply And.intro
    · intro W hW
      first | (go_simp; with_reducible rfl) | go_simp
    (try simp only [Act.put, List.setIfInBounds_toArray]); (try simp only [List.set_cons_succ]); (try simp only [List.set_cons_zero])
    refine r_flt RB_refl 1 81 #[true, true, false, false, false, false, false, false, false, false, false] (by simp only [List.getElem?_toArray, List.getElem?_cons_succ, List.getElem?_cons_zero]; rfl) (by rfl) (by kernel_rfl) (by kernel_rfl) (by kernel_rfl) (fun _ _ _ _ h => h) rfl (by rfl) ?_
    apply Exists.intro
    apply And.intro
    · intro W hW
      first | (go_simp; with_reducible rfl) | go_simp
    (try simp only [Act.put, List.setIfInBounds_toArray]); (try simp only [List.set_cons_succ]); (try simp only [List.set_cons_zero])
    refine r_flt RB_refl 2 82 #[true, true, true, false, false, false, false, false, false, false, false] (by simp only [List.getElem?_toArray, List.getElem?_cons_succ, List.getElem?_cons_zero]; rfl) (by rfl) (by kernel_rfl) (by kernel_rfl) (by kernel_rfl) (fun _ _ _ _ h => h) rfl (by rfl) ?_
    apply Exists.intro
    apply And.intro
    · intro W hW
      first | (go_simp; with_reducible rfl) | go_simp
    (try simp only [Act.put, List.setIfInBounds_toArray]); (try simp only [List.set_cons_succ]); (try simp only [List.set_cons_zero])
    refine r_flt RB_refl 3 83 #[true, true, true, true, false, false, false, false, false, false, false] (by simp only [List.getElem?_toArray, List.getElem?_cons_succ, List.getElem?_cons_zero]; rfl) (by rfl) (by kernel_rfl) (by kernel_rfl) (by kernel_rfl) (fun _ _ _ _ h => h) rfl (by rfl) ?_
    apply Exists.intro
    apply And.intro
    · intro W hW
      exact exec_load_row rfl rfl (K4.B.below hW) Try.underlying27 (by rw [q4]; exact infoH)
    (try simp only [Act.put, List.setIfInBounds_toArray]); (try simp only [List.set_cons_succ]); (try simp only [List.set_cons_zero])
    refine r_flt RB_refl 6 86 #[true, true, true, true, false, false, true, false, false, false, false] (by simp only [List.getElem?_toArray, List.getElem?_cons_succ, List.getElem?_cons_zero]; rfl) (by rfl) (by kernel_rfl) (by kernel_rfl) (by kernel_rfl) (fun _ _ _ _ h => h) rfl (by rfl) ?_
    apply Exists.intro
    apply And.intro
    · intro W hW
      first | (go_simp; with_reducible rfl) | go_simp
    (try simp only [Act.put, List.setIfInBounds_toArray]); (try simp only [List.set_cons_succ]); (try simp only [List.set_cons_zero])
    refine r_flt RB_refl 7 87 #[true, true, true, true, false, false, true, true, false, false, false] (by simp only [List.getElem?_toArray, List.getElem?_cons_succ, List.getElem?_cons_zero]; rfl) (by rfl) (by kernel_rfl) (by kernel_rfl) (by kernel_rfl) (fun _ _ _ _ h => h) rfl (by rfl) ?_
    apply Exists.intro
    apply And.intro
    · intro W hW
      have s := str_rd (c := c) (r.below hW) rfl
      go_simp; rfl
    (try simp only [Act.put, List.setIfInBounds_toArray]); (try simp only [List.set_cons_succ]); (try simp only [List.set_cons_zero])
    refine r_one RB_trans 4 (by kernel_rfl) ?_
    refine alt_call 84 #[true, true, true, true, true, false, true, true, false, false, false] (by simp only [List.getElem?_toArray, List.getElem?_cons_succ, List.getElem?_cons_zero]; rfl) (by rfl) rfl (by rfl) (by go_simp; first | exact ⟨rfl, rfl⟩ | rfl) ?_
    have hc5 := Pack_any6 _ h4 _ K4.rd
    rw [show hdV h4 = .agg c4 from K4.v, hb4.out] at hc5
    with_reducible refine hc5.mono ?_
    rintro e' w6 ⟨v6, rfl, o6, bp⟩
    obtain ⟨A6, n6, c6, rfl, E6, _, _⟩ := OwnB.form' o6
    refine ⟨_, rfl, bp, ?_⟩
    have r := r.below bp
    have bb := bb.thenB' bp
    (try simp only [Act.put, List.setIfInBounds_toArray]); (try simp only [List.set_cons_succ]); (try simp only [List.set_cons_zero])
    refine r_flt RB_refl 5 85 #[true, true, true, true, true, true, true, true, false, false, false] (by simp only [List.getElem?_toArray, List.getElem?_cons_succ, List.getElem?_cons_zero]; rfl) (by rfl) (by kernel_rfl) (by kernel_rfl) (by kernel_rfl) (fun _ _ _ _ h => h) rfl (by rfl) ?_
    apply Exists.intro
    apply And.intro
    · intro W hW
      have s := str_inB o6 E6.out hW
      go_simp; rfl
    (try simp only [Act.put, List.setIfInBounds_toArray]); (try simp only [List.set_cons_succ]); (try simp only [List.set_cons_zero])
    refine r_flt RB_refl 8 88 #[true, true, true, true, true, true, true, true, true, false, false] (by simp only [List.getElem?_toArray, List.getElem?_cons_succ, List.getElem?_cons_zero]; rfl) (by rfl) (by kernel_rfl) (by kernel_rfl) (by kernel_rfl) (fun _ _ _ _ h => h) rfl (by rfl) ?_
    apply Exists.intro
    apply And.intro
    · intro W hW
      first | (go_simp; with_reducible rfl) | go_simp
    (try simp only [Act.put, List.setIfInBounds_toArray]); (try simp only [List.set_cons_succ]); (try simp only [List.set_cons_zero])
    refine r_flt RB_refl 9 89 #[true, true, true, true, true, true, true, true, true, true, false] (by simp only [List.getElem?_toArray, List.getElem?_cons_succ, List.getElem?_cons_zero]; rfl) (by rfl) (by kernel_rfl) (by kernel_rfl) (by kernel_rfl) (fun _ _ _ _ h => h) rfl (by rfl) ?_
    apply Exists.intro
    apply And.intro
    · intro W hW
      first | (go_simp; with_reducible rfl) | go_simp
    (try simp only [Act.put, List.setIfInBounds_toArray]); (try simp only [List.set_cons_succ]); (try simp only [List.set_cons_zero])
    refine r_flt RB_refl 10 4 #[true, true, true, true, true, true, true, true, true, true, true] (by simp only [List.getElem?_toArray, List.getElem?_cons_succ, List.getElem?_cons_zero]; rfl) (by rfl) (by kernel_rfl) (by kernel_rfl) (by kernel_rfl) (fun _ _ _ _ h => h) rfl (by rfl) ?_
    apply Exists.intro
    apply And.intro
    · intro W hW
      first | (go_simp; with_reducible rfl) | go_simp
    (try simp only [Act.put, List.setIfInBounds_toArray]); (try simp only [List.set_cons_succ]); (try simp only [List.set_cons_zero])
    refine r_done (by kernel_rfl) ?_
    go_wp2_with fail
    go_ret
    exact ⟨rfl, bb⟩
  have he1 : (er == 0) = false := by simp [he]
  have he2 : (er != 0) = true := by simp [he]
  clear hy
  rw [show hdV h4 = .agg (hdA h4) from rfl]
  have q4 := hd8 h4
  have a4 := hdA_ok h4
  generalize hA4 : hdA h4 = c4 at *
  have hz4 := Blk.new x4 27 z8
  unfold z8 at hz4
  go_wp2_with first
    | (with_reducible show wpList _ _ _ _ _ _
       refine wpList_rowB rfl 27 (.tmp 14) (.tmp 78) rfl x4.heap.size 27 _ c4 rfl rfl hz4 (by rw [q4]; exact infoH) (by rw [q4]; rfl) a4 ?_
       intro y4 hy4 m4
       obtain ⟨K4, n4⟩ := HdX.new hr4 hy4 hA4 m4
       have hB := hB.below n4
       have hr := hr.below n4
       have bb := bb.thenB' n4
       have r := r.below n4)
  refine r_start (R := RB) (by rfl) (n := 11) (L := #[false, false, false, false, false, false, false, false, false, false, false]) rfl rfl ?_
  have bd : Below y4.heap.size y4 y4.drew := (Below.refl _ _).drew
  have hB := hB.below bd
  have hr := hr.below bd
  have r := r.below bd
  have bb := bb.thenB' bd
  generalize y4.drew = wd1 at *
  clear bd
  refine r_flt RB_refl 0 80 #[true, false, false, false, false, false, false, false, false, false, false] (by simp only [List.getElem?_toArray, List.getElem?_cons_zero]; rfl) (by rfl) (by kernel_rfl) (by kernel_rfl) (by kernel_rfl) (fun _ _ _ _ h => h) rfl (by rfl) ?_
  apply Exists.intro
  apply And.intro
  · intro W hW
    first | (go_simp; with_reducible rfl) | go_simp
  (try simp only [Act.put, List.setIfInBounds_toArray]); (try simp only [List.set_cons_succ]); (try simp only [List.set_cons_zero])
  refine r_flt RB_refl 1 81 #[true, true, false, false, false, false, false, false, false, false, false] (by simp only [List.getElem?_toArray, List.getElem?_cons_succ, List.getElem?_cons_zero]; rfl) (by rfl) (by kernel_rfl) (by kernel_rfl) (by kernel_rfl) (fun _ _ _ _ h => h) rfl (by rfl) ?_
  apply Exists.intro
  apply And.intro
  · intro W hW
    first | (go_simp; with_reducible rfl) | go_simp
  (try simp only [Act.put, List.setIfInBounds_toArray]); (try simp only [List.set_cons_succ]); (try simp only [List.set_cons_zero])
  refine r_flt RB_refl 2 82 #[true, true, true, false, false, false, false, false, false, false, false] (by simp only [List.getElem?_toArray, List.getElem?_cons_succ, List.getElem?_cons_zero]; rfl) (by rfl) (by kernel_rfl) (by kernel_rfl) (by kernel_rfl) (fun _ _ _ _ h => h) rfl (by rfl) ?_
  apply Exists.intro
  apply And.intro
  · intro W hW
    first | (go_simp; with_reducible rfl) | go_simp
  (try simp only [Act.put, List.setIfInBounds_toArray]); (try simp only [List.set_cons_succ]); (try simp only [List.set_cons_zero])
  refine r_skip RB_refl 3 83 #[true, true, true, true, false, false, false, false, false, false, false] (by simp only [List.getElem?_toArray, List.getElem?_cons_succ, List.getElem?_cons_zero]; rfl) (by rfl) (by kernel_rfl) (by kernel_rfl) (by kernel_rfl) (fun _ _ _ _ h => h) rfl (by rfl) ?_
  (try simp only [Act.put, List.setIfInBounds_toArray]); (try simp only [List.set_cons_succ]); (try simp only [List.set_cons_zero])
  refine r_skip RB_refl 4 84 #[true, true, true, true, true, false, false, false, false, false, false] (by simp only [List.getElem?_toArray, List.getElem?_cons_succ, List.getElem?_cons_zero]; rfl) (by rfl) (by kernel_rfl) (by kernel_rfl) (by kernel_rfl) (fun _ _ _ _ h => h) rfl (by rfl) ?_
  (try simp only [Act.put, List.setIfInBounds_toArray]); (try simp only [List.set_cons_succ]); (try simp only [List.set_cons_zero])
  refine r_skip RB_refl 5 85 #[true, true, true, true, true, true, false, false, false, false, false] (by simp only [List.getElem?_toArray, List.getElem?_cons_succ, List.getElem?_cons_zero]; rfl) (by rfl) (by kernel_rfl) (by kernel_rfl) (by kernel_rfl) (fun _ _ _ _ h => h) rfl (by rfl) ?_
  (try simp only [Act.put, List.setIfInBounds_toArray]); (try simp only [List.set_cons_succ]); (try simp only [List.set_cons_zero])
  refine r_skip RB_refl 6 86 #[true, true, true, true, true, true, true, false, false, false, false] (by simp only [List.getElem?_toArray, List.getElem?_cons_succ, List.getElem?_cons_zero]; rfl) (by rfl) (by kernel_rfl) (by kernel_rfl) (by kernel_rfl) (fun _ _ _ _ h => h) rfl (by rfl) ?_
  (try simp only [Act.put, List.setIfInBounds_toArray]); (try simp only [List.set_cons_succ]); (try simp only [List.set_cons_zero])
  refine r_skip RB_refl 7 87 #[true, true, true, true, true, true, true, true, false, false, false] (by simp only [List.getElem?_toArray, List.getElem?_cons_succ, List.getElem?_cons_zero]; rfl) (by rfl) (by kernel_rfl) (by kernel_rfl) (by kernel_rfl) (fun _ _ _ _ h => h) rfl (by rfl) ?_
  (try simp only [Act.put, List.setIfInBounds_toArray]); (try simp only [List.set_cons_succ]); (try simp only [List.set_cons_zero])
  refine r_skip RB_refl 8 88 #[true, true, true, true, true, true, true, true, true, false, false] (by simp only [List.getElem?_toArray, List.getElem?_cons_succ, List.getElem?_cons_zero]; rfl) (by rfl) (by kernel_rfl) (by kernel_rfl) (by kernel_rfl) (fun _ _ _ _ h => h) rfl (by rfl) ?_
  (try simp only [Act.put, List.setIfInBounds_toArray]); (try simp only [List.set_cons_succ]); (try simp only [List.set_cons_zero])
  refine r_flt RB_refl 9 89 #[true, true, true, true, true, true, true, true, true, true, false] (by simp only [List.getElem?_toArray, List.getElem?_cons_succ, List.getElem?_cons_zero]; rfl) (by rfl) (by kernel_rfl) (by kernel_rfl) (by kernel_rfl) (fun _ _ _ _ h => h) rfl (by rfl) ?_
  apply Exists.intro
  apply And.intro
  · intro W hW
    first | (go_simp; with_reducible rfl) | go_simp
  (try simp only [Act.put, List.setIfInBounds_toArray]); (try simp only [List.set_cons_succ]); (try simp only [List.set_cons_zero])
  refine r_flt RB_refl 10 4 #[true, true, true, true, true, true, true, true, true, true, true] (by simp only [List.getElem?_toArray, List.getElem?_cons_succ, List.getElem?_cons_zero]; rfl) (by rfl) (by kernel_rfl) (by kernel_rfl) (by kernel_rfl) (fun _ _ _ _ h => h) rfl (by rfl) ?_
  apply Exists.intro
  apply And.intro
  · intro W hW
    first | (go_simp; with_reducible rfl) | go_simp
  (try simp only [Act.put, List.setIfInBounds_toArray]); (try simp only [List.set_cons_succ]); (try simp only [List.set_cons_zero])
  refine r_done (by kernel_rfl) ?_
  go_wp2_with fail
  go_ret
  exact ⟨rfl, bb⟩
theorem hback_fr (W : World) (h : HdV) (r : HdR W (Old W) h) (_ : HdI h) (A : Option Addr) (b : List UInt8) (c : Nat) (rb : RdB W (Old W) A b) (l : b.length ≤ c) (m : c ≤ 9223372036854775807) (_ : A = none → c = 0) :
    Calls Try.prog 6 #[hdV h, .slice A b.length c] W fun e w' => e = .returned (.bool true) ∧ Below W.heap.size W w' := hback_walk (Old W) (Old W) h A b c W r rb l m
end Go.Proofs.Ytpgfhbkggchliaa
