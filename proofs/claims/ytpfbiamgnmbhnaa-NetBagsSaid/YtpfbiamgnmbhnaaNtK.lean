/- NetBags: the walk. -/
import Derived.Test.YtpfbiamgnmbhnaaNtI
import Derived.Deep.Cut
import Derived.Deep.CutBlock
import Derived.Deep.CutRange
namespace Go.Proofs.Ytpfbiamgnmbhnaa
open Go.RowKit
set_option linter.unusedVariables false
set_option maxRecDepth 100000

/-- What holds between two rounds of the first loop. -/
structure BagsR (W wr : World) (g : Nat) (v : Value) (B : List (List UInt8)) : Prop where
  net : NetV wr W.heap.size g (mkB B)
  row : OwnSt wr W.heap.size v B
  few : ∀ b ∈ B, b.length ≤ 1000
  bel : Below W.heap.size W wr
theorem BagsR.app {W w5 w6 : World} {g : Nat} {v v' : Value} {B B' : List (List UInt8)} (hV : NetV w5 W.heap.size g (mkB B')) (o : OwnSt w5 W.heap.size v B) (o' : OwnSt w6 W.heap.size v' B') (x : Ext w5 w6 v v') (hf : ∀ b ∈ B', b.length ≤ 1000) (bb : Below W.heap.size W w5) : BagsR W w6 g v' B' where
  net := hV.ext x o (by decide) (by decide) (by decide)
  row := o'
  few := hf
  bel := below_app bb o x.grown (Nat.le_refl _) bb.size
theorem few_app {B : List (List UInt8)} {x : List UInt8} (h : ∀ b ∈ B, b.length ≤ 1000) (hx : x.length ≤ 1000) : ∀ b ∈ B ++ [x], b.length ≤ 1000 := by
  intro b hb
  rcases List.mem_append.1 hb with hb | hb
  · exact h b hb
  · obtain rfl : b = x := by simpa using hb
    exact hx
def lenOf : Value → Nat
  | .slice _ n _ => n
  | _ => 0
set_option maxHeartbeats 8000000 in
theorem bags_walk (W : World) (A0 : Option Addr) (L : List AV) (c0 : Nat) (r0 : RdL W (Old W) 5 actC A0 L) (l0 : L.length ≤ c0) (m0 : c0 ≤ 9223372036854775807) (n0 : A0 = none → c0 = 0) (s0 : ∀ s ∈ L, ActI W s)
    (A1 : Option Addr) (P : List Int) (c1 : Nat) (r1 : RdI W (Old W) A1 P) (l1 : P.length ≤ c1) (m1 : c1 ≤ 9223372036854775807) (n1 : A1 = none → c1 = 0) (w1 : ∀ z ∈ P, I64 z) :
    Calls Try.prog 4 #[.slice A0 L.length c0, .slice A1 P.length c1] W fun e w' => e = .returned (.bool true) ∧ Below W.heap.size W w' := by
  have haw := awake15_any W
  go_enter Try.func4, Try.ntmps4
  go_wp2_with fail
  refine haw.mono ?_
  clear haw
  rintro e w1 ⟨rfl, bb1⟩
  have hnew := New_any w1
  go_wp2_with fail
  refine hnew.mono ?_
  clear hnew
  rintro e w2 ⟨g, rfl, hV, b2⟩
  have bb := bb1.thenB' b2
  have hV := hV.low bb1.size
  have HR : BagsR W w2 g (.slice none 0 0) [] := ⟨hV, OwnC.nil, by simp, bb⟩
  clear bb1 b2 bb hV
  go_wp2_with fail
  go_loopw [7, 8, 9] (fun s7 s8 s9 wr => ∃ (j : Nat) (v : Value) (B : List (List UInt8)), v = s7 ∧ s8 = .int .i64 (j : Int) ∧ j ≤ L.length ∧ j ≤ 60 ∧ B.length ≤ j ∧ BagsR W wr g v B) (fun _ s8 _ _ => 60 - (intOf s8).toNat)
  case atStart => exact ⟨0, _, [], rfl, rfl, Nat.zero_le _, Nat.zero_le _, Nat.zero_le _, HR⟩
  case round =>
    clear HR
    obtain ⟨j, v, B, rfl, rfl, hjL, hj60, hB, HR⟩ := hrel
    by_cases hlt : j < L.length
    · by_cases h60 : j < 60
      · have rL := RdL.belowB r0 HR.bel (fun _ h => h)
        obtain ⟨ad, rfl, d0, d1, d2, d3, d4⟩ := rL.act hlt
        have hact := s0 _ (List.getElem_mem hlt)
        have rx0 := hact.2.2.2.2.1
        have rx := Rd.belowB rx0 HR.bel (fun _ h => h)
        have hsc := hact.2.2.2.2.2.1
        clear hact
        generalize L[j] = s at *
        obtain ⟨sk, sf, st, si, sA, sb, sc⟩ := s
        simp only at d0 d1 d2 d3 d4 rx rx0 hsc
        have hS : Blk (wr.alloc (.cells #[.int .i64 sk, .int .i64 sf, .int .i64 st, .int .i64 si, .slice sA sb.length sc] 29)) wr.heap.size 29 #[.int .i64 sk, .int .i64 sf, .int .i64 st, .int .i64 si, .slice sA sb.length sc] := Blk.new wr _ _
        have bn := below_new wr (.cells #[.int .i64 sk, .int .i64 sf, .int .i64 st, .int .i64 si, .slice sA sb.length sc] 29)
        go_upto_region 10 with fail
        have hV := HR.net.below bn
        have bb := HR.bel.thenB bn HR.bel.size
        have rx := RdB.below rx bn
        have hO := OwnC.below HR.row bn
        have hf := HR.few
        clear d0 d1 d2 d3 d4 bn rL HR
        generalize wr.alloc (.cells #[.int .i64 sk, .int .i64 sf, .int .i64 st, .int .i64 si, .slice sA sb.length sc] 29) = wb at *
        generalize wr.heap.size = bx at *
        have d0 := hS.cell 0
        have d3 := hS.cell 3
        have d4 := hS.cell 4
        simp at d0 d3 d4
        by_cases hsh : sb.length ≤ 100
        · have hsh' : ¬ (100 : Int) < (sb.length : Int) := by omega
          obtain ⟨z0, hz0, hz2⟩ := and_mask sk 3 (by decide)
          obtain ⟨z, hz, hz3⟩ : ∃ z : Int, bits .and .i64 sk 3 = z ∧ 0 ≤ z := ⟨z0, hz0, by omega⟩
          clear hz0 hz2
          by_cases hz4 : z < 2
          · have hput := Put_any _ g (mkB B) 3 8 _ sA sc sb wb hV bb.size rx (by omega)
            rw [put_mk B sb (by omega)] at hput
            clear hV
            go_wp2_with fail
            refine hput.mono ?_
            clear hput
            rintro e w6 ⟨rfl, hV, mm⟩
            have hS6 := mm.blk hS (by decide) (by decide)
            have b6 := bb.trans (mm.below bb.size)
            have hO6 := mm.st hO
            have s6 := str_rd (n := sb.length) (c := sc) (Rd.belowB rx0 b6 (fun _ h => h)) rfl
            have d4 := hS6.cell 4
            simp at d4
            clear mm hO rx bb hS d0 d3
            have bn := below_new w6 (.cells #[.string (str sb)] 9)
            have hV7 := hV.below bn
            have hO7 : OwnSt _ W.heap.size v B := OwnC.below hO6 bn
            have b7 := b6.thenB bn b6.size
            have hn7 := rd_newSt w6 sb
            clear hV hO6 b6 bn
            go_wp2_with first
              | (at_builtin; refine wpList_appSt rfl (.tmp 45) (.tmp 49) rfl W.heap.size v B [sb] rfl hO7 _ _ 1 1 rfl rfl hn7 (by simp; omega) b7.size ?_; intro v8 w8 hO8 x8)
            go_roundw
            case rel => exact ⟨j + 1, v8, B ++ [sb], rfl, by go_num, by omega, by omega, by rw [List.length_append]; simp; omega, BagsR.app hV7 hO7 hO8 x8 (few_app hf (by omega)) b7⟩
            case measure => simp only [intOf]; omega
          · have hdbl := Double_any _ g (mkB B) 3 8 si wb hV bb.size (sz_mk hf)
            by_cases hi : 0 ≤ si ∧ si < (B.length : Int)
            · obtain ⟨i, rfl⟩ : ∃ i : Nat, si = i := ⟨si.toNat, by omega⟩
              have hi' : i < B.length := by omega
              rw [double_mk B i hi' (by omega)] at hdbl
              clear hV rx
              go_wp2_with fail
              refine hdbl.mono ?_
              clear hdbl
              rintro e w6 ⟨rfl, hV, mm⟩
              have hS6 := mm.blk hS (by decide) (by decide)
              have b6 := bb.trans (mm.below bb.size)
              have hO6 := mm.st hO
              have d3 := hS6.cell 3
              simp at d3
              obtain ⟨A6, c6, rfl, hc6, hm6⟩ := OwnC.form hO6
              obtain ⟨_, hr6⟩ := OwnSt.flat hO6
              obtain ⟨a6, rfl, hi6⟩ := hr6.atSt hi'
              have hfx : B[i].length ≤ 1000 := hf _ (List.getElem_mem hi')
              generalize B[i] = sx at *
              have bn := below_new w6 (.cells #[.string (str sx)] 9)
              have hV7 := hV.below bn
              have hO7 : OwnSt _ W.heap.size _ B := OwnC.below hO6 bn
              have b7 := b6.thenB bn b6.size
              have hn7 := rd_newSt w6 sx
              have hnl : ¬ ((B.length : Int) ≤ (i : Int)) := by omega
              clear hV hO6 b6 bn mm hO bb hS d0 d4 hr6
              go_wp2_with first
                | (at_builtin; refine wpList_appSt rfl (.tmp 65) (.tmp 71) rfl W.heap.size _ B [sx] rfl hO7 _ _ 1 1 rfl rfl hn7 (by simp; omega) b7.size ?_; intro v8 w8 hO8 x8)
              go_roundw
              case rel => exact ⟨j + 1, v8, B ++ [sx], rfl, by go_num, by omega, by omega, by rw [List.length_append]; simp; omega, BagsR.app hV7 hO7 hO8 x8 (few_app hf hfx) b7⟩
              case measure => simp only [intOf]; omega
            · rw [double_mk' B si (by omega)] at hdbl
              clear hV rx hi
              go_wp2_with fail
              refine hdbl.mono ?_
              clear hdbl
              rintro e w6 ⟨rfl, hV, mm⟩
              have b6 := bb.trans (mm.below bb.size)
              have hO6 := mm.st hO
              clear mm hO bb hS d0 d3 d4
              go_wp2_with fail
              go_roundw
              case rel => exact ⟨j + 1, v, B, rfl, by go_num, by omega, by omega, by omega, ⟨hV, hO6, hf, b6⟩⟩
              case measure => simp only [intOf]; omega
        · have hsh' : (100 : Int) < (sb.length : Int) := by omega
          go_wp2_with fail
          go_ret
          exact ⟨rfl, bb⟩
      · obtain rfl : j = 60 := by omega
        have hc1 := Count_any _ g (mkB B) 3 8 wr HR.net
        have hc2 := Count_any _ g (mkB B) 8 3 wr HR.net
        rw [bag_mk] at hc1
        rw [bag_mk'] at hc2
        have hc2 : Calls Try.prog 11 #[.pointer (some ⟨g, 0, none⟩), .int .i64 8, .int .i64 3] wr fun e w' => e = .returned (.int .i64 0) ∧ wr = w' := hc2
        obtain ⟨A7, c7, rfl, hc7, hm7⟩ := OwnC.form HR.row
        go_wp2_with fail
        refine hc1.mono ?_
        clear hc1
        rintro e w4 ⟨rfl, rfl⟩
        go_wp2_with fail
        refine hc2.mono ?_
        clear hc2
        rintro e w4 ⟨rfl, rfl⟩
        go_wp2_with fail
        go_loopw [7, 10, 11, 12, 13, 14] (fun s7 s10 s11 s12 s13 s14 wx => ∃ (i : Nat) (v : Value) (B : List (List UInt8)), v = s7 ∧ s10 = .int .i64 (i : Int) ∧ i + B.length ≤ 60 ∧ BagsR W wx g v B) (fun s7 _ _ _ _ _ _ => lenOf s7)
        case atStart => exact ⟨0, _, B, rfl, rfl, by omega, HR⟩
        case round =>
          clear HR
          obtain ⟨i, v, B, rfl, rfl, hiB, HR⟩ := hrel
          obtain ⟨A7, c7, rfl, hc7, hm7⟩ := OwnC.form HR.row
          by_cases hB0 : 0 < B.length
          · go_upto_if 91 with fail
            go_cut [11] from 83 to 128 (fun s11 wx => ∃ k : Nat, s11 = .int .i64 (k : Int) ∧ k < B.length ∧ wr = wx)
            case first =>
              by_cases hiP : i < P.length
              · obtain ⟨ap, rfl, _, hp⟩ := RdI.at_ (Rd.belowB r1 HR.bel (fun _ h => h)) hiP
                obtain ⟨z0, hz0, hz2⟩ := and_mask P[i] 1023 (by decide)
                obtain ⟨z, hz, hz3⟩ : ∃ z : Int, bits .and .i64 P[i] 1023 = z ∧ z = (z0 : Int) := ⟨z0, hz0, rfl⟩
                clear hz0
                generalize P[i] = pz at *
                have hz4 : 0 ≤ z := by omega
                have hz5 : z ≤ 1023 := by omega
                have HZ := Lib.hid hz3
                clear hz3
                go_wp2_with fail
                go_meet
                case rel => exact ⟨z0 % B.length, by rw [HZ.out]; rfl, Nat.mod_lt _ hB0, rfl⟩
              · go_wp2_with fail
                go_meet
                case rel => exact ⟨0, rfl, hB0, rfl⟩
            case rest =>
              obtain ⟨k, rfl, hk, rfl⟩ := hcut
              have htk := Take_any _ g (mkB B) 3 8 k wr HR.net HR.bel.size
              rw [take_mk B k hk] at htk
              obtain ⟨sx, hsx0⟩ : ∃ sx, B[k] = sx := ⟨_, rfl⟩
              rw [hsx0] at htk
              have hsx := Lib.hid hsx0
              clear hsx0
              go_wp2_with fail
              refine htk.mono ?_
              clear htk
              rintro e w5 ⟨v5, rfl, o5, hV, mm⟩
              have hO5 := mm.st HR.row
              have b5 := HR.bel.trans (mm.below HR.bel.size)
              obtain ⟨_, hr5⟩ := OwnSt.flat hO5
              obtain ⟨a7, rfl, hk7⟩ := hr5.atSt hk
              have hf := HR.few
              obtain ⟨A5, c5, rfl, _, _⟩ := OwnB.form o5
              have r5 := Rd.of_own o5
              clear mm HR o5
              clear hk7
              go_wp2_with fail
              refine r_start (R := RB) (by rfl) (n := 11) (L := #[false, false, false, false, false, false, false, false, false, false, false]) rfl rfl ?_
              have bd : Below w5.heap.size w5 w5.drew := (Below.refl _ _).drew
              have r5 := Rd.below r5 bd
              have hr5 := Rd.below hr5 bd
              have hO5 : OwnSt _ W.heap.size _ B := OwnC.below hO5 bd
              have hV := hV.below bd
              have b5 := b5.thenB bd b5.size
              clear bd
              generalize w5.drew = w5 at *
              refine r_flt RB_refl 0 106 #[true, false, false, false, false, false, false, false, false, false, false] (by simp only [List.getElem?_toArray, List.getElem?_cons_zero]; rfl) (by rfl) (by kernel_rfl) (by kernel_rfl) (by kernel_rfl) (fun _ _ _ _ h => h) rfl (by rfl) ?_
              apply Exists.intro
              apply And.intro
              · intro W hW
                first | (go_simp; with_reducible rfl) | go_simp
              (try simp only [Act.put, List.setIfInBounds_toArray]); (try simp only [List.set_cons_succ]); (try simp only [List.set_cons_zero])
              refine r_flt RB_refl 1 107 #[true, true, false, false, false, false, false, false, false, false, false] (by simp only [List.getElem?_toArray, List.getElem?_cons_succ, List.getElem?_cons_zero]; rfl) (by rfl) (by kernel_rfl) (by kernel_rfl) (by kernel_rfl) (fun _ _ _ _ h => h) rfl (by rfl) ?_
              apply Exists.intro
              apply And.intro
              · intro W hW
                first | (go_simp; with_reducible rfl) | go_simp
              (try simp only [Act.put, List.setIfInBounds_toArray]); (try simp only [List.set_cons_succ]); (try simp only [List.set_cons_zero])
              refine r_flt RB_refl 2 108 #[true, true, true, false, false, false, false, false, false, false, false] (by simp only [List.getElem?_toArray, List.getElem?_cons_succ, List.getElem?_cons_zero]; rfl) (by rfl) (by kernel_rfl) (by kernel_rfl) (by kernel_rfl) (fun _ _ _ _ h => h) rfl (by rfl) ?_
              apply Exists.intro
              apply And.intro
              · intro W hW
                first | (go_simp; with_reducible rfl) | go_simp
              (try simp only [Act.put, List.setIfInBounds_toArray]); (try simp only [List.set_cons_succ]); (try simp only [List.set_cons_zero])
              refine r_flt RB_refl 3 109 #[true, true, true, true, false, false, false, false, false, false, false] (by simp only [List.getElem?_toArray, List.getElem?_cons_succ, List.getElem?_cons_zero]; rfl) (by rfl) (by kernel_rfl) (by kernel_rfl) (by kernel_rfl) (fun _ _ _ _ h => h) rfl (by rfl) ?_
              apply Exists.intro
              apply And.intro
              · intro W hW
                first | (go_simp; with_reducible rfl) | go_simp
              (try simp only [Act.put, List.setIfInBounds_toArray]); (try simp only [List.set_cons_succ]); (try simp only [List.set_cons_zero])
              refine r_flt RB_refl 4 110 #[true, true, true, true, true, false, false, false, false, false, false] (by simp only [List.getElem?_toArray, List.getElem?_cons_succ, List.getElem?_cons_zero]; rfl) (by rfl) (by kernel_rfl) (by kernel_rfl) (by kernel_rfl) (fun _ _ _ _ h => h) rfl (by rfl) ?_
              apply Exists.intro
              apply And.intro
              · intro W hW
                have s5 := str_rd (n := sx.length) (c := c5) (Rd.below r5 hW) rfl
                go_simp; rfl
              (try simp only [Act.put, List.setIfInBounds_toArray]); (try simp only [List.set_cons_succ]); (try simp only [List.set_cons_zero])
              refine r_flt RB_refl 5 111 #[true, true, true, true, true, true, false, false, false, false, false] (by simp only [List.getElem?_toArray, List.getElem?_cons_succ, List.getElem?_cons_zero]; rfl) (by rfl) (by kernel_rfl) (by kernel_rfl) (by kernel_rfl) (fun _ _ _ _ h => h) rfl (by rfl) ?_
              apply Exists.intro
              apply And.intro
              · intro W hW
                first | (go_simp; with_reducible rfl) | go_simp
              (try simp only [Act.put, List.setIfInBounds_toArray]); (try simp only [List.set_cons_succ]); (try simp only [List.set_cons_zero])
              refine r_flt RB_refl 6 112 #[true, true, true, true, true, true, true, false, false, false, false] (by simp only [List.getElem?_toArray, List.getElem?_cons_succ, List.getElem?_cons_zero]; rfl) (by rfl) (by kernel_rfl) (by kernel_rfl) (by kernel_rfl) (fun _ _ _ _ h => h) rfl (by rfl) ?_
              apply Exists.intro
              apply And.intro
              · intro W hW
                first | (go_simp; with_reducible rfl) | go_simp
              (try simp only [Act.put, List.setIfInBounds_toArray]); (try simp only [List.set_cons_succ]); (try simp only [List.set_cons_zero])
              refine r_flt RB_refl 7 113 #[true, true, true, true, true, true, true, true, false, false, false] (by simp only [List.getElem?_toArray, List.getElem?_cons_succ, List.getElem?_cons_zero]; rfl) (by rfl) (by kernel_rfl) (by kernel_rfl) (by kernel_rfl) (fun _ _ _ _ h => h) rfl (by rfl) ?_
              apply Exists.intro
              apply And.intro
              · intro W hW
                first | (go_simp; with_reducible rfl) | go_simp
              (try simp only [Act.put, List.setIfInBounds_toArray]); (try simp only [List.set_cons_succ]); (try simp only [List.set_cons_zero])
              refine r_flt RB_refl 8 114 #[true, true, true, true, true, true, true, true, true, false, false] (by simp only [List.getElem?_toArray, List.getElem?_cons_succ, List.getElem?_cons_zero]; rfl) (by rfl) (by kernel_rfl) (by kernel_rfl) (by kernel_rfl) (fun _ _ _ _ h => h) rfl (by rfl) ?_
              apply Exists.intro
              apply And.intro
              · intro W hW
                obtain ⟨a8, ha8, hk8⟩ := (Rd.below hr5 hW).atSt hk
                injection ha8 with ha8
                subst ha8
                rw [hsx.out] at hk8
                go_simp; rfl
              (try simp only [Act.put, List.setIfInBounds_toArray]); (try simp only [List.set_cons_succ]); (try simp only [List.set_cons_zero])
              refine r_flt RB_refl 9 115 #[true, true, true, true, true, true, true, true, true, true, false] (by simp only [List.getElem?_toArray, List.getElem?_cons_succ, List.getElem?_cons_zero]; rfl) (by rfl) (by kernel_rfl) (by kernel_rfl) (by kernel_rfl) (fun _ _ _ _ h => h) rfl (by rfl) ?_
              apply Exists.intro
              apply And.intro
              · intro W hW
                first | (go_simp; with_reducible rfl) | go_simp
              (try simp only [Act.put, List.setIfInBounds_toArray]); (try simp only [List.set_cons_succ]); (try simp only [List.set_cons_zero])
              refine r_flt RB_refl 10 116 #[true, true, true, true, true, true, true, true, true, true, true] (by simp only [List.getElem?_toArray, List.getElem?_cons_succ, List.getElem?_cons_zero]; rfl) (by rfl) (by kernel_rfl) (by kernel_rfl) (by kernel_rfl) (fun _ _ _ _ h => h) rfl (by rfl) ?_
              apply Exists.intro
              apply And.intro
              · intro W hW
                first | (go_simp; with_reducible rfl) | go_simp
              (try simp only [Act.put, List.setIfInBounds_toArray]); (try simp only [List.set_cons_succ]); (try simp only [List.set_cons_zero])
              refine r_done (by kernel_rfl) ?_
              have hc9 : Rd w5 (fun b => W.heap.size ≤ b ∧ (Value.slice (some a7) B.length c7).ownBlock = some b) 1 (cutA (some a7) (k + 1) c7 1) (B.length - (k + 1)) (flC stC (B.drop (k + 1))) := hr5.cutSt (by omega) hc7
              have hc8 := hr5.takeSt (k := k) (by omega)
              have hwr : IntKind.i64.wrap ((k : Int) + 1) = (k : Int) + 1 := by rw [IntKind.wrap_i64]; omega
              have htn : ((k : Int) + 1).toNat = k + 1 := by omega
              have h0p : (0 : Int) ≤ (k : Int) + 1 ∧ (k : Int) + 1 ≤ (B.length : Int) := by omega
              have hkc : k ≤ c7 := by omega
              have hf' : ∀ b ∈ [] ++ B.take k ++ B.drop (k + 1), b.length ≤ 1000 := by
                intro b hb
                rw [List.nil_append, ← List.eraseIdx_eq_take_drop_succ] at hb
                exact hf b ((List.eraseIdx_sublist _ _).subset hb)
              have hl' : i + 1 + ([] ++ B.take k ++ B.drop (k + 1)).length ≤ 60 := by
                rw [List.nil_append, ← List.eraseIdx_eq_take_drop_succ, List.length_eraseIdx_of_lt hk]
                omega
              have HF := Lib.hid hf'
              have HL := Lib.hid hl'
              have HV : Hid (mkB (B.eraseIdx k) = mkB ([] ++ B.take k ++ B.drop (k + 1))) := by
                unfold Hid
                rw [List.nil_append, ← List.eraseIdx_eq_take_drop_succ]
              have HK := Lib.hid hk
              clear hf hf' hl' r5 hO5 hr5 hsx
              go_wp2_with first
                | (at_builtin; refine wpList_appSt rfl (.tmp 117) (.tmp 120) rfl W.heap.size (.slice none 0 0) [] (B.take k) rfl OwnC.nil _ (some a7) k c7 rfl (by rw [List.length_take]; omega) hc8 (by simp; omega) b5.size ?_; intro v6 w6 hO6 x6
                   have b6 := x6.of_nil
                   have hc9' := Rd.below hc9 b6
                   have hV6 := hV.below b6
                   have bb6 := b5.thenB b6 b5.size
                   clear b6 x6)
                | (at_builtin; refine wpList_appSt rfl (.tmp 122) (.tmp 126) rfl W.heap.size _ ([] ++ B.take k) (B.drop (k + 1)) rfl hO6 _ _ (B.length - (k + 1)) (c7 - (k + 1)) rfl (by rw [List.length_drop]) hc9' (by simp; omega) bb6.size ?_; intro v7 w7 hO7 x7)
              have hlen7 := OwnC.form hO7
              obtain ⟨A9, c9, rfl, _, _⟩ := hlen7
              go_roundw
              case rel => exact ⟨i + 1, _, _, rfl, by go_num, HL.out, BagsR.app (by rw [HV.out] at hV6; exact hV6) hO6 hO7 x7 HF.out bb6⟩
              case measure =>
                have := HL.out
                simp only [lenOf]
                have hk := HK.out
                simp only [List.nil_append, List.length_append, List.length_take, List.length_drop]
                omega
          · obtain rfl : B = [] := List.eq_nil_of_length_eq_zero (by omega)
            have ht := Total_any _ g _ wr HR.net
            have hl := Links_any _ g _ wr HR.net
            have ht : Calls Try.prog 10 #[.pointer (some ⟨g, 0, none⟩)] wr fun e w' => e = .returned (.int .i64 0) ∧ wr = w' := ht
            have bb := HR.bel
            clear HR
            go_wp2_with fail
            refine ht.mono ?_
            clear ht
            rintro e w7 ⟨rfl, rfl⟩
            go_wp2_with fail
            refine hl.mono ?_
            clear hl
            rintro e w7 ⟨v, E, rfl, p1, p2, p3, b7⟩
            have hlen : E.length = 0 := links_none p2 rfl
            obtain ⟨A7, c7, rfl, _, _⟩ := OwnC.form p3
            rw [hlen]
            go_wp2_with fail
            go_ret
            exact ⟨rfl, bb.thenB b7 bb.size⟩
    · obtain rfl : j = L.length := by omega
      have hc1 := Count_any _ g (mkB B) 3 8 wr HR.net
      have hc2 := Count_any _ g (mkB B) 8 3 wr HR.net
      rw [bag_mk] at hc1
      rw [bag_mk'] at hc2
      have hc2 : Calls Try.prog 11 #[.pointer (some ⟨g, 0, none⟩), .int .i64 8, .int .i64 3] wr fun e w' => e = .returned (.int .i64 0) ∧ wr = w' := hc2
      obtain ⟨A7, c7, rfl, hc7, hm7⟩ := OwnC.form HR.row
      go_wp2_with fail
      refine hc1.mono ?_
      clear hc1
      rintro e w4 ⟨rfl, rfl⟩
      go_wp2_with fail
      refine hc2.mono ?_
      clear hc2
      rintro e w4 ⟨rfl, rfl⟩
      go_wp2_with fail
      go_loopw [7, 10, 11, 12, 13, 14] (fun s7 s10 s11 s12 s13 s14 wx => ∃ (i : Nat) (v : Value) (B : List (List UInt8)), v = s7 ∧ s10 = .int .i64 (i : Int) ∧ i + B.length ≤ 60 ∧ BagsR W wx g v B) (fun s7 _ _ _ _ _ _ => lenOf s7)
      case atStart => exact ⟨0, _, B, rfl, rfl, by omega, HR⟩
      case round =>
        clear HR
        obtain ⟨i, v, B, rfl, rfl, hiB, HR⟩ := hrel
        obtain ⟨A7, c7, rfl, hc7, hm7⟩ := OwnC.form HR.row
        by_cases hB0 : 0 < B.length
        · go_upto_if 91 with fail
          go_cut [11] from 83 to 128 (fun s11 wx => ∃ k : Nat, s11 = .int .i64 (k : Int) ∧ k < B.length ∧ wr = wx)
          case first =>
            by_cases hiP : i < P.length
            · obtain ⟨ap, rfl, _, hp⟩ := RdI.at_ (Rd.belowB r1 HR.bel (fun _ h => h)) hiP
              obtain ⟨z0, hz0, hz2⟩ := and_mask P[i] 1023 (by decide)
              obtain ⟨z, hz, hz3⟩ : ∃ z : Int, bits .and .i64 P[i] 1023 = z ∧ z = (z0 : Int) := ⟨z0, hz0, rfl⟩
              clear hz0
              generalize P[i] = pz at *
              have hz4 : 0 ≤ z := by omega
              have hz5 : z ≤ 1023 := by omega
              have HZ := Lib.hid hz3
              clear hz3
              go_wp2_with fail
              go_meet
              case rel => exact ⟨z0 % B.length, by rw [HZ.out]; rfl, Nat.mod_lt _ hB0, rfl⟩
            · go_wp2_with fail
              go_meet
              case rel => exact ⟨0, rfl, hB0, rfl⟩
          case rest =>
            obtain ⟨k, rfl, hk, rfl⟩ := hcut
            have htk := Take_any _ g (mkB B) 3 8 k wr HR.net HR.bel.size
            rw [take_mk B k hk] at htk
            obtain ⟨sx, hsx0⟩ : ∃ sx, B[k] = sx := ⟨_, rfl⟩
            rw [hsx0] at htk
            have hsx := Lib.hid hsx0
            clear hsx0
            go_wp2_with fail
            refine htk.mono ?_
            clear htk
            rintro e w5 ⟨v5, rfl, o5, hV, mm⟩
            have hO5 := mm.st HR.row
            have b5 := HR.bel.trans (mm.below HR.bel.size)
            obtain ⟨_, hr5⟩ := OwnSt.flat hO5
            obtain ⟨a7, rfl, hk7⟩ := hr5.atSt hk
            have hf := HR.few
            obtain ⟨A5, c5, rfl, _, _⟩ := OwnB.form o5
            have r5 := Rd.of_own o5
            clear mm HR o5
            clear hk7
            go_wp2_with fail
            refine r_start (R := RB) (by rfl) (n := 11) (L := #[false, false, false, false, false, false, false, false, false, false, false]) rfl rfl ?_
            have bd : Below w5.heap.size w5 w5.drew := (Below.refl _ _).drew
            have r5 := Rd.below r5 bd
            have hr5 := Rd.below hr5 bd
            have hO5 : OwnSt _ W.heap.size _ B := OwnC.below hO5 bd
            have hV := hV.below bd
            have b5 := b5.thenB bd b5.size
            clear bd
            generalize w5.drew = w5 at *
            refine r_flt RB_refl 0 106 #[true, false, false, false, false, false, false, false, false, false, false] (by simp only [List.getElem?_toArray, List.getElem?_cons_zero]; rfl) (by rfl) (by kernel_rfl) (by kernel_rfl) (by kernel_rfl) (fun _ _ _ _ h => h) rfl (by rfl) ?_
            apply Exists.intro
            apply And.intro
            · intro W hW
              first | (go_simp; with_reducible rfl) | go_simp
            (try simp only [Act.put, List.setIfInBounds_toArray]); (try simp only [List.set_cons_succ]); (try simp only [List.set_cons_zero])
            refine r_flt RB_refl 1 107 #[true, true, false, false, false, false, false, false, false, false, false] (by simp only [List.getElem?_toArray, List.getElem?_cons_succ, List.getElem?_cons_zero]; rfl) (by rfl) (by kernel_rfl) (by kernel_rfl) (by kernel_rfl) (fun _ _ _ _ h => h) rfl (by rfl) ?_
            apply Exists.intro
            apply And.intro
            · intro W hW
              first | (go_simp; with_reducible rfl) | go_simp
            (try simp only [Act.put, List.setIfInBounds_toArray]); (try simp only [List.set_cons_succ]); (try simp only [List.set_cons_zero])
            refine r_flt RB_refl 2 108 #[true, true, true, false, false, false, false, false, false, false, false] (by simp only [List.getElem?_toArray, List.getElem?_cons_succ, List.getElem?_cons_zero]; rfl) (by rfl) (by kernel_rfl) (by kernel_rfl) (by kernel_rfl) (fun _ _ _ _ h => h) rfl (by rfl) ?_
            apply Exists.intro
            apply And.intro
            · intro W hW
              first | (go_simp; with_reducible rfl) | go_simp
            (try simp only [Act.put, List.setIfInBounds_toArray]); (try simp only [List.set_cons_succ]); (try simp only [List.set_cons_zero])
            refine r_flt RB_refl 3 109 #[true, true, true, true, false, false, false, false, false, false, false] (by simp only [List.getElem?_toArray, List.getElem?_cons_succ, List.getElem?_cons_zero]; rfl) (by rfl) (by kernel_rfl) (by kernel_rfl) (by kernel_rfl) (fun _ _ _ _ h => h) rfl (by rfl) ?_
            apply Exists.intro
            apply And.intro
            · intro W hW
              first | (go_simp; with_reducible rfl) | go_simp
            (try simp only [Act.put, List.setIfInBounds_toArray]); (try simp only [List.set_cons_succ]); (try simp only [List.set_cons_zero])
            refine r_flt RB_refl 4 110 #[true, true, true, true, true, false, false, false, false, false, false] (by simp only [List.getElem?_toArray, List.getElem?_cons_succ, List.getElem?_cons_zero]; rfl) (by rfl) (by kernel_rfl) (by kernel_rfl) (by kernel_rfl) (fun _ _ _ _ h => h) rfl (by rfl) ?_
            apply Exists.intro
            apply And.intro
            · intro W hW
              have s5 := str_rd (n := sx.length) (c := c5) (Rd.below r5 hW) rfl
              go_simp; rfl
            (try simp only [Act.put, List.setIfInBounds_toArray]); (try simp only [List.set_cons_succ]); (try simp only [List.set_cons_zero])
            refine r_flt RB_refl 5 111 #[true, true, true, true, true, true, false, false, false, false, false] (by simp only [List.getElem?_toArray, List.getElem?_cons_succ, List.getElem?_cons_zero]; rfl) (by rfl) (by kernel_rfl) (by kernel_rfl) (by kernel_rfl) (fun _ _ _ _ h => h) rfl (by rfl) ?_
            apply Exists.intro
            apply And.intro
            · intro W hW
              first | (go_simp; with_reducible rfl) | go_simp
            (try simp only [Act.put, List.setIfInBounds_toArray]); (try simp only [List.set_cons_succ]); (try simp only [List.set_cons_zero])
            refine r_flt RB_refl 6 112 #[true, true, true, true, true, true, true, false, false, false, false] (by simp only [List.getElem?_toArray, List.getElem?_cons_succ, List.getElem?_cons_zero]; rfl) (by rfl) (by kernel_rfl) (by kernel_rfl) (by kernel_rfl) (fun _ _ _ _ h => h) rfl (by rfl) ?_
            apply Exists.intro
            apply And.intro
            · intro W hW
              first | (go_simp; with_reducible rfl) | go_simp
            (try simp only [Act.put, List.setIfInBounds_toArray]); (try simp only [List.set_cons_succ]); (try simp only [List.set_cons_zero])
            refine r_flt RB_refl 7 113 #[true, true, true, true, true, true, true, true, false, false, false] (by simp only [List.getElem?_toArray, List.getElem?_cons_succ, List.getElem?_cons_zero]; rfl) (by rfl) (by kernel_rfl) (by kernel_rfl) (by kernel_rfl) (fun _ _ _ _ h => h) rfl (by rfl) ?_
            apply Exists.intro
            apply And.intro
            · intro W hW
              first | (go_simp; with_reducible rfl) | go_simp
            (try simp only [Act.put, List.setIfInBounds_toArray]); (try simp only [List.set_cons_succ]); (try simp only [List.set_cons_zero])
            refine r_flt RB_refl 8 114 #[true, true, true, true, true, true, true, true, true, false, false] (by simp only [List.getElem?_toArray, List.getElem?_cons_succ, List.getElem?_cons_zero]; rfl) (by rfl) (by kernel_rfl) (by kernel_rfl) (by kernel_rfl) (fun _ _ _ _ h => h) rfl (by rfl) ?_
            apply Exists.intro
            apply And.intro
            · intro W hW
              obtain ⟨a8, ha8, hk8⟩ := (Rd.below hr5 hW).atSt hk
              injection ha8 with ha8
              subst ha8
              rw [hsx.out] at hk8
              go_simp; rfl
            (try simp only [Act.put, List.setIfInBounds_toArray]); (try simp only [List.set_cons_succ]); (try simp only [List.set_cons_zero])
            refine r_flt RB_refl 9 115 #[true, true, true, true, true, true, true, true, true, true, false] (by simp only [List.getElem?_toArray, List.getElem?_cons_succ, List.getElem?_cons_zero]; rfl) (by rfl) (by kernel_rfl) (by kernel_rfl) (by kernel_rfl) (fun _ _ _ _ h => h) rfl (by rfl) ?_
            apply Exists.intro
            apply And.intro
            · intro W hW
              first | (go_simp; with_reducible rfl) | go_simp
            (try simp only [Act.put, List.setIfInBounds_toArray]); (try simp only [List.set_cons_succ]); (try simp only [List.set_cons_zero])
            refine r_flt RB_refl 10 116 #[true, true, true, true, true, true, true, true, true, true, true] (by simp only [List.getElem?_toArray, List.getElem?_cons_succ, List.getElem?_cons_zero]; rfl) (by rfl) (by kernel_rfl) (by kernel_rfl) (by kernel_rfl) (fun _ _ _ _ h => h) rfl (by rfl) ?_
            apply Exists.intro
            apply And.intro
            · intro W hW
              first | (go_simp; with_reducible rfl) | go_simp
            (try simp only [Act.put, List.setIfInBounds_toArray]); (try simp only [List.set_cons_succ]); (try simp only [List.set_cons_zero])
            refine r_done (by kernel_rfl) ?_
            have hc9 : Rd w5 (fun b => W.heap.size ≤ b ∧ (Value.slice (some a7) B.length c7).ownBlock = some b) 1 (cutA (some a7) (k + 1) c7 1) (B.length - (k + 1)) (flC stC (B.drop (k + 1))) := hr5.cutSt (by omega) hc7
            have hc8 := hr5.takeSt (k := k) (by omega)
            have hwr : IntKind.i64.wrap ((k : Int) + 1) = (k : Int) + 1 := by rw [IntKind.wrap_i64]; omega
            have htn : ((k : Int) + 1).toNat = k + 1 := by omega
            have h0p : (0 : Int) ≤ (k : Int) + 1 ∧ (k : Int) + 1 ≤ (B.length : Int) := by omega
            have hkc : k ≤ c7 := by omega
            have hf' : ∀ b ∈ [] ++ B.take k ++ B.drop (k + 1), b.length ≤ 1000 := by
              intro b hb
              rw [List.nil_append, ← List.eraseIdx_eq_take_drop_succ] at hb
              exact hf b ((List.eraseIdx_sublist _ _).subset hb)
            have hl' : i + 1 + ([] ++ B.take k ++ B.drop (k + 1)).length ≤ 60 := by
              rw [List.nil_append, ← List.eraseIdx_eq_take_drop_succ, List.length_eraseIdx_of_lt hk]
              omega
            have HF := Lib.hid hf'
            have HL := Lib.hid hl'
            have HV : Hid (mkB (B.eraseIdx k) = mkB ([] ++ B.take k ++ B.drop (k + 1))) := by
              unfold Hid
              rw [List.nil_append, ← List.eraseIdx_eq_take_drop_succ]
            have HK := Lib.hid hk
            clear hf hf' hl' r5 hO5 hr5 hsx
            go_wp2_with first
              | (at_builtin; refine wpList_appSt rfl (.tmp 117) (.tmp 120) rfl W.heap.size (.slice none 0 0) [] (B.take k) rfl OwnC.nil _ (some a7) k c7 rfl (by rw [List.length_take]; omega) hc8 (by simp; omega) b5.size ?_; intro v6 w6 hO6 x6
                 have b6 := x6.of_nil
                 have hc9' := Rd.below hc9 b6
                 have hV6 := hV.below b6
                 have bb6 := b5.thenB b6 b5.size
                 clear b6 x6)
              | (at_builtin; refine wpList_appSt rfl (.tmp 122) (.tmp 126) rfl W.heap.size _ ([] ++ B.take k) (B.drop (k + 1)) rfl hO6 _ _ (B.length - (k + 1)) (c7 - (k + 1)) rfl (by rw [List.length_drop]) hc9' (by simp; omega) bb6.size ?_; intro v7 w7 hO7 x7)
            have hlen7 := OwnC.form hO7
            obtain ⟨A9, c9, rfl, _, _⟩ := hlen7
            go_roundw
            case rel => exact ⟨i + 1, _, _, rfl, by go_num, HL.out, BagsR.app (by rw [HV.out] at hV6; exact hV6) hO6 hO7 x7 HF.out bb6⟩
            case measure =>
              have := HL.out
              simp only [lenOf]
              have hk := HK.out
              simp only [List.nil_append, List.length_append, List.length_take, List.length_drop]
              omega
        · obtain rfl : B = [] := List.eq_nil_of_length_eq_zero (by omega)
          have ht := Total_any _ g _ wr HR.net
          have hl := Links_any _ g _ wr HR.net
          have ht : Calls Try.prog 10 #[.pointer (some ⟨g, 0, none⟩)] wr fun e w' => e = .returned (.int .i64 0) ∧ wr = w' := ht
          have bb := HR.bel
          clear HR
          go_wp2_with fail
          refine ht.mono ?_
          clear ht
          rintro e w7 ⟨rfl, rfl⟩
          go_wp2_with fail
          refine hl.mono ?_
          clear hl
          rintro e w7 ⟨v, E, rfl, p1, p2, p3, b7⟩
          have hlen : E.length = 0 := links_none p2 rfl
          obtain ⟨A7, c7, rfl, _, _⟩ := OwnC.form p3
          rw [hlen]
          go_wp2_with fail
          go_ret
          exact ⟨rfl, bb.thenB b7 bb.size⟩
end Go.Proofs.Ytpfbiamgnmbhnaa
