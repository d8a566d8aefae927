import Derived.Test.YthkcdoneghcglaaDoorBndV
import Derived.Test.YthkcdoneghcglaaDoorScrM
set_option linter.unusedSimpArgs false
set_option linter.unusedVariables false
/- The law BandBack. -/
namespace Go.Proofs.YthkcdoneghcglaaDoor
open Go Go.RowKit
theorem text_eq {A B : List Int} (ha : goodI A = true) (hb : goodI B = true) : (textB A == textB B) = decide (A = B) := by
  by_cases h : A = B
  · rw [h]; simp
  · rw [decide_eq_false h]
    have : textB A ≠ textB B := fun e => h (by
      have h1 := pPar_text ha
      rw [e, pPar_text hb] at h1
      exact (Option.some.inj h1).symm)
    simp [this]
theorem cnt_snoc {A : List Int} {k : Nat} {x : Int} (W : Int) (h : A[k]? = some x) : (((A.take (k + 1)).filter fun x => decide (x < W)).length : Int) = ((A.take k).filter fun x => decide (x < W)).length + (if x < W then 1 else 0) := by
  rw [List.take_add_one, h, List.filter_append, List.length_append]
  by_cases q : x < W <;> simp [q]
theorem risen_len (w : Int) : ∀ (G : List (Int × Int)) (t : Int), risen w t G → (G.length : Int) ≤ max 0 (w - t) ∧ 0 ≤ sumG G
  | [], t, _ => by simp [sumG]; omega
  | g :: G, t, ⟨h1, h2, h3, h4⟩ => by
    have := risen_len w G _ h4
    rw [sumG]; simp; omega
theorem textB_len (A : List Int) (hg : goodI A = true) (h : A.length ≤ 60) : (textB A).length ≤ 4000 := by
  unfold textB
  split
  · simp
  · have := textR_len (runs A) 60 (Nat.le_trans (runs_len A) h) (fun p hp => by have := vr_i64 (runs A) (-1) (by decide) (vr_runs hg) p hp; unfold I64; omega)
    omega
set_option maxRecDepth 10000 in
set_option maxHeartbeats 16000000 in
theorem bandBack_main (a b : Option Addr) (ca cb : Nat) (A B : List Int) (z : Int) (hz : I64 z) (w : World) (hla : A.length ≤ 9223372036854775807) (hlb : B.length ≤ 9223372036854775807) (hA : Ins w a A) (hB : Ins w b B) (hbn : b = none → cb = 0) (hL : LibOK w) :
    Calls Tryd.prog 7 #[.slice a A.length ca, .slice b B.length cb, .int .i64 z] w fun e w' => e = .returned (.bool true) ∧ Same w w' := by
  refine opq fun R HR => ?_
  have HL := Lib.hid hL
  have IA := Lib.hid hA
  have IB := Lib.hid hB
  have HBN := Lib.hid hbn
  obtain ⟨na, hna⟩ : ∃ n, A.length = n := ⟨_, rfl⟩
  obtain ⟨nb, hnb⟩ : ∃ n, B.length = n := ⟨_, rfl⟩
  rw [hna] at hla ⊢
  rw [hnb] at hlb ⊢
  have HNA := Lib.hid hna
  have HNB := Lib.hid hnb
  clear hL hA hB hbn hna hnb
  by_cases hab : na ≤ 60 ∧ nb ≤ 60
  · obtain ⟨ha60, hb60⟩ := hab
    have T1 := Lib.hid (fun w' (M : Same w w') => btext_any a ca A w' (by rw [HNA.out]; omega) (IA.out.same M) (HL.out.same M))
    have T2 := Lib.hid (fun w' (M : Same w w') => btext_any b cb B w' (by rw [HNB.out]; omega) (IB.out.same M) (HL.out.same M))
    have HPr := Lib.hid (fun (hg : goodI A = true) w' (M : Same w w') => bparse_any (textB A) (Nat.le_trans (textB_len A hg (by rw [HNA.out]; exact ha60)) (by decide)) w' (HL.out.same M))
    have HI1 := Lib.hid (fun w' (M : Same w w') a' c' (h : Ins w' a' A) => ints2_any a' a c' ca A A w' (by rw [HNA.out]; omega) (by rw [HNA.out]; omega) h (IA.out.same M))
    have HI2 := Lib.hid (fun w' (M : Same w w') => ints2_any a b ca cb A B w' (by rw [HNA.out]; omega) (by rw [HNB.out]; omega) (IA.out.same M) (IB.out.same M))
    have HGp := Lib.hid (fun w' W (hW : I64 W) (M : Same w w') => gaps_any a ca A W hW w' (by rw [HNA.out]; omega) (IA.out.same M))
    rw [HNA.out] at T1 HI1 HI2 HGp
    rw [HNB.out] at T2 HI2
    unfold btextV at T1 T2
    have HTl := Lib.hid (fun hg => textB_len A hg (by rw [HNA.out]; exact ha60))
    go_enter Tryd.func7, Tryd.ntmps7
    go_wp2_with fail
    refine (awake_any w HL.out).mono ?_
    rintro e w1 ⟨rfl, M⟩
    have K1 := Lib.hid M
    clear M
    have d1 : decide ((na : Int) > 60) = false := decide_eq_false (by omega)
    have d2 : decide (na > 60) = false := decide_eq_false (by omega)
    have d3 : decide ((60 : Int) < (na : Int)) = false := decide_eq_false (by omega)
    have d4 : decide (60 < na) = false := decide_eq_false (by omega)
    have d5 : decide ((nb : Int) > 60) = false := decide_eq_false (by omega)
    have d6 : decide (nb > 60) = false := decide_eq_false (by omega)
    have d7 : decide ((60 : Int) < (nb : Int)) = false := decide_eq_false (by omega)
    have d8 : decide (60 < nb) = false := decide_eq_false (by omega)
    go_wp2_with fail
    refine (T1.out _ K1.out).mono ?_
    rintro e w2 ⟨rfl, M⟩
    have K2 := Lib.hid (K1.out.same M)
    clear M T1 K1
    cases hga : goodI A with
    | false =>
      rw [if_neg (by decide)]
      cases hgb : goodI B with
      | false =>
        rw [hgb, if_neg (by decide)] at T2
        go_wp2_with fail
        refine (T2.out _ K2.out).mono ?_
        rintro e w3 ⟨rfl, M⟩
        go_wp2
        exact HR.out _ _ ⟨rfl, K2.out.same M⟩
      | true =>
        rw [hgb, if_pos rfl] at T2
        unfold strV at T2
        go_wp2_with fail
        refine (T2.out _ K2.out).mono ?_
        rintro e w3 ⟨rfl, M⟩
        go_wp2
        exact HR.out _ _ ⟨rfl, K2.out.same M⟩
    | true =>
      rw [if_pos rfl]
      cases hgb : goodI B with
      | false =>
        rw [hgb, if_neg (by decide)] at T2
        unfold strV
        go_wp2_with fail
        refine (T2.out _ K2.out).mono ?_
        rintro e w3 ⟨rfl, M⟩
        go_wp2
        exact HR.out _ _ ⟨rfl, K2.out.same M⟩
      | true =>
        rw [hgb, if_pos rfl] at T2
        have hq := text_eq hga hgb
        have HPr2 := Lib.hid (HPr.out hga)
        rw [pPar_text hga] at HPr2
        unfold PaB at HPr2
        unfold strV at T2 HPr2 ⊢
        clear HPr
        generalize textB A = TA at *
        generalize textB B = TB at *
        go_wp2_with fail
        refine (T2.out _ K2.out).mono ?_
        rintro e w3 ⟨rfl, M⟩
        have K3 := Lib.hid (K2.out.same M)
        clear M T2 K2
        go_wp2_with fail
        refine (HPr2.out _ K3.out).mono ?_
        rintro e w4 ⟨⟨a4, c4, rfl, hI4⟩, M⟩
        rw [HNA.out]
        have K4 := Lib.hid (K3.out.same M)
        have I4 := Lib.hid hI4
        clear M hI4 K3 HPr2
        go_wp2_with fail
        refine (HI1.out _ K4.out a4 c4 I4.out).mono ?_
        rintro e w5 ⟨rfl, M⟩
        simp only [decide_true]
        have K5 := Lib.hid (K4.out.same M)
        clear M HI1 I4 K4
        go_wp2_with fail
        refine (HI2.out _ K5.out).mono ?_
        rintro e w6 ⟨rfl, M⟩
        have K6 := Lib.hid (K5.out.same M)
        clear M HI2 K5
        rw [← hq]
        have hqn : ((TA == TB) != (TA == TB)) = false := by cases (TA == TB) <;> rfl
        clear hq
        obtain ⟨Z, hZ⟩ : ∃ Z, IntKind.u64.wrap z = Z := ⟨_, rfl⟩
        have hZ0 : 0 ≤ Z ∧ Z < 18446744073709551616 := by rw [← hZ]; unfold IntKind.wrap; simp [IntKind.signed, IntKind.bits]; omega
        obtain ⟨W, hW⟩ : ∃ W, Z % 200 = W := ⟨_, rfl⟩
        have hW0 : 0 ≤ W ∧ W < 200 := by omega
        have hr1 : Z.tmod 200 = W := by rw [Int.tmod_eq_emod_of_nonneg hZ0.1]; exact hW
        have hr2 : IntKind.u64.wrap W = W := wraps_u64 W hW0.1 (by omega)
        have hr3 : IntKind.i64.wrap W = W := IntWalk.i64_in _ (by omega)
        clear hW
        have hC : Hid (risen W (-1) (gapsL A W) ∧ sumG (gapsL A W) + ((A.filter fun x => decide (x < W)).length : Int) = W) := Lib.hid (gaps_law hga hW0.1 (by omega))
        go_wp2_with fail
        go_loopw [15, 14] (fun vi vc wr => ∃ k : Nat, k ≤ na ∧ vi = .int .i64 (k : Int) ∧ vc = .int .i64 (((A.take k).filter fun x => decide (x < W)).length : Int) ∧ Same w wr) (fun vi _ _ => na - (intOf vi).toNat)
        case atStart => exact ⟨0, by omega, rfl, rfl, K6.out⟩
        case round =>
          obtain ⟨k, hk, rfl, rfl, M⟩ := hrel
          have J := Lib.hid M
          clear M
          have hfl : ((A.take k).filter fun x => decide (x < W)).length ≤ 60 := Nat.le_trans (List.length_filter_le _ _) (Nat.le_trans (List.length_take_le _ _) (by omega))
          by_cases hlt : k < na
          · obtain ⟨b1, o1, rfl, hb1, hc1⟩ := IA.out (by rw [HNA.out]; omega)
            obtain ⟨x, hx⟩ : ∃ x, A[k]? = some x := ⟨_, List.getElem?_eq_getElem (by rw [HNA.out]; exact hlt)⟩
            have e0 := (J.out.cell hb1 (fun q => q) _).trans (hc1 k x hx)
            have HCn := Lib.hid (cnt_snoc W hx)
            clear hc1 hx
            generalize ((A.take k).filter fun x => decide (x < W)).length = c1 at *
            by_cases hxW : x < W
            · rw [if_pos hxW] at HCn
              have d9 : decide (x < W) = true := decide_eq_true hxW
              go_wp2_with fail
              go_roundw
              case rel => exact ⟨k + 1, by omega, by go_num, by rw [HCn.out], J.out⟩
              case measure => simp [intOf]; omega
            · rw [if_neg hxW, Int.add_zero] at HCn
              have d9 : decide (x < W) = false := decide_eq_false hxW
              go_wp2_with fail
              go_roundw
              case rel => exact ⟨k + 1, by omega, by go_num, by rw [HCn.out], J.out⟩
              case measure => simp [intOf]; omega
          · obtain rfl : na = k := by omega
            rw [List.take_of_length_le (by rw [HNA.out]; exact Nat.le_refl _)] at hfl ⊢
            generalize (A.filter fun x => decide (x < W)).length = c1 at *
            go_wp2_with fail
            refine (HGp.out _ W (by unfold I64; omega) J.out).mono ?_
            rintro e w7 ⟨⟨ag, cg, rfl, hF⟩, M⟩
            have K7 := Lib.hid (J.out.same M)
            have FG := Lib.hid hF
            clear M hF HGp J K6
            generalize gapsL A W = G at *
            have hGl := (risen_len W G (-1) hC.out.1).1
            obtain ⟨ng, hng⟩ : ∃ n, G.length = n := ⟨_, rfl⟩
            rw [hng] at hGl ⊢
            have HNG := Lib.hid hng
            clear hng
            go_wp2_with fail
            go_loopw [18, 17, 14] (fun vi vl vc wr => ∃ (k : Nat) (t q : Int), k ≤ ng ∧ vi = .int .i64 (k : Int) ∧ vl = .int .i64 t ∧ vc = .int .i64 q ∧ -1 ≤ t ∧ t ≤ 200 ∧ 0 ≤ q ∧ risen W t (G.drop k) ∧ q + sumG (G.drop k) = W ∧ Same w7 wr) (fun vi _ _ _ => ng - (intOf vi).toNat)
            case atStart => exact ⟨0, -1, c1, by omega, rfl, rfl, rfl, by omega, by omega, by omega, hC.out.1, by have := hC.out.2; rw [List.drop_zero]; omega, Mod.refl _ _⟩
            case round =>
              obtain ⟨k, t, q, hk, rfl, rfl, rfl, ht0, ht1, hq0, hri, hsu, M⟩ := hrel
              have J := Lib.hid M
              have HRi := Lib.hid hri
              have HSu := Lib.hid hsu
              clear hri hsu M
              by_cases hlt : k < ng
              · obtain ⟨b1, o1, rfl, hb1, hc1⟩ := FG.out (by rw [HNG.out]; omega)
                obtain ⟨p, hx⟩ : ∃ p, G[k]? = some p := ⟨_, List.getElem?_eq_getElem (by rw [HNG.out]; exact hlt)⟩
                have hxc := hc1 k p hx
                have e0 := (J.out.cell hb1 (fun q => q) _).trans hxc.1
                have e1 := (J.out.cell hb1 (fun q => q) _).trans hxc.2
                have hri := HRi.out
                have hsu := HSu.out
                rw [dropP hx] at hri hsu
                obtain ⟨r1, r2, r3, r4⟩ := hri
                rw [sumG] at hsu
                have hsn := (risen_len W _ _ r4).2
                have HR4 := Lib.hid r4
                have HS4 := Lib.hid (show q + p.2 + sumG (G.drop (k + 1)) = W by omega)
                have hq1 : q + p.2 ≤ 200 := by omega
                clear hc1 hxc hx HRi HSu hsu hsn r4
                obtain ⟨pa, pb⟩ := p
                dsimp only at e0 e1 r1 r2 r3 hq1 HR4 HS4
                have d11 : decide (pa ≤ t) = false := decide_eq_false (by omega)
                have d12 : decide (pb < 1) = false := decide_eq_false (by omega)
                have d13 : decide (pa + pb > W) = false := decide_eq_false (by omega)
                have d14 : decide (W < pa + pb) = false := decide_eq_false (by omega)
                go_wp2_with fail
                go_big_quiet (fail)
                go_wp2_with fail
                go_big_quiet (fail)
                go_wp2
                go_roundw
                case rel => exact ⟨k + 1, pa + pb, q + pb, by omega, by go_num, by first | rfl | go_num, by first | rfl | go_num, by omega, by omega, by omega, HR4.out, HS4.out, by first | exact (J.out.drewN _).drewN _ | exact J.out.drewN _⟩
                case measure => simp [intOf]; omega
              · obtain rfl : k = ng := by omega
                have hsu := HSu.out
                rw [List.drop_of_length_le (by rw [HNG.out]; exact Nat.le_refl _), sumG, Int.add_zero] at hsu
                have hqW : (q == W) = true := by simp [hsu]
                clear HSu HRi FG
                have K8 := Lib.hid (K7.out.same J.out)
                clear J K7
                have HU := Lib.hid (fun w' (M : Same w w') => union_any a b ca cb A B w' (by rw [HNA.out]; omega) (by rw [HNB.out]; omega) (IA.out.same M) (IB.out.same M) HBN.out)
                have HMt := Lib.hid (fun w' (M : Same w w') => meet_any a b ca cb A B w' (by rw [HNA.out]; omega) (by rw [HNB.out]; omega) (IA.out.same M) (IB.out.same M) HBN.out)
                have HLe := Lib.hid (fun w' (M : Same w w') => less_any a b ca cb A B w' (by rw [HNA.out]; omega) (by rw [HNB.out]; omega) (IA.out.same M) (IB.out.same M) HBN.out)
                have h2l := two_len hga hgb
                have hml := meet_less hga hgb
                have hlm := less_meet hga hgb
                rw [HNA.out, HNB.out] at HU HMt HLe h2l
                have HLM := Lib.hid (fun w' a' a'' c' c'' (h1 : Ins w' a' (someL fLe A B)) (h2 : Ins w' a'' (someL fMe A B)) (h3 : a'' = none → c'' = 0) => union_any a' a'' c' c'' (someL fLe A B) (someL fMe A B) w' (by have := goodI_len (someL_good fLe A B); omega) (by have := goodI_len (someL_good fMe A B); omega) h1 h2 h3)
                have HMB := Lib.hid (fun w' a'' c'' (h2 : Ins w' a'' (someL fMe A B)) (M : Same w w') => less_any a'' b c'' cb (someL fMe A B) B w' (by have := goodI_len (someL_good fMe A B); omega) (by rw [HNB.out]; omega) h2 (IB.out.same M) HBN.out)
                have HII := Lib.hid (fun w' a' c' (h : Ins w' a' A) (M : Same w w') => ints2_any a' a c' ca A A w' (by rw [HNA.out]; omega) (by rw [HNA.out]; omega) h (IA.out.same M))
                unfold SoV at HU HMt HLe HLM HMB
                rw [hml] at HLM
                rw [hlm] at HMB
                rw [HNB.out] at HMB
                rw [HNA.out] at HII HLM
                clear hml hlm
                generalize someL fUn A B = LU at *
                generalize someL fMe A B = LM at *
                generalize someL fLe A B = LL at *
                go_wp2_with fail
                refine (HU.out _ K8.out).mono ?_
                rintro e w9 ⟨⟨au, cu, rfl, hIu, _⟩, M⟩
                have K9 := Lib.hid (K8.out.same M)
                clear M hIu K8 HU
                go_wp2_with fail
                refine (HMt.out _ K9.out).mono ?_
                rintro e w10 ⟨⟨am, cm, rfl, hIm, hmz⟩, M⟩
                have K10 := Lib.hid (K9.out.same M)
                have IM := Lib.hid hIm
                have MZ := Lib.hid hmz
                clear M hIm hmz K9 HMt
                have hl4 : ((LU.length : Int) + (LM.length : Int) == (na : Int) + (nb : Int)) = true := by
                  have : (LU.length : Int) + (LM.length : Int) = (na : Int) + (nb : Int) := by omega
                  rw [this]; simp
                generalize hlu : LU.length = lu at *
                have hlm2 : LM.length ≤ 200 := by omega
                go_wp2_with fail
                refine (HLe.out _ K10.out).mono ?_
                rintro e w11 ⟨⟨al, cl, rfl, hIl, _⟩, M⟩
                have K11 := Lib.hid (K10.out.same M)
                have IM2 := Lib.hid (IM.out.same M)
                have IL := Lib.hid hIl
                clear M hIl K10 IM HLe
                go_wp2_with fail
                refine (HLM.out _ al am cl cm IL.out IM2.out MZ.out).mono ?_
                rintro e w12 ⟨⟨ax, cx, rfl, hIx, _⟩, M⟩
                have K12 := Lib.hid (K11.out.same M)
                have IM3 := Lib.hid (IM2.out.same M)
                have IX := Lib.hid hIx
                clear M hIx K11 IM2 HLM IL
                go_wp2_with fail
                refine (HII.out _ ax cx IX.out K12.out).mono ?_
                rintro e w13 ⟨rfl, M⟩
                simp only [decide_true]
                have K13 := Lib.hid (K12.out.same M)
                have IM4 := Lib.hid (IM3.out.same M)
                clear M K12 IM3 HII IX
                go_wp2_with fail
                refine (HMB.out _ am cm IM4.out K13.out).mono ?_
                rintro e w14 ⟨⟨ay, cy, rfl, _, _⟩, M⟩
                have K14 := Lib.hid (K13.out.same M)
                clear M K13 IM4 HMB
                go_wp2
                exact HR.out _ _ ⟨rfl, K14.out⟩
  · have hw1 : na ≤ 60 → ¬ nb ≤ 60 := fun h1 h2 => hab ⟨h1, h2⟩
    go_enter Tryd.func7, Tryd.ntmps7
    go_wp2_with fail
    refine (awake_any w HL.out).mono ?_
    rintro e w1 ⟨rfl, M⟩
    have K1 := Lib.hid M
    clear M hab
    by_cases h1 : na ≤ 60
    · have h2 := hw1 h1
      have d1 : decide ((na : Int) > 60) = false := decide_eq_false (by omega)
      have d2 : decide (na > 60) = false := decide_eq_false (by omega)
      have d3 : decide ((60 : Int) < (na : Int)) = false := decide_eq_false (by omega)
      have d4 : decide (60 < na) = false := decide_eq_false (by omega)
      have d5 : decide ((nb : Int) > 60) = true := decide_eq_true (by omega)
      have d6 : decide (nb > 60) = true := decide_eq_true (by omega)
      have d7 : decide ((60 : Int) < (nb : Int)) = true := decide_eq_true (by omega)
      have d8 : decide (60 < nb) = true := decide_eq_true (by omega)
      go_wp2
      exact HR.out _ _ ⟨rfl, K1.out⟩
    · have d1 : decide ((na : Int) > 60) = true := decide_eq_true (by omega)
      have d2 : decide (na > 60) = true := decide_eq_true (by omega)
      have d3 : decide ((60 : Int) < (na : Int)) = true := decide_eq_true (by omega)
      have d4 : decide (60 < na) = true := decide_eq_true (by omega)
      go_wp2
      exact HR.out _ _ ⟨rfl, K1.out⟩
end Go.Proofs.YthkcdoneghcglaaDoor
