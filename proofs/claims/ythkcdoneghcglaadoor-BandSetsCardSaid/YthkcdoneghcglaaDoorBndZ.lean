import Derived.Test.YthkcdoneghcglaaDoorBndY
import Derived.Test.YthkcdoneghcglaaDoorBndW
set_option linter.unusedSimpArgs false
set_option linter.unusedVariables false
/- The law BandSets. -/
namespace Go.Proofs.YthkcdoneghcglaaDoor
open Go Go.RowKit
theorem pick_hit (f : Bool → Bool → Bool) (A B : List Int) (k : Int) {x y : Bool} (hx : A.contains k = x) (hy : B.contains k = y) (h : ((x || y) && f x y) = true) : (pick2 f A B)[below (pick2 f A B) k]? = some k ∧ below (pick2 f A B) (k + 1) = below (pick2 f A B) k + 1 := by
  refine below_hit (pick2_strict f A B) ((pick2_mem f A B k).2 ?_)
  rw [hx, hy]
  rw [Bool.and_eq_true, Bool.or_eq_true, ← hx, ← hy, List.contains_iff_mem, List.contains_iff_mem, hx, hy] at h
  exact h
theorem pick_miss (f : Bool → Bool → Bool) (A B : List Int) (k : Int) {x y : Bool} (hx : A.contains k = x) (hy : B.contains k = y) (h : ((x || y) && f x y) = false) : below (pick2 f A B) (k + 1) = below (pick2 f A B) k := by
  refine below_miss fun hm => ?_
  obtain ⟨h1, h2⟩ := (pick2_mem f A B k).1 hm
  rw [hx, hy] at h2
  have : (x || y) = true := by rw [Bool.or_eq_true, ← hx, ← hy, List.contains_iff_mem, List.contains_iff_mem]; exact h1
  rw [this, h2] at h
  cases h
theorem pick_zero (f : Bool → Bool → Bool) {A B : List Int} (ha : goodI A = true) (hb : goodI B = true) : below (pick2 f A B) 0 = 0 :=
  below_none fun x hx => (good_mem (pick2_good f ha hb) x hx).1
theorem pick_len (f : Bool → Bool → Bool) {A B : List Int} (ha : goodI A = true) (hb : goodI B = true) : below (pick2 f A B) ((10000 : Nat) : Int) = (pick2 f A B).length :=
  below_all fun x hx => by have := (good_mem (pick2_good f ha hb) x hx).2; omega
theorem gL_len (W : Int) : ∀ (R : List (Int × Int)) (t : Int), (gL W t R).length ≤ R.length
  | [], _ => Nat.le_refl _
  | p :: R, t => by
    rw [gL, List.length_append, List.length_cons]
    have := gL_len W R (p.2 + 1)
    have : (if t < min p.1 W then [(t, min p.1 W - t)] else []).length ≤ 1 := by split <;> simp
    omega
theorem gapsL_len (A : List Int) (W : Int) : (gapsL A W).length ≤ A.length + 1 := by
  unfold gapsL
  split
  · refine Nat.le_trans (gL_len _ _ _) ?_
    rw [List.length_append]
    have := runs_len A
    simp; omega
  · simp

set_option maxRecDepth 10000 in
set_option maxHeartbeats 16000000 in
theorem bandSets_main (a b : Option Addr) (ca cb : Nat) (A B : List Int) (z : Int) (hz : I64 z) (w : World) (hla : A.length ≤ 9223372036854775807) (hlb : B.length ≤ 9223372036854775807) (hA : Ins w a A) (hB : Ins w b B) (hbn : b = none → cb = 0) (hL : LibOK w) :
    Calls Tryd.prog 6 #[.slice a A.length ca, .slice b B.length cb, .int .i64 z] w fun e w' => e = .returned (.bool true) ∧ Same w w' := by
  refine opq fun R HR => ?_
  have HL := Lib.hid hL
  have IA := Lib.hid hA
  have IB := Lib.hid hB
  have HBN := Lib.hid hbn
  obtain ⟨na, hna⟩ : ∃ n, A.length = n := ⟨_, rfl⟩
  obtain ⟨nb, hnb⟩ : ∃ n, B.length = n := ⟨_, rfl⟩
  rw [hna] at hla ⊢
  rw [hnb] at hlb ⊢
  have HNA := Lib.hid hna
  have HNB := Lib.hid hnb
  unfold I64 at hz
  clear hL hA hB hbn hna hnb
  by_cases hab : na ≤ 60 ∧ nb ≤ 60 ∧ z ≤ 200
  · obtain ⟨ha60, hb60, hz2⟩ := hab
    have HU := Lib.hid (fun w' (M : Same w w') => union_any a b ca cb A B w' (by rw [HNA.out]; omega) (by rw [HNB.out]; omega) (IA.out.same M) (IB.out.same M) HBN.out)
    have HMt := Lib.hid (fun w' (M : Same w w') => meet_any a b ca cb A B w' (by rw [HNA.out]; omega) (by rw [HNB.out]; omega) (IA.out.same M) (IB.out.same M) HBN.out)
    have HLe := Lib.hid (fun w' (M : Same w w') => less_any a b ca cb A B w' (by rw [HNA.out]; omega) (by rw [HNB.out]; omega) (IA.out.same M) (IB.out.same M) HBN.out)
    have HGa := Lib.hid (fun w' (M : Same w w') => bgood_any a ca A w' (by rw [HNA.out]; omega) (IA.out.same M))
    have HGb := Lib.hid (fun w' (M : Same w w') => bgood_any b cb B w' (by rw [HNB.out]; omega) (IB.out.same M))
    have HIa := Lib.hid (fun w' (k : Int) (M : Same w w') => in_any a ca A k w' (by rw [HNA.out]; omega) (IA.out.same M))
    have HIb := Lib.hid (fun w' (k : Int) (M : Same w w') => in_any b cb B k w' (by rw [HNB.out]; omega) (IB.out.same M))
    have HGp := Lib.hid (fun w' (M : Same w w') => gaps_any a ca A z (by unfold I64; omega) w' (by rw [HNA.out]; omega) (IA.out.same M))
    rw [HNA.out, HNB.out] at HU HMt HLe
    rw [HNA.out] at HGa HIa HGp
    rw [HNB.out] at HGb HIb
    unfold SoV at HU HMt HLe
    go_enter Tryd.func6, Tryd.ntmps6
    go_wp2_with fail
    refine (awake_any w HL.out).mono ?_
    rintro e w1 ⟨rfl, M⟩
    have K1 := Lib.hid M
    clear M
    have d1 : decide ((na : Int) > 60) = false := decide_eq_false (by omega)
    have d2 : decide (na > 60) = false := decide_eq_false (by omega)
    have d3 : decide ((60 : Int) < (na : Int)) = false := decide_eq_false (by omega)
    have d4 : decide (60 < na) = false := decide_eq_false (by omega)
    have d5 : decide ((nb : Int) > 60) = false := decide_eq_false (by omega)
    have d6 : decide (nb > 60) = false := decide_eq_false (by omega)
    have d7 : decide ((60 : Int) < (nb : Int)) = false := decide_eq_false (by omega)
    have d8 : decide (60 < nb) = false := decide_eq_false (by omega)
    have d9 : decide (z > 200) = false := decide_eq_false (by omega)
    have d10 : decide (200 < z) = false := decide_eq_false (by omega)
    by_cases hgg : goodI A = true ∧ goodI B = true
    · obtain ⟨hga, hgb⟩ := hgg
      have HGA := Lib.hid hga
      have HGB := Lib.hid hgb
      rw [someL_of fUn hga hgb] at HU
      rw [someL_of fMe hga hgb] at HMt
      rw [someL_of fLe hga hgb] at HLe
      rw [hga] at HGa
      rw [hgb] at HGb
      have HhU := Lib.hid (fun (k : Int) (x y : Bool) => pick_hit fUn A B k (x := x) (y := y))
      have HhM := Lib.hid (fun (k : Int) (x y : Bool) => pick_hit fMe A B k (x := x) (y := y))
      have HhL := Lib.hid (fun (k : Int) (x y : Bool) => pick_hit fLe A B k (x := x) (y := y))
      have HmU := Lib.hid (fun (k : Int) (x y : Bool) => pick_miss fUn A B k (x := x) (y := y))
      have HmM := Lib.hid (fun (k : Int) (x y : Bool) => pick_miss fMe A B k (x := x) (y := y))
      have HmL := Lib.hid (fun (k : Int) (x y : Bool) => pick_miss fLe A B k (x := x) (y := y))
      have Z0 := Lib.hid (And.intro (pick_zero fUn hga hgb) (And.intro (pick_zero fMe hga hgb) (pick_zero fLe hga hgb)))
      have ZN := Lib.hid (And.intro (pick_len fUn hga hgb) (And.intro (pick_len fMe hga hgb) (pick_len fLe hga hgb)))
      have lU := goodI_len (pick2_good fUn hga hgb)
      have lM := goodI_len (pick2_good fMe hga hgb)
      have lL := goodI_len (pick2_good fLe hga hgb)
      clear hga hgb
      generalize pick2 fUn A B = LU at *
      generalize pick2 fMe A B = LM at *
      generalize pick2 fLe A B = LL at *
      obtain ⟨nU, hnU⟩ : ∃ n, LU.length = n := ⟨_, rfl⟩
      obtain ⟨nM, hnM⟩ : ∃ n, LM.length = n := ⟨_, rfl⟩
      obtain ⟨nL, hnL⟩ : ∃ n, LL.length = n := ⟨_, rfl⟩
      rw [hnU] at HU lU ZN
      rw [hnM] at HMt lM ZN
      rw [hnL] at HLe lL ZN
      have HnU := Lib.hid hnU
      have HnM := Lib.hid hnM
      have HnL := Lib.hid hnL
      clear hnU hnM hnL
      go_wp2_with fail
      refine (HU.out _ K1.out).mono ?_
      rintro e w2 ⟨⟨au, cu, rfl, hIu, _⟩, M⟩
      have K2 := Lib.hid (K1.out.same M)
      have IU2 := Lib.hid hIu
      clear M hIu K1 HU
      go_wp2_with fail
      refine (HMt.out _ K2.out).mono ?_
      rintro e w3 ⟨⟨am, cm, rfl, hIm, _⟩, M⟩
      have K3 := Lib.hid (K2.out.same M)
      have IU3 := Lib.hid (IU2.out.same M)
      have IM3 := Lib.hid hIm
      clear M hIm K2 HMt IU2
      go_wp2_with fail
      refine (HLe.out _ K3.out).mono ?_
      rintro e w4 ⟨⟨al, cl, rfl, hIl, _⟩, M⟩
      have K4 := Lib.hid (K3.out.same M)
      have IU4 := Lib.hid (IU3.out.same M)
      have IM4 := Lib.hid (IM3.out.same M)
      have IL4 := Lib.hid hIl
      clear M hIl K3 HLe IU3 IM3
      go_wp2_with fail
      refine (HGa.out _ K4.out).mono ?_
      rintro e w5 ⟨rfl, M⟩
      have K5 := Lib.hid (K4.out.same M)
      have IU5 := Lib.hid (IU4.out.same M)
      have IM5 := Lib.hid (IM4.out.same M)
      have IL5 := Lib.hid (IL4.out.same M)
      clear M K4 HGa IU4 IM4 IL4
      go_wp2_with fail
      refine (HGb.out _ K5.out).mono ?_
      rintro e w6 ⟨rfl, M⟩
      have K6 := Lib.hid (K5.out.same M)
      have IU := Lib.hid (IU5.out.same M)
      have IM := Lib.hid (IM5.out.same M)
      have IL := Lib.hid (IL5.out.same M)
      clear M K5 HGb IU5 IM5 IL5
      go_wp2_with fail
      go_loopw [13, 10, 11, 12] (fun vi vu vm vl wr => ∃ k : Nat, k ≤ 10000 ∧ vi = .int .i64 (k : Int) ∧ vu = .int .i64 (below LU (k : Int) : Int) ∧ vm = .int .i64 (below LM (k : Int) : Int) ∧ vl = .int .i64 (below LL (k : Int) : Int) ∧ Same w6 wr) (fun vi _ _ _ _ => 10000 - (intOf vi).toNat)
      case atStart =>
        refine ⟨0, by omega, rfl, ?_, ?_, ?_, Mod.refl _ _⟩
        · rw [show ((0 : Nat) : Int) = 0 from rfl, Z0.out.1]; rfl
        · rw [show ((0 : Nat) : Int) = 0 from rfl, Z0.out.2.1]; rfl
        · rw [show ((0 : Nat) : Int) = 0 from rfl, Z0.out.2.2]; rfl
      case round =>
        obtain ⟨k, hk, rfl, rfl, rfl, rfl, M⟩ := hrel
        have J := Lib.hid M
        clear M
        have bU := below_le LU (k : Int)
        have bM := below_le LM (k : Int)
        have bL := below_le LL (k : Int)
        rw [HnU.out] at bU
        rw [HnM.out] at bM
        rw [HnL.out] at bL
        by_cases hlt : k ≤ 9999
        · go_wp2_with fail
          refine (HIa.out _ (k : Int) (K6.out.same J.out)).mono ?_
          rintro e w7 ⟨rfl, M⟩
          have J7 := Lib.hid (J.out.same M)
          obtain ⟨pa, hpa⟩ : ∃ x, A.contains (k : Int) = x := ⟨_, rfl⟩
          rw [hpa]
          have HPa := Lib.hid hpa
          clear M J hpa
          go_wp2_with fail
          refine (HIb.out _ (k : Int) (K6.out.same J7.out)).mono ?_
          rintro e w8 ⟨rfl, M⟩
          have J8 := Lib.hid (J7.out.same M)
          obtain ⟨pb, hpb⟩ : ∃ x, B.contains (k : Int) = x := ⟨_, rfl⟩
          rw [hpb]
          have HPb := Lib.hid hpb
          clear M J7 hpb
          have hdU1 := HhU.out (k : Int)
          have hdM1 := HhM.out (k : Int)
          have hdL1 := HhL.out (k : Int)
          have hmU1 := HmU.out (k : Int)
          have hmM1 := HmM.out (k : Int)
          have hmL1 := HmL.out (k : Int)
          rw [show (k : Int) + 1 = ((k + 1 : Nat) : Int) from rfl] at hdU1 hdM1 hdL1 hmU1 hmM1 hmL1
          generalize below LU (k : Int) = tU at *
          generalize below LM (k : Int) = tM at *
          generalize below LL (k : Int) = tL at *
          cases pa with
          | true =>
            cases pb with
            | true =>
              obtain ⟨hxU, heU⟩ := hdU1 true true HPa.out HPb.out rfl
              obtain ⟨bU1, oU, rfl, hbU1, hcU⟩ := IU.out (by rw [HnU.out]; have := (List.getElem?_eq_some_iff.1 hxU).1; rw [HnU.out] at this; omega)
              have hlU : tU < nU := by have := (List.getElem?_eq_some_iff.1 hxU).1; rw [HnU.out] at this; omega
              have eU := (J8.out.cell hbU1 (fun q => q) _).trans (hcU _ _ hxU)
              clear hcU hxU
              have HeU := Lib.hid heU
              clear heU
              obtain ⟨hxM, heM⟩ := hdM1 true true HPa.out HPb.out rfl
              obtain ⟨bM1, oM, rfl, hbM1, hcM⟩ := IM.out (by rw [HnM.out]; have := (List.getElem?_eq_some_iff.1 hxM).1; rw [HnM.out] at this; omega)
              have hlM : tM < nM := by have := (List.getElem?_eq_some_iff.1 hxM).1; rw [HnM.out] at this; omega
              have eM := (J8.out.cell hbM1 (fun q => q) _).trans (hcM _ _ hxM)
              clear hcM hxM
              have HeM := Lib.hid heM
              clear heM
              have heL := hmL1 true true HPa.out HPb.out rfl
              have HeL := Lib.hid heL
              clear heL
              clear hdU1 hdM1 hdL1 hmU1 hmM1 hmL1
              have hkk : ((k : Int) != (k : Int)) = false := by simp
              have hkk2 : ((k : Int) == (k : Int)) = true := by simp
              go_wp2_with fail
              go_roundw
              case rel => exact ⟨k + 1, by omega, by go_num, by rw [HeU.out]; first | rfl | go_num, by rw [HeM.out]; first | rfl | go_num, by rw [HeL.out], J8.out⟩
              case measure => simp [intOf]; omega
            | false =>
              obtain ⟨hxU, heU⟩ := hdU1 true false HPa.out HPb.out rfl
              obtain ⟨bU1, oU, rfl, hbU1, hcU⟩ := IU.out (by rw [HnU.out]; have := (List.getElem?_eq_some_iff.1 hxU).1; rw [HnU.out] at this; omega)
              have hlU : tU < nU := by have := (List.getElem?_eq_some_iff.1 hxU).1; rw [HnU.out] at this; omega
              have eU := (J8.out.cell hbU1 (fun q => q) _).trans (hcU _ _ hxU)
              clear hcU hxU
              have HeU := Lib.hid heU
              clear heU
              have heM := hmM1 true false HPa.out HPb.out rfl
              have HeM := Lib.hid heM
              clear heM
              obtain ⟨hxL, heL⟩ := hdL1 true false HPa.out HPb.out rfl
              obtain ⟨bL1, oL, rfl, hbL1, hcL⟩ := IL.out (by rw [HnL.out]; have := (List.getElem?_eq_some_iff.1 hxL).1; rw [HnL.out] at this; omega)
              have hlL : tL < nL := by have := (List.getElem?_eq_some_iff.1 hxL).1; rw [HnL.out] at this; omega
              have eL := (J8.out.cell hbL1 (fun q => q) _).trans (hcL _ _ hxL)
              clear hcL hxL
              have HeL := Lib.hid heL
              clear heL
              clear hdU1 hdM1 hdL1 hmU1 hmM1 hmL1
              have hkk : ((k : Int) != (k : Int)) = false := by simp
              have hkk2 : ((k : Int) == (k : Int)) = true := by simp
              go_wp2_with fail
              go_roundw
              case rel => exact ⟨k + 1, by omega, by go_num, by rw [HeU.out]; first | rfl | go_num, by rw [HeM.out], by rw [HeL.out]; first | rfl | go_num, J8.out⟩
              case measure => simp [intOf]; omega
          | false =>
            cases pb with
            | true =>
              obtain ⟨hxU, heU⟩ := hdU1 false true HPa.out HPb.out rfl
              obtain ⟨bU1, oU, rfl, hbU1, hcU⟩ := IU.out (by rw [HnU.out]; have := (List.getElem?_eq_some_iff.1 hxU).1; rw [HnU.out] at this; omega)
              have hlU : tU < nU := by have := (List.getElem?_eq_some_iff.1 hxU).1; rw [HnU.out] at this; omega
              have eU := (J8.out.cell hbU1 (fun q => q) _).trans (hcU _ _ hxU)
              clear hcU hxU
              have HeU := Lib.hid heU
              clear heU
              have heM := hmM1 false true HPa.out HPb.out rfl
              have HeM := Lib.hid heM
              clear heM
              have heL := hmL1 false true HPa.out HPb.out rfl
              have HeL := Lib.hid heL
              clear heL
              clear hdU1 hdM1 hdL1 hmU1 hmM1 hmL1
              have hkk : ((k : Int) != (k : Int)) = false := by simp
              have hkk2 : ((k : Int) == (k : Int)) = true := by simp
              go_wp2_with fail
              go_roundw
              case rel => exact ⟨k + 1, by omega, by go_num, by rw [HeU.out]; first | rfl | go_num, by rw [HeM.out], by rw [HeL.out], J8.out⟩
              case measure => simp [intOf]; omega
            | false =>
              have heU := hmU1 false false HPa.out HPb.out rfl
              have HeU := Lib.hid heU
              clear heU
              have heM := hmM1 false false HPa.out HPb.out rfl
              have HeM := Lib.hid heM
              clear heM
              have heL := hmL1 false false HPa.out HPb.out rfl
              have HeL := Lib.hid heL
              clear heL
              clear hdU1 hdM1 hdL1 hmU1 hmM1 hmL1
              have hkk : ((k : Int) != (k : Int)) = false := by simp
              have hkk2 : ((k : Int) == (k : Int)) = true := by simp
              go_wp2_with fail
              go_roundw
              case rel => exact ⟨k + 1, by omega, by go_num, by rw [HeU.out], by rw [HeM.out], by rw [HeL.out], J8.out⟩
              case measure => simp [intOf]; omega
        · obtain rfl : k = 10000 := by omega
          rw [ZN.out.1, ZN.out.2.1, ZN.out.2.2]
          go_wp2_with fail
          refine (HGp.out _ (K6.out.same J.out)).mono ?_
          rintro e w7 ⟨⟨ag, cg, rfl, hF⟩, M⟩
          have K7 := Lib.hid (K6.out.same (J.out.same M))
          have FG := Lib.hid hF
          clear M hF HGp J K6 HhU HhM HhL HmU HmM HmL Z0 ZN IU IM IL
          have HG0 := Lib.hid (show gapsL A z = gL z 0 (runs A ++ [(10000, 10000)]) by unfold gapsL; rw [if_pos HGA.out, Int.min_eq_left (by omega)])
          have hng1 := gapsL_len A z
          rw [HNA.out] at hng1
          generalize gapsL A z = G at *
          obtain ⟨ng, hng⟩ : ∃ n, G.length = n := ⟨_, rfl⟩
          rw [hng] at hng1 ⊢
          have HNG := Lib.hid hng
          clear hng
          go_wp2_with fail
          go_loopw [18, 17] (fun vt vg wr => ∃ (t g : Nat) (Q : List (Int × Int)), g ≤ ng ∧ vt = .int .i64 (t : Int) ∧ vg = .int .i64 (g : Int) ∧ t ≤ 202 ∧ ap (t : Int) Q ∧ ((t : Int) < z → Left A (t : Int) Q) ∧ G.drop g = gL z (t : Int) Q ∧ Same w7 wr) (fun vt _ _ => 1000 - (intOf vt).toNat)
          case atStart => exact ⟨0, 0, _, by omega, rfl, rfl, by omega, (left_start HGA.out).1, fun _ => left_start HGA.out, by rw [List.drop_zero]; exact HG0.out, Mod.refl _ _⟩
          case round =>
            obtain ⟨t, g, Q, hg, rfl, rfl, ht, hap, hlf, hdr, M⟩ := hrel
            have J := Lib.hid M
            have HAp := Lib.hid hap
            have HLf := Lib.hid hlf
            have HDr := Lib.hid hdr
            clear M hap hlf hdr
            by_cases hlt : (t : Int) < z
            · go_wp2_with fail
              refine (HIa.out _ (t : Int) (K7.out.same J.out)).mono ?_
              rintro e w8 ⟨rfl, M⟩
              have J8 := Lib.hid (J.out.same M)
              clear M J
              cases hpa : A.contains (t : Int) with
              | true =>
                obtain ⟨R2, hl2, hg2⟩ := left_in (W := z) (gI_strict A (-1) HGA.out) (HLf.out hlt) (List.contains_iff_mem.1 hpa)
                have HR2 := Lib.hid hl2
                have HD2 := Lib.hid (HDr.out.trans hg2)
                clear hl2 hg2 hpa HDr HLf HAp
                go_wp2_with fail
                go_roundw
                case rel => exact ⟨t + 1, g, R2, by omega, by go_num, rfl, by omega, HR2.out.1, fun _ => HR2.out, HD2.out, J8.out⟩
                case measure => simp [intOf]; omega
              | false =>
                obtain ⟨e1, h1, h2, h3, h4, R2, h5, h6, h7⟩ := left_out (W := z) HGA.out (by omega) (HLf.out hlt) (fun hm => by rw [List.contains_iff_mem.2 hm] at hpa; cases hpa) hlt
                obtain ⟨e, rfl⟩ : ∃ e : Nat, e1 = (e : Int) := ⟨e1.toNat, by omega⟩
                have H3 := Lib.hid h3
                have H4 := Lib.hid h4
                have H5 := Lib.hid (HDr.out.trans h5)
                have H6 := Lib.hid h6
                have H7 := Lib.hid h7
                clear h3 h4 h5 h6 h7 hpa HDr HLf HAp
                go_wp2_with fail
                go_loopw [19] (fun vm wr => ∃ m : Nat, t + m ≤ e ∧ vm = .int .i64 (m : Int) ∧ Same w7 wr) (fun vm _ => e - t - (intOf vm).toNat)
                case atStart => exact ⟨0, by omega, rfl, J8.out⟩
                case round =>
                  obtain ⟨m, hm, rfl, M⟩ := hrel
                  have J := Lib.hid M
                  clear M
                  by_cases hin : ((t + m : Nat) : Int) < z
                  · have hin2 : (t : Int) + (m : Int) < z := by omega
                    go_wp2_with fail
                    refine (HIa.out _ ((t : Int) + (m : Int)) (K7.out.same J.out)).mono ?_
                    rintro e w9 ⟨rfl, M⟩
                    have JJ := Lib.hid (J.out.same M)
                    clear M J
                    by_cases hme : t + m < e
                    · have hc : A.contains ((t : Int) + (m : Int)) = false := by
                        cases hc : A.contains ((t : Int) + (m : Int)) with
                        | false => rfl
                        | true => exact absurd (List.contains_iff_mem.1 hc) (H3.out _ (by omega) (by omega))
                      rw [hc]
                      clear hc
                      go_wp2_with fail
                      go_roundw
                      case rel => exact ⟨m + 1, by omega, by go_num, JJ.out⟩
                      case measure => simp [intOf]; omega
                    · have hc : A.contains ((t : Int) + (m : Int)) = true := by
                        rw [List.contains_iff_mem, show (t : Int) + (m : Int) = (e : Int) by omega]
                        exact H4.out (by omega)
                      rw [hc]
                      clear hc
                      obtain rfl : e = t + m := by omega
                      have hgn : g < ng := by
                        have := congrArg List.length H5.out
                        simp at this
                        rw [HNG.out] at this; omega
                      obtain ⟨b1, o1, rfl, hb1, hc1⟩ := FG.out (by rw [HNG.out]; omega)
                      have hx : G[g]? = some ((t : Int), (m : Int)) := by
                        have := congrArg (fun l : List (Int × Int) => l[0]?) H5.out
                        simp at this
                        rw [this]; congr 2; omega
                      have hd1 : G.drop (g + 1) = gL z ((t + m + 1 : Nat) : Int) R2 := by
                        have := congrArg (fun l : List (Int × Int) => l.drop 1) H5.out
                        simp at this
                        rw [this]; congr 1
                      have hxc := hc1 g _ hx
                      have e0 := (JJ.out.cell hb1 (fun q => q) _).trans hxc.1
                      have e1 := (JJ.out.cell hb1 (fun q => q) _).trans hxc.2
                      have HD1 := Lib.hid hd1
                      clear hc1 hxc hx hd1
                      dsimp only at e0 e1
                      have q1 : ((t : Int) == (t : Int) && (m : Int) == (m : Int)) = true := by simp
                      go_wp2_with fail
                      go_roundw
                      case rel => exact ⟨t + m + 1, g + 1, R2, by omega, by go_num, by go_num, by omega, H6.out, fun h => H7.out (by omega), HD1.out, by first | exact JJ.out | exact JJ.out.drewN _ | exact (JJ.out.drewN _).drewN _⟩
                      case measure => simp [intOf]; omega
                  · have hin2 : ¬ (t : Int) + (m : Int) < z := by omega
                    have JJ := J
                    clear J
                    obtain rfl : e = t + m := by omega
                    have hgn : g < ng := by
                      have := congrArg List.length H5.out
                      simp at this
                      rw [HNG.out] at this; omega
                    obtain ⟨b1, o1, rfl, hb1, hc1⟩ := FG.out (by rw [HNG.out]; omega)
                    have hx : G[g]? = some ((t : Int), (m : Int)) := by
                      have := congrArg (fun l : List (Int × Int) => l[0]?) H5.out
                      simp at this
                      rw [this]; congr 2; omega
                    have hd1 : G.drop (g + 1) = gL z ((t + m + 1 : Nat) : Int) R2 := by
                      have := congrArg (fun l : List (Int × Int) => l.drop 1) H5.out
                      simp at this
                      rw [this]; congr 1
                    have hxc := hc1 g _ hx
                    have e0 := (JJ.out.cell hb1 (fun q => q) _).trans hxc.1
                    have e1 := (JJ.out.cell hb1 (fun q => q) _).trans hxc.2
                    have HD1 := Lib.hid hd1
                    clear hc1 hxc hx hd1
                    dsimp only at e0 e1
                    have q1 : ((t : Int) == (t : Int) && (m : Int) == (m : Int)) = true := by simp
                    go_wp2_with fail
                    go_roundw
                    case rel => exact ⟨t + m + 1, g + 1, R2, by omega, by go_num, by go_num, by omega, H6.out, fun h => H7.out (by omega), HD1.out, by first | exact JJ.out | exact JJ.out.drewN _ | exact (JJ.out.drewN _).drewN _⟩
                    case measure => simp [intOf]; omega
            · have hgn : g = ng := by
                have := HDr.out
                rw [gL_end z Q (t : Int) HAp.out (by omega)] at this
                have := List.drop_eq_nil_iff.1 this
                rw [HNG.out] at this; omega
              subst hgn
              have K8 := Lib.hid (K7.out.same J.out)
              clear J K7 HDr HAp HLf FG
              have h1 : ((nU : Int) == (nU : Int)) = true := by simp
              have h2 : ((nM : Int) == (nM : Int)) = true := by simp
              have h3 : ((nL : Int) == (nL : Int)) = true := by simp
              have h4 : ((g : Int) == (g : Int)) = true := by simp
              go_wp2
              exact HR.out _ _ ⟨rfl, K8.out⟩
    · have hN : ∀ f, someL f A B = [] := fun f => if_neg hgg
      rw [hN fUn] at HU
      rw [hN fMe] at HMt
      rw [hN fLe] at HLe
      simp only [List.length_nil] at HU HMt HLe
      go_wp2_with fail
      refine (HU.out _ K1.out).mono ?_
      rintro e w2 ⟨⟨au, cu, rfl, _, _⟩, M⟩
      have K2 := Lib.hid (K1.out.same M)
      clear M K1 HU
      go_wp2_with fail
      refine (HMt.out _ K2.out).mono ?_
      rintro e w3 ⟨⟨am, cm, rfl, _, _⟩, M⟩
      have K3 := Lib.hid (K2.out.same M)
      clear M K2 HMt
      go_wp2_with fail
      refine (HLe.out _ K3.out).mono ?_
      rintro e w4 ⟨⟨al, cl, rfl, _, _⟩, M⟩
      have K4 := Lib.hid (K3.out.same M)
      clear M K3 HLe
      go_wp2_with fail
      refine (HGa.out _ K4.out).mono ?_
      rintro e w5 ⟨rfl, M⟩
      have K5 := Lib.hid (K4.out.same M)
      clear M K4 HGa
      cases hga : goodI A with
      | false =>
        go_wp2
        exact HR.out _ _ ⟨rfl, K5.out⟩
      | true =>
        have hgb : goodI B = false := by
          cases hb : goodI B
          · rfl
          · exact absurd ⟨hga, hb⟩ hgg
        rw [hgb] at HGb
        go_wp2_with fail
        refine (HGb.out _ K5.out).mono ?_
        rintro e w6 ⟨rfl, M⟩
        have K6 := Lib.hid (K5.out.same M)
        clear M K5 HGb
        go_wp2
        exact HR.out _ _ ⟨rfl, K6.out⟩
  · have hw1 : na ≤ 60 → nb ≤ 60 → ¬ z ≤ 200 := fun h1 h2 h3 => hab ⟨h1, h2, h3⟩
    go_enter Tryd.func6, Tryd.ntmps6
    go_wp2_with fail
    refine (awake_any w HL.out).mono ?_
    rintro e w1 ⟨rfl, M⟩
    have K1 := Lib.hid M
    clear M hab
    by_cases h1 : na ≤ 60
    · have d1 : decide ((na : Int) > 60) = false := decide_eq_false (by omega)
      have d2 : decide (na > 60) = false := decide_eq_false (by omega)
      have d3 : decide ((60 : Int) < (na : Int)) = false := decide_eq_false (by omega)
      have d4 : decide (60 < na) = false := decide_eq_false (by omega)
      by_cases h2 : nb ≤ 60
      · have h3 := hw1 h1 h2
        have d5 : decide ((nb : Int) > 60) = false := decide_eq_false (by omega)
        have d6 : decide (nb > 60) = false := decide_eq_false (by omega)
        have d7 : decide ((60 : Int) < (nb : Int)) = false := decide_eq_false (by omega)
        have d8 : decide (60 < nb) = false := decide_eq_false (by omega)
        have d9 : decide (z > 200) = true := decide_eq_true (by omega)
        have d10 : decide (200 < z) = true := decide_eq_true (by omega)
        go_wp2
        exact HR.out _ _ ⟨rfl, K1.out⟩
      · have d5 : decide ((nb : Int) > 60) = true := decide_eq_true (by omega)
        have d6 : decide (nb > 60) = true := decide_eq_true (by omega)
        have d7 : decide ((60 : Int) < (nb : Int)) = true := decide_eq_true (by omega)
        have d8 : decide (60 < nb) = true := decide_eq_true (by omega)
        clear hw1
        go_wp2
        exact HR.out _ _ ⟨rfl, K1.out⟩
    · have d1 : decide ((na : Int) > 60) = true := decide_eq_true (by omega)
      have d2 : decide (na > 60) = true := decide_eq_true (by omega)
      have d3 : decide ((60 : Int) < (na : Int)) = true := decide_eq_true (by omega)
      have d4 : decide (60 < na) = true := decide_eq_true (by omega)
      clear hw1
      go_wp2
      exact HR.out _ _ ⟨rfl, K1.out⟩
end Go.Proofs.YthkcdoneghcglaaDoor
