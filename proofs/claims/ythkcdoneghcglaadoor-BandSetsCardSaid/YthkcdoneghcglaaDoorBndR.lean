import Derived.Test.YthkcdoneghcglaaDoorBndQ
import Derived.Test.YthkcdoneghcglaaDoorBndK
set_option linter.unusedSimpArgs false
set_option linter.unusedVariables false
/- The law BandExact. -/
namespace Go.Proofs.YthkcdoneghcglaaDoor
open Go Go.RowKit
set_option maxRecDepth 10000 in
set_option maxHeartbeats 8000000 in
theorem bandExact_main (a : Option Addr) (c : Nat) (L : List Int) (S : List UInt8) (w : World) (hl : L.length ≤ 9223372036854775807) (hs : S.length ≤ 9223372036854775807) (hI : Ins w a L) (hL : LibOK w) :
    Calls Tryd.prog 5 #[.slice a L.length c, strV S] w fun e w' => e = .returned (.bool true) ∧ Same w w' := by
  refine opq fun R HR => ?_
  have I0 := Lib.hid hI
  have HL := Lib.hid hL
  have hsz := bytes_size S
  obtain ⟨n, hn⟩ : ∃ n, L.length = n := ⟨_, rfl⟩
  rw [hn] at hl ⊢
  have HN := Lib.hid hn
  clear hI hL hn
  unfold strV
  go_enter Tryd.func5, Tryd.ntmps5
  go_wp2_with fail
  refine (awake_any w HL.out).mono ?_
  rintro e w1 ⟨rfl, M⟩
  have K1 := Lib.hid M
  clear M
  by_cases hn60 : n ≤ 60
  · have d1 : decide ((n : Int) > 60) = false := decide_eq_false (by omega)
    have d2 : decide (n > 60) = false := decide_eq_false (by omega)
    have d3 : decide ((60 : Int) < (n : Int)) = false := decide_eq_false (by omega)
    have d4 : decide (60 < n) = false := decide_eq_false (by omega)
    by_cases hs512 : S.length ≤ 512
    · have d5 : decide ((S.length : Int) > 512) = false := decide_eq_false (by omega)
      have d6 : decide (S.length > 512) = false := decide_eq_false (by omega)
      have d7 : decide ((512 : Int) < (S.length : Int)) = false := decide_eq_false (by omega)
      have d8 : decide (512 < S.length) = false := decide_eq_false (by omega)
      have T1 := Lib.hid (btext_any a c L w1 (by rw [HN.out]; omega) (I0.out.same K1.out) (HL.out.same K1.out))
      have T2 := Lib.hid (fun w' (M : Same w w') => bgood_any a c L w' (by rw [HN.out]; omega) (I0.out.same M))
      have T3 := Lib.hid (fun w' (hg : goodI L = true) (M : Same w w') => rtext_any a c L w' (by rw [HN.out]; omega) hg (I0.out.same M))
      have T4 := Lib.hid (fun w' (M : Same w w') => bparse_any S (by omega) w' (HL.out.same M))
      have T5 := Lib.hid (fun w' => bparser_any S (by omega) w')
      rw [HN.out] at T1 T2 T3
      unfold btextV at T1
      rw [pPar_same] at T4
      unfold strV at T1 T3 T4 T5
      unfold PaB at T4
      unfold PrR at T5
      go_wp2_with fail
      refine T1.out.mono ?_
      rintro e w2 ⟨rfl, M⟩
      have K2 := Lib.hid (K1.out.same M)
      clear M T1
      cases hg : goodI L with
      | false =>
        rw [if_neg (by decide)]
        go_wp2_with fail
        refine (T2.out _ K2.out).mono ?_
        rintro e w3 ⟨rfl, M⟩
        rw [hg]
        have K3 := Lib.hid (K2.out.same M)
        clear M T2 hg
        go_wp2_with fail
        cases hp : refP S with
        | none =>
          rw [hp] at T4 T5
          dsimp only at T4 T5
          refine (T4.out _ K3.out).mono ?_
          rintro e w5 ⟨rfl, M⟩
          have K5 := Lib.hid (K3.out.same M)
          clear M T4
          go_wp2_with fail
          refine (T5.out _).mono ?_
          rintro e w6 ⟨rfl, M⟩
          have K6 := Lib.hid (K5.out.same M)
          clear M T5
          go_wp2
          exact HR.out _ _ ⟨rfl, K6.out⟩
        | some G =>
          rw [hp] at T4 T5
          dsimp only at T4 T5
          have hGl := goodI_len (refP_some hp).1
          refine (T4.out _ K3.out).mono ?_
          rintro e w5 ⟨⟨a5, c5, rfl, hI5⟩, M⟩
          have K5 := Lib.hid (K3.out.same M)
          have I5 := Lib.hid hI5
          clear M T4 hI5 hp
          go_wp2_with fail
          refine (T5.out _).mono ?_
          rintro e w6 ⟨⟨a6, c6, rfl, hI6⟩, M⟩
          have K6 := Lib.hid (K5.out.same M)
          have hit := Lib.hid (ints_any a5 a6 c5 c6 G w6 (by omega) (I5.out.same M) hI6)
          clear M T5 hI6 I5
          go_wp2_with fail
          refine hit.out.mono ?_
          rintro e w7 ⟨rfl, M⟩
          have K7 := Lib.hid (K6.out.same M)
          clear M hit
          go_wp2
          exact HR.out _ _ ⟨rfl, K7.out⟩
      | true =>
        rw [if_pos rfl]
        have T3' := Lib.hid (fun w' (M : Same w w') => T3.out w' hg M)
        have hbb : (textB L == textB L) = true := by simp
        generalize textB L = TL at *
        go_wp2_with fail
        refine (T2.out _ K2.out).mono ?_
        rintro e w3 ⟨rfl, M⟩
        rw [hg]
        have K3 := Lib.hid (K2.out.same M)
        clear M T2 T3 hg
        go_wp2_with fail
        refine (T3'.out _ K3.out).mono ?_
        rintro e w4 ⟨rfl, M⟩
        have K4 := Lib.hid (K3.out.same M)
        clear M T3'
        go_wp2_with fail
        cases hp : refP S with
        | none =>
          rw [hp] at T4 T5
          dsimp only at T4 T5
          refine (T4.out _ K4.out).mono ?_
          rintro e w5 ⟨rfl, M⟩
          have K5 := Lib.hid (K4.out.same M)
          clear M T4
          go_wp2_with fail
          refine (T5.out _).mono ?_
          rintro e w6 ⟨rfl, M⟩
          have K6 := Lib.hid (K5.out.same M)
          clear M T5
          go_wp2
          exact HR.out _ _ ⟨rfl, K6.out⟩
        | some G =>
          rw [hp] at T4 T5
          dsimp only at T4 T5
          have hGl := goodI_len (refP_some hp).1
          refine (T4.out _ K4.out).mono ?_
          rintro e w5 ⟨⟨a5, c5, rfl, hI5⟩, M⟩
          have K5 := Lib.hid (K4.out.same M)
          have I5 := Lib.hid hI5
          clear M T4 hI5 hp
          go_wp2_with fail
          refine (T5.out _).mono ?_
          rintro e w6 ⟨⟨a6, c6, rfl, hI6⟩, M⟩
          have K6 := Lib.hid (K5.out.same M)
          have hit := Lib.hid (ints_any a5 a6 c5 c6 G w6 (by omega) (I5.out.same M) hI6)
          clear M T5 hI6 I5
          go_wp2_with fail
          refine hit.out.mono ?_
          rintro e w7 ⟨rfl, M⟩
          have K7 := Lib.hid (K6.out.same M)
          clear M hit
          go_wp2
          exact HR.out _ _ ⟨rfl, K7.out⟩
    · have d5 : decide ((S.length : Int) > 512) = true := decide_eq_true (by omega)
      have d6 : decide (S.length > 512) = true := decide_eq_true (by omega)
      have d7 : decide ((512 : Int) < (S.length : Int)) = true := decide_eq_true (by omega)
      have d8 : decide (512 < S.length) = true := decide_eq_true (by omega)
      go_wp2
      exact HR.out _ _ ⟨rfl, K1.out⟩
  · have d1 : decide ((n : Int) > 60) = true := decide_eq_true (by omega)
    have d2 : decide (n > 60) = true := decide_eq_true (by omega)
    have d3 : decide ((60 : Int) < (n : Int)) = true := decide_eq_true (by omega)
    have d4 : decide (60 < n) = true := decide_eq_true (by omega)
    go_wp2
    exact HR.out _ _ ⟨rfl, K1.out⟩
end Go.Proofs.YthkcdoneghcglaaDoor
