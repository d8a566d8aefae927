import Derived.Test.YteommjbbjdbhkaaRankJ
import Derived.Test.YteommjbbjdbhkaaOpen
set_option linter.unusedSimpArgs false
set_option linter.unusedVariables false
namespace Go.Proofs.Yteommjbbjdbhkaa
open Go Go.RowKit Go.ChangeShapes Go.WideShapes
theorem lev_mono {a b : Int} (h : a ≤ b) : lev a ≤ lev b := by unfold lev; repeat' split <;> try omega
theorem lev_low {a : Int} (h : a ≤ 0) : lev a = 0 := by unfold lev; rw [if_pos (by omega)]
theorem lev_high {a : Int} (h : 64 ≤ a) : lev a = 7 := by unfold lev; repeat rw [if_neg (by omega)]
theorem lev_dbl {a : Int} (h1 : 1 ≤ a) (h2 : a < 64) : lev (2 * a) = lev a + 1 := by unfold lev; repeat' split <;> try omega
theorem lev_dbl1 {a : Int} (h1 : 1 ≤ a) (h2 : a < 64) : lev (2 * a + 1) = lev a + 1 := by unfold lev; repeat' split <;> try omega
set_option maxHeartbeats 4000000 in
theorem rankLevels_walk (a b : Int) (w : World) (ha : -9223372036854775808 ≤ a ∧ a ≤ 9223372036854775807) (hb : -9223372036854775808 ≤ b ∧ b ≤ 9223372036854775807) :
    Calls Try.prog 8 #[.int .i64 a, .int .i64 b] w fun e w' => e = .returned (.bool true) ∧ Below w.heap.size w w' := by
  refine opq fun R HR => ?_
  have HA := Lib.hid (awake_any w)
  have HLa := Lib.hid (fun wz => level_any a wz ha.2)
  have HLb := Lib.hid (fun wz => level_any b wz hb.2)
  have bd := lev_bd a
  have mono : a ≤ b → lev a ≤ lev b := lev_mono
  have low : a ≤ 0 → lev a = 0 := lev_low
  have high : 64 ≤ a → lev a = 7 := lev_high
  by_cases hin : 1 ≤ a ∧ a < 64
  · have HL2 := Lib.hid (fun wz => level_any (2 * a) wz (by omega))
    have HL3 := Lib.hid (fun wz => level_any (2 * a + 1) wz (by omega))
    rw [lev_dbl hin.1 hin.2] at HL2
    rw [lev_dbl1 hin.1 hin.2] at HL3
    clear high low
    generalize lev a = la at *
    generalize lev b = lb at *
    obtain ⟨hin1, hin2⟩ := hin
    have e1 : IntKind.i64.wrap (2 * a) = 2 * a := IntWalk.i64_in _ (by omega)
    by_cases hab : a ≤ b
    · have hm := mono hab
      clear mono
      go_enter Try.func8, Try.ntmps8
      go_wp2_with fail
      refine HA.out.mono ?_
      rintro e w1 ⟨rfl, M1⟩
      have J1 := Lib.hid M1
      clear M1 HA
      go_wp2_with fail
      refine (HLa.out _).mono ?_
      rintro e w2 ⟨rfl, rfl⟩
      go_wp2_with fail
      refine (HLb.out _).mono ?_
      rintro e w2 ⟨rfl, rfl⟩
      go_wp2_with fail
      refine (HL2.out _).mono ?_
      rintro e w2 ⟨rfl, rfl⟩
      go_wp2_with fail
      refine (HL3.out _).mono ?_
      rintro e w2 ⟨rfl, rfl⟩
      go_wp2
      exact HR.out _ _ ⟨rfl, J1.out.below⟩
    · clear mono
      go_enter Try.func8, Try.ntmps8
      go_wp2_with fail
      refine HA.out.mono ?_
      rintro e w1 ⟨rfl, M1⟩
      have J1 := Lib.hid M1
      clear M1 HA
      go_wp2_with fail
      refine (HLa.out _).mono ?_
      rintro e w2 ⟨rfl, rfl⟩
      go_wp2_with fail
      refine (HLb.out _).mono ?_
      rintro e w2 ⟨rfl, rfl⟩
      go_wp2_with fail
      refine (HL2.out _).mono ?_
      rintro e w2 ⟨rfl, rfl⟩
      go_wp2_with fail
      refine (HL3.out _).mono ?_
      rintro e w2 ⟨rfl, rfl⟩
      go_wp2
      exact HR.out _ _ ⟨rfl, J1.out.below⟩
  · by_cases hlow : a ≤ 0
    · have hl := low hlow
      clear low high
      rw [hl] at HLa mono bd
      clear hl
      generalize lev a = la at *
      generalize lev b = lb at *
      by_cases hab : a ≤ b
      · have hm := mono hab
        clear mono
        go_enter Try.func8, Try.ntmps8
        go_wp2_with fail
        refine HA.out.mono ?_
        rintro e w1 ⟨rfl, M1⟩
        have J1 := Lib.hid M1
        clear M1 HA
        go_wp2_with fail
        refine (HLa.out _).mono ?_
        rintro e w2 ⟨rfl, rfl⟩
        go_wp2_with fail
        refine (HLb.out _).mono ?_
        rintro e w2 ⟨rfl, rfl⟩
        go_wp2
        exact HR.out _ _ ⟨rfl, J1.out.below⟩
      · clear mono
        go_enter Try.func8, Try.ntmps8
        go_wp2_with fail
        refine HA.out.mono ?_
        rintro e w1 ⟨rfl, M1⟩
        have J1 := Lib.hid M1
        clear M1 HA
        go_wp2_with fail
        refine (HLa.out _).mono ?_
        rintro e w2 ⟨rfl, rfl⟩
        go_wp2_with fail
        refine (HLb.out _).mono ?_
        rintro e w2 ⟨rfl, rfl⟩
        go_wp2
        exact HR.out _ _ ⟨rfl, J1.out.below⟩
    · have hl := high (by omega)
      clear low high
      rw [hl] at HLa mono bd
      clear hl
      generalize lev a = la at *
      generalize lev b = lb at *
      have h64 : 64 ≤ a := by omega
      by_cases hab : a ≤ b
      · have hm := mono hab
        clear mono
        go_enter Try.func8, Try.ntmps8
        go_wp2_with fail
        refine HA.out.mono ?_
        rintro e w1 ⟨rfl, M1⟩
        have J1 := Lib.hid M1
        clear M1 HA
        go_wp2_with fail
        refine (HLa.out _).mono ?_
        rintro e w2 ⟨rfl, rfl⟩
        go_wp2_with fail
        refine (HLb.out _).mono ?_
        rintro e w2 ⟨rfl, rfl⟩
        go_wp2
        exact HR.out _ _ ⟨rfl, J1.out.below⟩
      · clear mono
        go_enter Try.func8, Try.ntmps8
        go_wp2_with fail
        refine HA.out.mono ?_
        rintro e w1 ⟨rfl, M1⟩
        have J1 := Lib.hid M1
        clear M1 HA
        go_wp2_with fail
        refine (HLa.out _).mono ?_
        rintro e w2 ⟨rfl, rfl⟩
        go_wp2_with fail
        refine (HLb.out _).mono ?_
        rintro e w2 ⟨rfl, rfl⟩
        go_wp2
        exact HR.out _ _ ⟨rfl, J1.out.below⟩
theorem rankLevels_open {H : Type} {enc : TypeId × Value → H} (w : World) (b0 : Nat) {base : Nat} {spare : Nat → Bool} {held : Bool} {v0 v1 : Value} {d0 d1 : DataW H} {p0 p1 : List MemPlace} (h0 : DataW.Trod enc Try.prog w base spare held 3 v0 d0 p0) (h1 : DataW.Trod enc Try.prog w base spare held 3 v1 d1 p1)
    (hv0 : Value.okWide Try.prog w .any b0 3 v0) (hv1 : Value.okWide Try.prog w .any b0 3 v1) :
    Calls Try.prog 8 #[v0, v1] w fun e w' => e = .returned (.bool true) ∧ Below w.heap.size w w' := by
  obtain ⟨a, rfl, ha⟩ := int_open Try.underlying3 hv0 h0
  obtain ⟨b, rfl, hb⟩ := int_open Try.underlying3 hv1 h1
  exact rankLevels_walk a b w (bounds_i64 ha) (bounds_i64 hb)
end Go.Proofs.Yteommjbbjdbhkaa
