import Derived.Test.YtlcepoagpocadaaGreatDoorPackT
set_option linter.unusedSimpArgs false
set_option linter.unusedVariables false
namespace Go.Proofs.YtlcepoagpocadaaGreatDoor
open Go Go.RowKit
theorem numbers_of (v : Value) (ns ts : List Value) (w : World) (h : ∀ wz, Calls Tryz.prog 73 #[v] wz (PartsV wz ns ts)) : Calls Tryz.prog 31 #[v] w fun e w' => ∃ a c, e = .returned (.slice a ns.length c) ∧ RowNew w w' a ns ∧ Same w w' := by
  refine opq fun R HR => ?_
  have H := Lib.hid h
  clear h
  obtain ⟨n, hn⟩ : ∃ n, ns.length = n := ⟨_, rfl⟩
  go_enter Tryz.func31, Tryz.ntmps31
  go_wp2_with fail
  refine (H.out _).mono ?_
  rintro e w1 ⟨a1, c1, a2, c2, rfl, h1, h2, M⟩
  have J1 := Lib.hid h1
  have J2 := Lib.hid M
  clear h1 h2 M
  go_wp2
  exact HR.out _ _ ⟨_, _, by rw [hn]; rfl, J1.out, J2.out⟩
theorem data_of (v : Value) (ns ts : List Value) (w : World) (h : ∀ wz, Calls Tryz.prog 73 #[v] wz (PartsV wz ns ts)) : Calls Tryz.prog 42 #[v] w fun e w' => ∃ a c, e = .returned (.slice a ts.length c) ∧ RowNew w w' a ts ∧ Same w w' := by
  refine opq fun R HR => ?_
  have H := Lib.hid h
  clear h
  obtain ⟨n, hn⟩ : ∃ n, ts.length = n := ⟨_, rfl⟩
  go_enter Tryz.func42, Tryz.ntmps42
  go_wp2_with fail
  refine (H.out _).mono ?_
  rintro e w1 ⟨a1, c1, a2, c2, rfl, h1, h2, M⟩
  have J1 := Lib.hid h2
  have J2 := Lib.hid M
  clear h1 h2 M
  go_wp2
  exact HR.out _ _ ⟨_, _, by rw [hn]; rfl, J1.out, J2.out⟩
end Go.Proofs.YtlcepoagpocadaaGreatDoor
