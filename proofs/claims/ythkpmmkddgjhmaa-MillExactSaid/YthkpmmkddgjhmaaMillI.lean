import Derived.Test.YthkpmmkddgjhmaaMillH
set_option linter.unusedSimpArgs false
set_option linter.unusedVariables false
namespace Go.Proofs.Ythkpmmkddgjhmaa
open Go Go.RowKit
theorem word71 (v : Value) (w : World) : Calls Try.prog 71 #[v] w fun e w' => e = .returned (.string ⟨#[99, 114, 101, 97, 116, 101]⟩) ∧ Same w w' := by
  refine opq fun R HR => ?_
  go_enter Try.func71, Try.ntmps71
  go_wp2
  all_goals exact HR.out _ _ ⟨rfl, (Mod.refl _ _).alloc _⟩
theorem word72 (v : Value) (w : World) : Calls Try.prog 72 #[v] w fun e w' => e = .returned (.string ⟨#[100, 101, 108, 101, 116, 101]⟩) ∧ Same w w' := by
  refine opq fun R HR => ?_
  go_enter Try.func72, Try.ntmps72
  go_wp2
  all_goals exact HR.out _ _ ⟨rfl, (Mod.refl _ _).alloc _⟩
theorem word73 (v : Value) (w : World) : Calls Try.prog 73 #[v] w fun e w' => e = .returned (.string ⟨#[115, 110, 97, 112]⟩) ∧ Same w w' := by
  refine opq fun R HR => ?_
  go_enter Try.func73, Try.ntmps73
  go_wp2
  all_goals exact HR.out _ _ ⟨rfl, (Mod.refl _ _).alloc _⟩
theorem word74 (v : Value) (w : World) : Calls Try.prog 74 #[v] w fun e w' => e = .returned (.string ⟨#[114, 101, 115, 105, 122, 101]⟩) ∧ Same w w' := by
  refine opq fun R HR => ?_
  go_enter Try.func74, Try.ntmps74
  go_wp2
  all_goals exact HR.out _ _ ⟨rfl, (Mod.refl _ _).alloc _⟩
theorem word75 (v : Value) (w : World) : Calls Try.prog 75 #[v] w fun e w' => e = .returned (.string ⟨#[112, 105, 110]⟩) ∧ Same w w' := by
  refine opq fun R HR => ?_
  go_enter Try.func75, Try.ntmps75
  go_wp2
  all_goals exact HR.out _ _ ⟨rfl, (Mod.refl _ _).alloc _⟩
theorem word76 (v : Value) (w : World) : Calls Try.prog 76 #[v] w fun e w' => e = .returned (.string ⟨#[102, 114, 101, 101]⟩) ∧ Same w w' := by
  refine opq fun R HR => ?_
  go_enter Try.func76, Try.ntmps76
  go_wp2
  all_goals exact HR.out _ _ ⟨rfl, (Mod.refl _ _).alloc _⟩
theorem word67 (v : Value) (w : World) : Calls Try.prog 67 #[v] w fun e w' => e = .returned (.string ⟨#[114, 101, 97, 100]⟩) ∧ Same w w' := by
  refine opq fun R HR => ?_
  go_enter Try.func67, Try.ntmps67
  go_wp2
  all_goals exact HR.out _ _ ⟨rfl, (Mod.refl _ _).alloc _⟩
theorem word69 (v : Value) (w : World) : Calls Try.prog 69 #[v] w fun e w' => e = .returned (.string ⟨#[119, 114, 105, 116, 101]⟩) ∧ Same w w' := by
  refine opq fun R HR => ?_
  go_enter Try.func69, Try.ntmps69
  go_wp2
  all_goals exact HR.out _ _ ⟨rfl, (Mod.refl _ _).alloc _⟩
theorem word68 (v : Value) (w : World) : Calls Try.prog 68 #[v] w fun e w' => e = .returned (.string ⟨#[100, 105, 115, 99, 97, 114, 100]⟩) ∧ Same w w' := by
  refine opq fun R HR => ?_
  go_enter Try.func68, Try.ntmps68
  go_wp2
  all_goals exact HR.out _ _ ⟨rfl, (Mod.refl _ _).alloc _⟩
theorem word62 (v : Value) (w : World) : Calls Try.prog 62 #[v] w fun e w' => e = .returned (.string ⟨#[102, 108, 117, 115, 104]⟩) ∧ Same w w' := by
  refine opq fun R HR => ?_
  go_enter Try.func62, Try.ntmps62
  go_wp2
  all_goals exact HR.out _ _ ⟨rfl, (Mod.refl _ _).alloc _⟩
theorem word63 (v : Value) (w : World) : Calls Try.prog 63 #[v] w fun e w' => e = .returned (.string ⟨#[116, 105, 99, 107]⟩) ∧ Same w w' := by
  refine opq fun R HR => ?_
  go_enter Try.func63, Try.ntmps63
  go_wp2
  all_goals exact HR.out _ _ ⟨rfl, (Mod.refl _ _).alloc _⟩
theorem word64 (v : Value) (w : World) : Calls Try.prog 64 #[v] w fun e w' => e = .returned (.string ⟨#[100, 101, 99, 97, 121]⟩) ∧ Same w w' := by
  refine opq fun R HR => ?_
  go_enter Try.func64, Try.ntmps64
  go_wp2
  all_goals exact HR.out _ _ ⟨rfl, (Mod.refl _ _).alloc _⟩
theorem word65 (v : Value) (w : World) : Calls Try.prog 65 #[v] w fun e w' => e = .returned (.string ⟨#[115, 116, 97, 116, 117, 115]⟩) ∧ Same w w' := by
  refine opq fun R HR => ?_
  go_enter Try.func65, Try.ntmps65
  go_wp2
  all_goals exact HR.out _ _ ⟨rfl, (Mod.refl _ _).alloc _⟩
theorem word66 (v : Value) (w : World) : Calls Try.prog 66 #[v] w fun e w' => e = .returned (.string ⟨#[102, 117, 115, 101]⟩) ∧ Same w w' := by
  refine opq fun R HR => ?_
  go_enter Try.func66, Try.ntmps66
  go_wp2
  all_goals exact HR.out _ _ ⟨rfl, (Mod.refl _ _).alloc _⟩
theorem word70 (v : Value) (w : World) : Calls Try.prog 70 #[v] w fun e w' => e = .returned (.string ⟨#[99, 114, 97, 115, 104]⟩) ∧ Same w w' := by
  refine opq fun R HR => ?_
  go_enter Try.func70, Try.ntmps70
  go_wp2
  all_goals exact HR.out _ _ ⟨rfl, (Mod.refl _ _).alloc _⟩
end Go.Proofs.Ythkpmmkddgjhmaa
