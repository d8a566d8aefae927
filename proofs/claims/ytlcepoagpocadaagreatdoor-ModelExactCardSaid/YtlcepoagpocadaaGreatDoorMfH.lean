import Derived.Test.YtlcepoagpocadaaGreatDoorMfS
import Derived.Test.YtlcepoagpocadaaGreatDoorMfD
set_option linter.unusedSimpArgs false
set_option linter.unusedVariables false
set_option maxRecDepth 100000
/- The words of orders; the size of a model. -/
namespace Go.Proofs.YtlcepoagpocadaaGreatDoor
open Go Go.RowKit
theorem wordF0 (cs : Array Value) (w : World) : Calls Tryz.prog 231 #[.agg cs] w fun e w' => e = .returned (.string ⟨#[99, 114, 101, 97, 116, 101]⟩) ∧ Same w w' := by
  refine opq fun R HR => ?_
  go_enter Tryz.func231, Tryz.ntmps231
  go_wp2
  exact HR.out _ _ ⟨rfl, (Mod.refl _ _).alloc _⟩
theorem wordF1 (cs : Array Value) (w : World) : Calls Tryz.prog 236 #[.agg cs] w fun e w' => e = .returned (.string ⟨#[100, 101, 108, 101, 116, 101]⟩) ∧ Same w w' := by
  refine opq fun R HR => ?_
  go_enter Tryz.func236, Tryz.ntmps236
  go_wp2
  exact HR.out _ _ ⟨rfl, (Mod.refl _ _).alloc _⟩
theorem wordF2 (cs : Array Value) (w : World) : Calls Tryz.prog 237 #[.agg cs] w fun e w' => e = .returned (.string ⟨#[115, 110, 97, 112]⟩) ∧ Same w w' := by
  refine opq fun R HR => ?_
  go_enter Tryz.func237, Tryz.ntmps237
  go_wp2
  exact HR.out _ _ ⟨rfl, (Mod.refl _ _).alloc _⟩
theorem wordF3 (cs : Array Value) (w : World) : Calls Tryz.prog 241 #[.agg cs] w fun e w' => e = .returned (.string ⟨#[114, 101, 115, 105, 122, 101]⟩) ∧ Same w w' := by
  refine opq fun R HR => ?_
  go_enter Tryz.func241, Tryz.ntmps241
  go_wp2
  exact HR.out _ _ ⟨rfl, (Mod.refl _ _).alloc _⟩
theorem wordF4 (cs : Array Value) (w : World) : Calls Tryz.prog 242 #[.agg cs] w fun e w' => e = .returned (.string ⟨#[112, 105, 110]⟩) ∧ Same w w' := by
  refine opq fun R HR => ?_
  go_enter Tryz.func242, Tryz.ntmps242
  go_wp2
  exact HR.out _ _ ⟨rfl, (Mod.refl _ _).alloc _⟩
theorem wordF5 (cs : Array Value) (w : World) : Calls Tryz.prog 243 #[.agg cs] w fun e w' => e = .returned (.string ⟨#[102, 114, 101, 101]⟩) ∧ Same w w' := by
  refine opq fun R HR => ?_
  go_enter Tryz.func243, Tryz.ntmps243
  go_wp2
  exact HR.out _ _ ⟨rfl, (Mod.refl _ _).alloc _⟩
theorem wordF6 (cs : Array Value) (w : World) : Calls Tryz.prog 238 #[.agg cs] w fun e w' => e = .returned (.string ⟨#[114, 101, 97, 100]⟩) ∧ Same w w' := by
  refine opq fun R HR => ?_
  go_enter Tryz.func238, Tryz.ntmps238
  go_wp2
  exact HR.out _ _ ⟨rfl, (Mod.refl _ _).alloc _⟩
theorem wordF7 (cs : Array Value) (w : World) : Calls Tryz.prog 232 #[.agg cs] w fun e w' => e = .returned (.string ⟨#[119, 114, 105, 116, 101]⟩) ∧ Same w w' := by
  refine opq fun R HR => ?_
  go_enter Tryz.func232, Tryz.ntmps232
  go_wp2
  exact HR.out _ _ ⟨rfl, (Mod.refl _ _).alloc _⟩
theorem wordF8 (cs : Array Value) (w : World) : Calls Tryz.prog 234 #[.agg cs] w fun e w' => e = .returned (.string ⟨#[100, 105, 115, 99, 97, 114, 100]⟩) ∧ Same w w' := by
  refine opq fun R HR => ?_
  go_enter Tryz.func234, Tryz.ntmps234
  go_wp2
  exact HR.out _ _ ⟨rfl, (Mod.refl _ _).alloc _⟩
theorem wordF9 (cs : Array Value) (w : World) : Calls Tryz.prog 233 #[.agg cs] w fun e w' => e = .returned (.string ⟨#[102, 108, 117, 115, 104]⟩) ∧ Same w w' := by
  refine opq fun R HR => ?_
  go_enter Tryz.func233, Tryz.ntmps233
  go_wp2
  exact HR.out _ _ ⟨rfl, (Mod.refl _ _).alloc _⟩
theorem wordF10 (cs : Array Value) (w : World) : Calls Tryz.prog 244 #[.agg cs] w fun e w' => e = .returned (.string ⟨#[116, 105, 99, 107]⟩) ∧ Same w w' := by
  refine opq fun R HR => ?_
  go_enter Tryz.func244, Tryz.ntmps244
  go_wp2
  exact HR.out _ _ ⟨rfl, (Mod.refl _ _).alloc _⟩
theorem wordF11 (cs : Array Value) (w : World) : Calls Tryz.prog 245 #[.agg cs] w fun e w' => e = .returned (.string ⟨#[100, 101, 99, 97, 121]⟩) ∧ Same w w' := by
  refine opq fun R HR => ?_
  go_enter Tryz.func245, Tryz.ntmps245
  go_wp2
  exact HR.out _ _ ⟨rfl, (Mod.refl _ _).alloc _⟩
theorem wordF12 (cs : Array Value) (w : World) : Calls Tryz.prog 240 #[.agg cs] w fun e w' => e = .returned (.string ⟨#[115, 116, 97, 116, 117, 115]⟩) ∧ Same w w' := by
  refine opq fun R HR => ?_
  go_enter Tryz.func240, Tryz.ntmps240
  go_wp2
  exact HR.out _ _ ⟨rfl, (Mod.refl _ _).alloc _⟩
theorem wordF13 (cs : Array Value) (w : World) : Calls Tryz.prog 246 #[.agg cs] w fun e w' => e = .returned (.string ⟨#[102, 117, 115, 101]⟩) ∧ Same w w' := by
  refine opq fun R HR => ?_
  go_enter Tryz.func246, Tryz.ntmps246
  go_wp2
  exact HR.out _ _ ⟨rfl, (Mod.refl _ _).alloc _⟩
theorem wordF14 (cs : Array Value) (w : World) : Calls Tryz.prog 235 #[.agg cs] w fun e w' => e = .returned (.string ⟨#[99, 114, 97, 115, 104]⟩) ∧ Same w w' := by
  refine opq fun R HR => ?_
  go_enter Tryz.func235, Tryz.ntmps235
  go_wp2
  exact HR.out _ _ ⟨rfl, (Mod.refl _ _).alloc _⟩
theorem kOf (z : Int) : ∃ k : Nat, 1 ≤ k ∧ k ≤ 8 ∧ wrap64 (1 + wrap64 ((IntKind.u64.wrap z).tmod 8)) = (k : Int) := by
  have h := utmod z 8 (by decide) (by decide)
  generalize wrap64 ((IntKind.u64.wrap z).tmod 8) = y at h
  refine ⟨(1 + y).toNat, by omega, by omega, ?_⟩
  unfold wrap64; omega
theorem good_emptyK {k : Nat} (h1 : 1 ≤ k) (h8 : k ≤ 8) : Good (emptyS k) := ⟨h1, h8, by simp [emptyS], by simp [emptyS], by simp [emptyS], by simp [emptyS], by simp [emptyS]⟩
end Go.Proofs.YtlcepoagpocadaaGreatDoor
