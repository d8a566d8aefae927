import Derived.Test.YtlcepoagpocadaaGreatDoorPackS
set_option linter.unusedSimpArgs false
set_option linter.unusedVariables false
namespace Go.Proofs.YtlcepoagpocadaaGreatDoor
open Go Go.RowKit
theorem as83_nil (W : World) : (Instr.typeAssert .nilIface 27 25 true).run Tryz.prog W = .ok (.tuple #[.agg #[.int .i64 0, .int .i64 0], .bool false]) W := by kernel_rfl
theorem as62_nil (W : World) : (Instr.typeAssert .nilIface 27 79 true).run Tryz.prog W = .ok (.tuple #[.agg #[.int .i64 0], .bool false]) W := by kernel_rfl
theorem as98_nil (W : World) : (Instr.typeAssert .nilIface 27 81 true).run Tryz.prog W = .ok (.tuple #[.agg #[.int .i64 0, .int .i64 0], .bool false]) W := by kernel_rfl
theorem as99_nil (W : World) : (Instr.typeAssert .nilIface 27 137 true).run Tryz.prog W = .ok (.tuple #[.agg #[.int .i64 0, .int .i64 0], .bool false]) W := by kernel_rfl
theorem as61_nil (W : World) : (Instr.typeAssert .nilIface 27 139 true).run Tryz.prog W = .ok (.tuple #[.agg #[.int .i64 0], .bool false]) W := by kernel_rfl
theorem as100_nil (W : World) : (Instr.typeAssert .nilIface 27 141 true).run Tryz.prog W = .ok (.tuple #[.agg #[.int .i64 0], .bool false]) W := by kernel_rfl
theorem as102_nil (W : World) : (Instr.typeAssert .nilIface 27 94 true).run Tryz.prog W = .ok (.tuple #[.agg #[.int .i64 0, .int .i64 0, .int .i64 0], .bool false]) W := by kernel_rfl
theorem as104_nil (W : World) : (Instr.typeAssert .nilIface 27 38 true).run Tryz.prog W = .ok (.tuple #[.agg #[.int .i64 0, .int .i64 0, .string ⟨#[]⟩], .bool false]) W := by kernel_rfl
theorem as105_nil (W : World) : (Instr.typeAssert .nilIface 27 42 true).run Tryz.prog W = .ok (.tuple #[.agg #[.int .i64 0, .int .i64 0, .int .i64 0], .bool false]) W := by kernel_rfl
theorem as26_nil (W : World) : (Instr.typeAssert .nilIface 27 188 true).run Tryz.prog W = .ok (.tuple #[.agg #[.int .i64 0], .bool false]) W := by kernel_rfl
theorem as109_nil (W : World) : (Instr.typeAssert .nilIface 27 191 true).run Tryz.prog W = .ok (.tuple #[.agg #[.int .i64 0], .bool false]) W := by kernel_rfl
theorem as111_nil (W : World) : (Instr.typeAssert .nilIface 27 45 true).run Tryz.prog W = .ok (.tuple #[.agg #[.string ⟨#[]⟩, .string ⟨#[]⟩, .string ⟨#[]⟩], .bool false]) W := by kernel_rfl
theorem as57_nil (W : World) : (Instr.typeAssert .nilIface 27 40 true).run Tryz.prog W = .ok (.tuple #[.agg #[], .bool false]) W := by kernel_rfl
theorem as106_nil (W : World) : (Instr.typeAssert .nilIface 27 189 true).run Tryz.prog W = .ok (.tuple #[.agg #[], .bool false]) W := by kernel_rfl
theorem as107_nil (W : World) : (Instr.typeAssert .nilIface 27 117 true).run Tryz.prog W = .ok (.tuple #[.agg #[], .bool false]) W := by kernel_rfl
set_option maxRecDepth 10000 in
theorem parts_nil (w : World) : Calls Tryz.prog 73 #[.nilIface] w fun e w' => e = .returned (.tuple #[.slice none 0 0, .slice none 0 0, .bool false]) ∧ Same w w' := by
  refine opq fun R HR => ?_
  have m83 := as83_nil
  have m62 := as62_nil
  have m98 := as98_nil
  have m99 := as99_nil
  have m61 := as61_nil
  have m100 := as100_nil
  have m102 := as102_nil
  have m104 := as104_nil
  have m105 := as105_nil
  have m26 := as26_nil
  have m109 := as109_nil
  have m111 := as111_nil
  have m57 := as57_nil
  have m106 := as106_nil
  have m107 := as107_nil
  go_enter Tryz.func73, Tryz.ntmps73
  go_wp2_with fail
  exact HR.out _ _ ⟨rfl, Mod.refl _ _⟩
end Go.Proofs.YtlcepoagpocadaaGreatDoor
