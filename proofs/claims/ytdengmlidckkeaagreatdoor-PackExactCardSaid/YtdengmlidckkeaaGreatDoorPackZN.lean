import Derived.Test.YtdengmlidckkeaaGreatDoorPackS
set_option linter.unusedSimpArgs false
set_option linter.unusedVariables false
namespace Go.Proofs.YtdengmlidckkeaaGreatDoor
open Go Go.RowKit
theorem as83_nil (W : World) : (Instr.typeAssert .nilIface 24 74 true).run Tryz.prog W = .ok (.tuple #[.agg #[.int .i64 0, .int .i64 0], .bool false]) W := by kernel_rfl
theorem as62_nil (W : World) : (Instr.typeAssert .nilIface 24 79 true).run Tryz.prog W = .ok (.tuple #[.agg #[.int .i64 0], .bool false]) W := by kernel_rfl
theorem as98_nil (W : World) : (Instr.typeAssert .nilIface 24 81 true).run Tryz.prog W = .ok (.tuple #[.agg #[.int .i64 0, .int .i64 0], .bool false]) W := by kernel_rfl
theorem as99_nil (W : World) : (Instr.typeAssert .nilIface 24 82 true).run Tryz.prog W = .ok (.tuple #[.agg #[.int .i64 0, .int .i64 0], .bool false]) W := by kernel_rfl
theorem as61_nil (W : World) : (Instr.typeAssert .nilIface 24 83 true).run Tryz.prog W = .ok (.tuple #[.agg #[.int .i64 0], .bool false]) W := by kernel_rfl
theorem as100_nil (W : World) : (Instr.typeAssert .nilIface 24 84 true).run Tryz.prog W = .ok (.tuple #[.agg #[.int .i64 0], .bool false]) W := by kernel_rfl
theorem as102_nil (W : World) : (Instr.typeAssert .nilIface 24 86 true).run Tryz.prog W = .ok (.tuple #[.agg #[.int .i64 0, .int .i64 0, .int .i64 0], .bool false]) W := by kernel_rfl
theorem as104_nil (W : World) : (Instr.typeAssert .nilIface 24 66 true).run Tryz.prog W = .ok (.tuple #[.agg #[.int .i64 0, .int .i64 0, .string ⟨#[]⟩], .bool false]) W := by kernel_rfl
theorem as105_nil (W : World) : (Instr.typeAssert .nilIface 24 87 true).run Tryz.prog W = .ok (.tuple #[.agg #[.int .i64 0, .int .i64 0, .int .i64 0], .bool false]) W := by kernel_rfl
theorem as26_nil (W : World) : (Instr.typeAssert .nilIface 24 89 true).run Tryz.prog W = .ok (.tuple #[.agg #[.int .i64 0], .bool false]) W := by kernel_rfl
theorem as109_nil (W : World) : (Instr.typeAssert .nilIface 24 93 true).run Tryz.prog W = .ok (.tuple #[.agg #[.int .i64 0], .bool false]) W := by kernel_rfl
theorem as111_nil (W : World) : (Instr.typeAssert .nilIface 24 95 true).run Tryz.prog W = .ok (.tuple #[.agg #[.string ⟨#[]⟩, .string ⟨#[]⟩, .string ⟨#[]⟩], .bool false]) W := by kernel_rfl
theorem as57_nil (W : World) : (Instr.typeAssert .nilIface 24 68 true).run Tryz.prog W = .ok (.tuple #[.agg #[], .bool false]) W := by kernel_rfl
theorem as106_nil (W : World) : (Instr.typeAssert .nilIface 24 90 true).run Tryz.prog W = .ok (.tuple #[.agg #[], .bool false]) W := by kernel_rfl
theorem as107_nil (W : World) : (Instr.typeAssert .nilIface 24 91 true).run Tryz.prog W = .ok (.tuple #[.agg #[], .bool false]) W := by kernel_rfl
set_option maxRecDepth 10000 in
theorem parts_nil (w : World) : Calls Tryz.prog 37 #[.nilIface] w fun e w' => e = .returned (.tuple #[.slice none 0 0, .slice none 0 0, .bool false]) ∧ Same w w' := by
  refine opq fun R HR => ?_
  have m83 := as83_nil
  have m62 := as62_nil
  have m98 := as98_nil
  have m99 := as99_nil
  have m61 := as61_nil
  have m100 := as100_nil
  have m102 := as102_nil
  have m104 := as104_nil
  have m105 := as105_nil
  have m26 := as26_nil
  have m109 := as109_nil
  have m111 := as111_nil
  have m57 := as57_nil
  have m106 := as106_nil
  have m107 := as107_nil
  go_enter Tryz.func37, Tryz.ntmps37
  go_wp2_with fail
  exact HR.out _ _ ⟨rfl, Mod.refl _ _⟩
end Go.Proofs.YtdengmlidckkeaaGreatDoor
