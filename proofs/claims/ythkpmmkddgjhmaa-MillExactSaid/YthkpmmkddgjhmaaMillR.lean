import Derived.Test.YthkpmmkddgjhmaaMillQ
set_option linter.unusedSimpArgs false
set_option linter.unusedVariables false
namespace Go.Proofs.Ythkpmmkddgjhmaa
open Go Go.RowKit
def words16 : List Value := [.string ⟨#[]⟩, .string ⟨#[99, 114, 101, 97, 116, 101]⟩, .string ⟨#[100, 101, 108, 101, 116, 101]⟩, .string ⟨#[115, 110, 97, 112]⟩, .string ⟨#[114, 101, 115, 105, 122, 101]⟩, .string ⟨#[112, 105, 110]⟩, .string ⟨#[102, 114, 101, 101]⟩, .string ⟨#[114, 101, 97, 100]⟩, .string ⟨#[119, 114, 105, 116, 101]⟩, .string ⟨#[100, 105, 115, 99, 97, 114, 100]⟩, .string ⟨#[102, 108, 117, 115, 104]⟩, .string ⟨#[116, 105, 99, 107]⟩, .string ⟨#[100, 101, 99, 97, 121]⟩, .string ⟨#[115, 116, 97, 116, 117, 115]⟩, .string ⟨#[102, 117, 115, 101]⟩, .string ⟨#[99, 114, 97, 115, 104]⟩]
set_option maxRecDepth 10000 in
theorem words_any (w : World) : Calls Try.prog 17 #[] w fun e w' => ∃ g, e = .returned (.slice (some ⟨g, 0, none⟩) 16 16) ∧ Blk w' g words16.toArray ∧ Same w w' := by
  refine opq fun R HR => ?_
  go_enter Try.func17, Try.ntmps17
  go_wp2_with fail
  exact HR.out _ _ ⟨w.heap.size, rfl, Blk.new w _ _, (Mod.refl _ _).alloc _⟩
/-- What an order's parts are: its numbers, its texts. -/
def PartsX (w : World) (o : OV) (e : Ending) (w' : World) : Prop := ∃ a1 c1 a2 c2, e = .returned (.tuple #[.slice a1 o.nums.length c1, .slice a2 o.data.length c2, .bool true]) ∧ RowAt w' a1 (o.nums.map (Value.int .i64)) ∧ RowAt w' a2 (o.data.map Value.string) ∧ Same w w'
theorem as90_yes (W : World) (v : Value) : (Instr.typeAssert (.iface 90 v) 34 90 true).run Try.prog W = .ok (.tuple #[v, .bool true]) W := by kernel_rfl
theorem as90_no (W : World) (u : TypeId) (v : Value) (h : u ≠ 90) : (Instr.typeAssert (.iface u v) 34 90 true).run Try.prog W = .ok (.tuple #[.agg #[.int .i64 0, .int .i64 0], .bool false]) W := by
  have e : (Instr.typeAssert (.iface u v) 34 90 true).run Try.prog W = (if u = 90 then (pure (Value.tuple #[v, .bool true]) : Sem Value) else (do pure (Value.tuple #[← zeroValue 90, .bool false]))).run Try.prog W := by kernel_rfl
  rw [e, if_neg h]
  have z : (do pure (Value.tuple #[← zeroValue 90, .bool false]) : Sem Value).run Try.prog W = .ok (.tuple #[.agg #[.int .i64 0, .int .i64 0], .bool false]) W := by kernel_rfl
  exact z
theorem as92_yes (W : World) (v : Value) : (Instr.typeAssert (.iface 92 v) 34 92 true).run Try.prog W = .ok (.tuple #[v, .bool true]) W := by kernel_rfl
theorem as92_no (W : World) (u : TypeId) (v : Value) (h : u ≠ 92) : (Instr.typeAssert (.iface u v) 34 92 true).run Try.prog W = .ok (.tuple #[.agg #[.int .i64 0], .bool false]) W := by
  have e : (Instr.typeAssert (.iface u v) 34 92 true).run Try.prog W = (if u = 92 then (pure (Value.tuple #[v, .bool true]) : Sem Value) else (do pure (Value.tuple #[← zeroValue 92, .bool false]))).run Try.prog W := by kernel_rfl
  rw [e, if_neg h]
  have z : (do pure (Value.tuple #[← zeroValue 92, .bool false]) : Sem Value).run Try.prog W = .ok (.tuple #[.agg #[.int .i64 0], .bool false]) W := by kernel_rfl
  exact z
theorem as94_yes (W : World) (v : Value) : (Instr.typeAssert (.iface 94 v) 34 94 true).run Try.prog W = .ok (.tuple #[v, .bool true]) W := by kernel_rfl
theorem as94_no (W : World) (u : TypeId) (v : Value) (h : u ≠ 94) : (Instr.typeAssert (.iface u v) 34 94 true).run Try.prog W = .ok (.tuple #[.agg #[.int .i64 0, .int .i64 0], .bool false]) W := by
  have e : (Instr.typeAssert (.iface u v) 34 94 true).run Try.prog W = (if u = 94 then (pure (Value.tuple #[v, .bool true]) : Sem Value) else (do pure (Value.tuple #[← zeroValue 94, .bool false]))).run Try.prog W := by kernel_rfl
  rw [e, if_neg h]
  have z : (do pure (Value.tuple #[← zeroValue 94, .bool false]) : Sem Value).run Try.prog W = .ok (.tuple #[.agg #[.int .i64 0, .int .i64 0], .bool false]) W := by kernel_rfl
  exact z
theorem as95_yes (W : World) (v : Value) : (Instr.typeAssert (.iface 95 v) 34 95 true).run Try.prog W = .ok (.tuple #[v, .bool true]) W := by kernel_rfl
theorem as95_no (W : World) (u : TypeId) (v : Value) (h : u ≠ 95) : (Instr.typeAssert (.iface u v) 34 95 true).run Try.prog W = .ok (.tuple #[.agg #[.int .i64 0, .int .i64 0], .bool false]) W := by
  have e : (Instr.typeAssert (.iface u v) 34 95 true).run Try.prog W = (if u = 95 then (pure (Value.tuple #[v, .bool true]) : Sem Value) else (do pure (Value.tuple #[← zeroValue 95, .bool false]))).run Try.prog W := by kernel_rfl
  rw [e, if_neg h]
  have z : (do pure (Value.tuple #[← zeroValue 95, .bool false]) : Sem Value).run Try.prog W = .ok (.tuple #[.agg #[.int .i64 0, .int .i64 0], .bool false]) W := by kernel_rfl
  exact z
theorem as96_yes (W : World) (v : Value) : (Instr.typeAssert (.iface 96 v) 34 96 true).run Try.prog W = .ok (.tuple #[v, .bool true]) W := by kernel_rfl
theorem as96_no (W : World) (u : TypeId) (v : Value) (h : u ≠ 96) : (Instr.typeAssert (.iface u v) 34 96 true).run Try.prog W = .ok (.tuple #[.agg #[.int .i64 0], .bool false]) W := by
  have e : (Instr.typeAssert (.iface u v) 34 96 true).run Try.prog W = (if u = 96 then (pure (Value.tuple #[v, .bool true]) : Sem Value) else (do pure (Value.tuple #[← zeroValue 96, .bool false]))).run Try.prog W := by kernel_rfl
  rw [e, if_neg h]
  have z : (do pure (Value.tuple #[← zeroValue 96, .bool false]) : Sem Value).run Try.prog W = .ok (.tuple #[.agg #[.int .i64 0], .bool false]) W := by kernel_rfl
  exact z
theorem as97_yes (W : World) (v : Value) : (Instr.typeAssert (.iface 97 v) 34 97 true).run Try.prog W = .ok (.tuple #[v, .bool true]) W := by kernel_rfl
theorem as97_no (W : World) (u : TypeId) (v : Value) (h : u ≠ 97) : (Instr.typeAssert (.iface u v) 34 97 true).run Try.prog W = .ok (.tuple #[.agg #[.int .i64 0], .bool false]) W := by
  have e : (Instr.typeAssert (.iface u v) 34 97 true).run Try.prog W = (if u = 97 then (pure (Value.tuple #[v, .bool true]) : Sem Value) else (do pure (Value.tuple #[← zeroValue 97, .bool false]))).run Try.prog W := by kernel_rfl
  rw [e, if_neg h]
  have z : (do pure (Value.tuple #[← zeroValue 97, .bool false]) : Sem Value).run Try.prog W = .ok (.tuple #[.agg #[.int .i64 0], .bool false]) W := by kernel_rfl
  exact z
theorem as82_yes (W : World) (v : Value) : (Instr.typeAssert (.iface 82 v) 34 82 true).run Try.prog W = .ok (.tuple #[v, .bool true]) W := by kernel_rfl
theorem as82_no (W : World) (u : TypeId) (v : Value) (h : u ≠ 82) : (Instr.typeAssert (.iface u v) 34 82 true).run Try.prog W = .ok (.tuple #[.agg #[.int .i64 0, .int .i64 0, .int .i64 0], .bool false]) W := by
  have e : (Instr.typeAssert (.iface u v) 34 82 true).run Try.prog W = (if u = 82 then (pure (Value.tuple #[v, .bool true]) : Sem Value) else (do pure (Value.tuple #[← zeroValue 82, .bool false]))).run Try.prog W := by kernel_rfl
  rw [e, if_neg h]
  have z : (do pure (Value.tuple #[← zeroValue 82, .bool false]) : Sem Value).run Try.prog W = .ok (.tuple #[.agg #[.int .i64 0, .int .i64 0, .int .i64 0], .bool false]) W := by kernel_rfl
  exact z
theorem as86_yes (W : World) (v : Value) : (Instr.typeAssert (.iface 86 v) 34 86 true).run Try.prog W = .ok (.tuple #[v, .bool true]) W := by kernel_rfl
theorem as86_no (W : World) (u : TypeId) (v : Value) (h : u ≠ 86) : (Instr.typeAssert (.iface u v) 34 86 true).run Try.prog W = .ok (.tuple #[.agg #[.int .i64 0, .int .i64 0, .string ⟨#[]⟩], .bool false]) W := by
  have e : (Instr.typeAssert (.iface u v) 34 86 true).run Try.prog W = (if u = 86 then (pure (Value.tuple #[v, .bool true]) : Sem Value) else (do pure (Value.tuple #[← zeroValue 86, .bool false]))).run Try.prog W := by kernel_rfl
  rw [e, if_neg h]
  have z : (do pure (Value.tuple #[← zeroValue 86, .bool false]) : Sem Value).run Try.prog W = .ok (.tuple #[.agg #[.int .i64 0, .int .i64 0, .string ⟨#[]⟩], .bool false]) W := by kernel_rfl
  exact z
theorem as83_yes (W : World) (v : Value) : (Instr.typeAssert (.iface 83 v) 34 83 true).run Try.prog W = .ok (.tuple #[v, .bool true]) W := by kernel_rfl
theorem as83_no (W : World) (u : TypeId) (v : Value) (h : u ≠ 83) : (Instr.typeAssert (.iface u v) 34 83 true).run Try.prog W = .ok (.tuple #[.agg #[.int .i64 0, .int .i64 0, .int .i64 0], .bool false]) W := by
  have e : (Instr.typeAssert (.iface u v) 34 83 true).run Try.prog W = (if u = 83 then (pure (Value.tuple #[v, .bool true]) : Sem Value) else (do pure (Value.tuple #[← zeroValue 83, .bool false]))).run Try.prog W := by kernel_rfl
  rw [e, if_neg h]
  have z : (do pure (Value.tuple #[← zeroValue 83, .bool false]) : Sem Value).run Try.prog W = .ok (.tuple #[.agg #[.int .i64 0, .int .i64 0, .int .i64 0], .bool false]) W := by kernel_rfl
  exact z
theorem as70_yes (W : World) (v : Value) : (Instr.typeAssert (.iface 70 v) 34 70 true).run Try.prog W = .ok (.tuple #[v, .bool true]) W := by kernel_rfl
theorem as70_no (W : World) (u : TypeId) (v : Value) (h : u ≠ 70) : (Instr.typeAssert (.iface u v) 34 70 true).run Try.prog W = .ok (.tuple #[.agg #[.int .i64 0], .bool false]) W := by
  have e : (Instr.typeAssert (.iface u v) 34 70 true).run Try.prog W = (if u = 70 then (pure (Value.tuple #[v, .bool true]) : Sem Value) else (do pure (Value.tuple #[← zeroValue 70, .bool false]))).run Try.prog W := by kernel_rfl
  rw [e, if_neg h]
  have z : (do pure (Value.tuple #[← zeroValue 70, .bool false]) : Sem Value).run Try.prog W = .ok (.tuple #[.agg #[.int .i64 0], .bool false]) W := by kernel_rfl
  exact z
theorem as74_yes (W : World) (v : Value) : (Instr.typeAssert (.iface 74 v) 34 74 true).run Try.prog W = .ok (.tuple #[v, .bool true]) W := by kernel_rfl
theorem as74_no (W : World) (u : TypeId) (v : Value) (h : u ≠ 74) : (Instr.typeAssert (.iface u v) 34 74 true).run Try.prog W = .ok (.tuple #[.agg #[.int .i64 0], .bool false]) W := by
  have e : (Instr.typeAssert (.iface u v) 34 74 true).run Try.prog W = (if u = 74 then (pure (Value.tuple #[v, .bool true]) : Sem Value) else (do pure (Value.tuple #[← zeroValue 74, .bool false]))).run Try.prog W := by kernel_rfl
  rw [e, if_neg h]
  have z : (do pure (Value.tuple #[← zeroValue 74, .bool false]) : Sem Value).run Try.prog W = .ok (.tuple #[.agg #[.int .i64 0], .bool false]) W := by kernel_rfl
  exact z
theorem as88_yes (W : World) (v : Value) : (Instr.typeAssert (.iface 88 v) 34 88 true).run Try.prog W = .ok (.tuple #[v, .bool true]) W := by kernel_rfl
theorem as88_no (W : World) (u : TypeId) (v : Value) (h : u ≠ 88) : (Instr.typeAssert (.iface u v) 34 88 true).run Try.prog W = .ok (.tuple #[.agg #[.string ⟨#[]⟩, .string ⟨#[]⟩, .string ⟨#[]⟩], .bool false]) W := by
  have e : (Instr.typeAssert (.iface u v) 34 88 true).run Try.prog W = (if u = 88 then (pure (Value.tuple #[v, .bool true]) : Sem Value) else (do pure (Value.tuple #[← zeroValue 88, .bool false]))).run Try.prog W := by kernel_rfl
  rw [e, if_neg h]
  have z : (do pure (Value.tuple #[← zeroValue 88, .bool false]) : Sem Value).run Try.prog W = .ok (.tuple #[.agg #[.string ⟨#[]⟩, .string ⟨#[]⟩, .string ⟨#[]⟩], .bool false]) W := by kernel_rfl
  exact z
theorem as68_yes (W : World) (v : Value) : (Instr.typeAssert (.iface 68 v) 34 68 true).run Try.prog W = .ok (.tuple #[v, .bool true]) W := by kernel_rfl
theorem as68_no (W : World) (u : TypeId) (v : Value) (h : u ≠ 68) : (Instr.typeAssert (.iface u v) 34 68 true).run Try.prog W = .ok (.tuple #[.agg #[], .bool false]) W := by
  have e : (Instr.typeAssert (.iface u v) 34 68 true).run Try.prog W = (if u = 68 then (pure (Value.tuple #[v, .bool true]) : Sem Value) else (do pure (Value.tuple #[← zeroValue 68, .bool false]))).run Try.prog W := by kernel_rfl
  rw [e, if_neg h]
  have z : (do pure (Value.tuple #[← zeroValue 68, .bool false]) : Sem Value).run Try.prog W = .ok (.tuple #[.agg #[], .bool false]) W := by kernel_rfl
  exact z
theorem as71_yes (W : World) (v : Value) : (Instr.typeAssert (.iface 71 v) 34 71 true).run Try.prog W = .ok (.tuple #[v, .bool true]) W := by kernel_rfl
theorem as71_no (W : World) (u : TypeId) (v : Value) (h : u ≠ 71) : (Instr.typeAssert (.iface u v) 34 71 true).run Try.prog W = .ok (.tuple #[.agg #[], .bool false]) W := by
  have e : (Instr.typeAssert (.iface u v) 34 71 true).run Try.prog W = (if u = 71 then (pure (Value.tuple #[v, .bool true]) : Sem Value) else (do pure (Value.tuple #[← zeroValue 71, .bool false]))).run Try.prog W := by kernel_rfl
  rw [e, if_neg h]
  have z : (do pure (Value.tuple #[← zeroValue 71, .bool false]) : Sem Value).run Try.prog W = .ok (.tuple #[.agg #[], .bool false]) W := by kernel_rfl
  exact z
theorem as72_yes (W : World) (v : Value) : (Instr.typeAssert (.iface 72 v) 34 72 true).run Try.prog W = .ok (.tuple #[v, .bool true]) W := by kernel_rfl
theorem as72_no (W : World) (u : TypeId) (v : Value) (h : u ≠ 72) : (Instr.typeAssert (.iface u v) 34 72 true).run Try.prog W = .ok (.tuple #[.agg #[], .bool false]) W := by
  have e : (Instr.typeAssert (.iface u v) 34 72 true).run Try.prog W = (if u = 72 then (pure (Value.tuple #[v, .bool true]) : Sem Value) else (do pure (Value.tuple #[← zeroValue 72, .bool false]))).run Try.prog W := by kernel_rfl
  rw [e, if_neg h]
  have z : (do pure (Value.tuple #[← zeroValue 72, .bool false]) : Sem Value).run Try.prog W = .ok (.tuple #[.agg #[], .bool false]) W := by kernel_rfl
  exact z
end Go.Proofs.Ythkpmmkddgjhmaa
