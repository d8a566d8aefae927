import Derived.Test.YtdengmlidckkeaaGreatDoorPackI
set_option linter.unusedSimpArgs false
set_option linter.unusedVariables false
namespace Go.Proofs.YtdengmlidckkeaaGreatDoor
open Go Go.RowKit
/-- An order: its kind, its numbers, its texts. -/
structure OV where
  k : Nat
  nums : List Int
  data : List ByteArray
/-- The type of a kind of orders. -/
def kT (k : Nat) : TypeId := #[74, 79, 81, 82, 83, 84, 86, 66, 87, 68, 89, 90, 91, 93, 95].getD k 0
def ordVal (o : OV) : Value := .iface (kT o.k) (.agg (o.nums.map (Value.int .i64) ++ o.data.map Value.string).toArray)
/-- A block that is known, and is no row of bytes. -/
structure BlkT (w : World) (g : Nat) (cs : Array Value) : Prop extends Blk w g cs where
  kind : ∃ c T fz, w.heap[g]? = some (.cells c T fz) ∧ T ≠ 5
theorem BlkT.new (w : World) (cs : Array Value) (t : TypeId) (ht : t ≠ 5 := by decide) : BlkT (w.alloc (.cells cs t)) w.heap.size cs := { Blk.new w cs t with kind := ⟨cs, t, (0, 0), heap_new _ _, ht⟩ }
def RowNew (w w' : World) (a : Option Addr) (vs : List Value) : Prop := 0 < vs.length → ∃ b o, a = some ⟨b, o, none⟩ ∧ w.heap.size ≤ b ∧ b < w'.heap.size ∧ (∃ c T fz, w'.heap[b]? = some (.cells c T fz) ∧ T ≠ 5) ∧ ∀ i v, vs[i]? = some v → w'.cell? ⟨b, o + i, none⟩ = some v
theorem RowNew.blk {w w' : World} {g : Nat} {cs : Array Value} (h : BlkT w' g cs) (hg : w.heap.size ≤ g) : RowNew w w' (some ⟨g, 0, none⟩) cs.toList :=
  fun _ => ⟨g, 0, rfl, hg, h.lt, h.kind, fun i v hv => by rw [Nat.zero_add]; exact (h.cell i).trans (by simpa using hv)⟩
theorem RowNew.nil (w w' : World) (a : Option Addr) : RowNew w w' a [] := fun q => absurd q (by simp)
theorem as83_yes (W : World) (v : Value) : (Instr.typeAssert (.iface 74 v) 24 74 true).run Tryz.prog W = .ok (.tuple #[v, .bool true]) W := by kernel_rfl
theorem as83_no (W : World) (u : TypeId) (v : Value) (h : u ≠ 74) : (Instr.typeAssert (.iface u v) 24 74 true).run Tryz.prog W = .ok (.tuple #[.agg #[.int .i64 0, .int .i64 0], .bool false]) W := by
  have e : (Instr.typeAssert (.iface u v) 24 74 true).run Tryz.prog W = (if u = 74 then (pure (Value.tuple #[v, .bool true]) : Sem Value) else (do pure (Value.tuple #[← zeroValue 74, .bool false]))).run Tryz.prog W := by kernel_rfl
  rw [e, if_neg h]
  have z : (do pure (Value.tuple #[← zeroValue 74, .bool false]) : Sem Value).run Tryz.prog W = .ok (.tuple #[.agg #[.int .i64 0, .int .i64 0], .bool false]) W := by kernel_rfl
  exact z
theorem as62_yes (W : World) (v : Value) : (Instr.typeAssert (.iface 79 v) 24 79 true).run Tryz.prog W = .ok (.tuple #[v, .bool true]) W := by kernel_rfl
theorem as62_no (W : World) (u : TypeId) (v : Value) (h : u ≠ 79) : (Instr.typeAssert (.iface u v) 24 79 true).run Tryz.prog W = .ok (.tuple #[.agg #[.int .i64 0], .bool false]) W := by
  have e : (Instr.typeAssert (.iface u v) 24 79 true).run Tryz.prog W = (if u = 79 then (pure (Value.tuple #[v, .bool true]) : Sem Value) else (do pure (Value.tuple #[← zeroValue 79, .bool false]))).run Tryz.prog W := by kernel_rfl
  rw [e, if_neg h]
  have z : (do pure (Value.tuple #[← zeroValue 79, .bool false]) : Sem Value).run Tryz.prog W = .ok (.tuple #[.agg #[.int .i64 0], .bool false]) W := by kernel_rfl
  exact z
theorem as98_yes (W : World) (v : Value) : (Instr.typeAssert (.iface 81 v) 24 81 true).run Tryz.prog W = .ok (.tuple #[v, .bool true]) W := by kernel_rfl
theorem as98_no (W : World) (u : TypeId) (v : Value) (h : u ≠ 81) : (Instr.typeAssert (.iface u v) 24 81 true).run Tryz.prog W = .ok (.tuple #[.agg #[.int .i64 0, .int .i64 0], .bool false]) W := by
  have e : (Instr.typeAssert (.iface u v) 24 81 true).run Tryz.prog W = (if u = 81 then (pure (Value.tuple #[v, .bool true]) : Sem Value) else (do pure (Value.tuple #[← zeroValue 81, .bool false]))).run Tryz.prog W := by kernel_rfl
  rw [e, if_neg h]
  have z : (do pure (Value.tuple #[← zeroValue 81, .bool false]) : Sem Value).run Tryz.prog W = .ok (.tuple #[.agg #[.int .i64 0, .int .i64 0], .bool false]) W := by kernel_rfl
  exact z
theorem as99_yes (W : World) (v : Value) : (Instr.typeAssert (.iface 82 v) 24 82 true).run Tryz.prog W = .ok (.tuple #[v, .bool true]) W := by kernel_rfl
theorem as99_no (W : World) (u : TypeId) (v : Value) (h : u ≠ 82) : (Instr.typeAssert (.iface u v) 24 82 true).run Tryz.prog W = .ok (.tuple #[.agg #[.int .i64 0, .int .i64 0], .bool false]) W := by
  have e : (Instr.typeAssert (.iface u v) 24 82 true).run Tryz.prog W = (if u = 82 then (pure (Value.tuple #[v, .bool true]) : Sem Value) else (do pure (Value.tuple #[← zeroValue 82, .bool false]))).run Tryz.prog W := by kernel_rfl
  rw [e, if_neg h]
  have z : (do pure (Value.tuple #[← zeroValue 82, .bool false]) : Sem Value).run Tryz.prog W = .ok (.tuple #[.agg #[.int .i64 0, .int .i64 0], .bool false]) W := by kernel_rfl
  exact z
theorem as61_yes (W : World) (v : Value) : (Instr.typeAssert (.iface 83 v) 24 83 true).run Tryz.prog W = .ok (.tuple #[v, .bool true]) W := by kernel_rfl
theorem as61_no (W : World) (u : TypeId) (v : Value) (h : u ≠ 83) : (Instr.typeAssert (.iface u v) 24 83 true).run Tryz.prog W = .ok (.tuple #[.agg #[.int .i64 0], .bool false]) W := by
  have e : (Instr.typeAssert (.iface u v) 24 83 true).run Tryz.prog W = (if u = 83 then (pure (Value.tuple #[v, .bool true]) : Sem Value) else (do pure (Value.tuple #[← zeroValue 83, .bool false]))).run Tryz.prog W := by kernel_rfl
  rw [e, if_neg h]
  have z : (do pure (Value.tuple #[← zeroValue 83, .bool false]) : Sem Value).run Tryz.prog W = .ok (.tuple #[.agg #[.int .i64 0], .bool false]) W := by kernel_rfl
  exact z
theorem as100_yes (W : World) (v : Value) : (Instr.typeAssert (.iface 84 v) 24 84 true).run Tryz.prog W = .ok (.tuple #[v, .bool true]) W := by kernel_rfl
theorem as100_no (W : World) (u : TypeId) (v : Value) (h : u ≠ 84) : (Instr.typeAssert (.iface u v) 24 84 true).run Tryz.prog W = .ok (.tuple #[.agg #[.int .i64 0], .bool false]) W := by
  have e : (Instr.typeAssert (.iface u v) 24 84 true).run Tryz.prog W = (if u = 84 then (pure (Value.tuple #[v, .bool true]) : Sem Value) else (do pure (Value.tuple #[← zeroValue 84, .bool false]))).run Tryz.prog W := by kernel_rfl
  rw [e, if_neg h]
  have z : (do pure (Value.tuple #[← zeroValue 84, .bool false]) : Sem Value).run Tryz.prog W = .ok (.tuple #[.agg #[.int .i64 0], .bool false]) W := by kernel_rfl
  exact z
theorem as102_yes (W : World) (v : Value) : (Instr.typeAssert (.iface 86 v) 24 86 true).run Tryz.prog W = .ok (.tuple #[v, .bool true]) W := by kernel_rfl
theorem as102_no (W : World) (u : TypeId) (v : Value) (h : u ≠ 86) : (Instr.typeAssert (.iface u v) 24 86 true).run Tryz.prog W = .ok (.tuple #[.agg #[.int .i64 0, .int .i64 0, .int .i64 0], .bool false]) W := by
  have e : (Instr.typeAssert (.iface u v) 24 86 true).run Tryz.prog W = (if u = 86 then (pure (Value.tuple #[v, .bool true]) : Sem Value) else (do pure (Value.tuple #[← zeroValue 86, .bool false]))).run Tryz.prog W := by kernel_rfl
  rw [e, if_neg h]
  have z : (do pure (Value.tuple #[← zeroValue 86, .bool false]) : Sem Value).run Tryz.prog W = .ok (.tuple #[.agg #[.int .i64 0, .int .i64 0, .int .i64 0], .bool false]) W := by kernel_rfl
  exact z
theorem as104_yes (W : World) (v : Value) : (Instr.typeAssert (.iface 66 v) 24 66 true).run Tryz.prog W = .ok (.tuple #[v, .bool true]) W := by kernel_rfl
theorem as104_no (W : World) (u : TypeId) (v : Value) (h : u ≠ 66) : (Instr.typeAssert (.iface u v) 24 66 true).run Tryz.prog W = .ok (.tuple #[.agg #[.int .i64 0, .int .i64 0, .string ⟨#[]⟩], .bool false]) W := by
  have e : (Instr.typeAssert (.iface u v) 24 66 true).run Tryz.prog W = (if u = 66 then (pure (Value.tuple #[v, .bool true]) : Sem Value) else (do pure (Value.tuple #[← zeroValue 66, .bool false]))).run Tryz.prog W := by kernel_rfl
  rw [e, if_neg h]
  have z : (do pure (Value.tuple #[← zeroValue 66, .bool false]) : Sem Value).run Tryz.prog W = .ok (.tuple #[.agg #[.int .i64 0, .int .i64 0, .string ⟨#[]⟩], .bool false]) W := by kernel_rfl
  exact z
theorem as105_yes (W : World) (v : Value) : (Instr.typeAssert (.iface 87 v) 24 87 true).run Tryz.prog W = .ok (.tuple #[v, .bool true]) W := by kernel_rfl
theorem as105_no (W : World) (u : TypeId) (v : Value) (h : u ≠ 87) : (Instr.typeAssert (.iface u v) 24 87 true).run Tryz.prog W = .ok (.tuple #[.agg #[.int .i64 0, .int .i64 0, .int .i64 0], .bool false]) W := by
  have e : (Instr.typeAssert (.iface u v) 24 87 true).run Tryz.prog W = (if u = 87 then (pure (Value.tuple #[v, .bool true]) : Sem Value) else (do pure (Value.tuple #[← zeroValue 87, .bool false]))).run Tryz.prog W := by kernel_rfl
  rw [e, if_neg h]
  have z : (do pure (Value.tuple #[← zeroValue 87, .bool false]) : Sem Value).run Tryz.prog W = .ok (.tuple #[.agg #[.int .i64 0, .int .i64 0, .int .i64 0], .bool false]) W := by kernel_rfl
  exact z
theorem as26_yes (W : World) (v : Value) : (Instr.typeAssert (.iface 89 v) 24 89 true).run Tryz.prog W = .ok (.tuple #[v, .bool true]) W := by kernel_rfl
theorem as26_no (W : World) (u : TypeId) (v : Value) (h : u ≠ 89) : (Instr.typeAssert (.iface u v) 24 89 true).run Tryz.prog W = .ok (.tuple #[.agg #[.int .i64 0], .bool false]) W := by
  have e : (Instr.typeAssert (.iface u v) 24 89 true).run Tryz.prog W = (if u = 89 then (pure (Value.tuple #[v, .bool true]) : Sem Value) else (do pure (Value.tuple #[← zeroValue 89, .bool false]))).run Tryz.prog W := by kernel_rfl
  rw [e, if_neg h]
  have z : (do pure (Value.tuple #[← zeroValue 89, .bool false]) : Sem Value).run Tryz.prog W = .ok (.tuple #[.agg #[.int .i64 0], .bool false]) W := by kernel_rfl
  exact z
theorem as109_yes (W : World) (v : Value) : (Instr.typeAssert (.iface 93 v) 24 93 true).run Tryz.prog W = .ok (.tuple #[v, .bool true]) W := by kernel_rfl
theorem as109_no (W : World) (u : TypeId) (v : Value) (h : u ≠ 93) : (Instr.typeAssert (.iface u v) 24 93 true).run Tryz.prog W = .ok (.tuple #[.agg #[.int .i64 0], .bool false]) W := by
  have e : (Instr.typeAssert (.iface u v) 24 93 true).run Tryz.prog W = (if u = 93 then (pure (Value.tuple #[v, .bool true]) : Sem Value) else (do pure (Value.tuple #[← zeroValue 93, .bool false]))).run Tryz.prog W := by kernel_rfl
  rw [e, if_neg h]
  have z : (do pure (Value.tuple #[← zeroValue 93, .bool false]) : Sem Value).run Tryz.prog W = .ok (.tuple #[.agg #[.int .i64 0], .bool false]) W := by kernel_rfl
  exact z
theorem as111_yes (W : World) (v : Value) : (Instr.typeAssert (.iface 95 v) 24 95 true).run Tryz.prog W = .ok (.tuple #[v, .bool true]) W := by kernel_rfl
theorem as111_no (W : World) (u : TypeId) (v : Value) (h : u ≠ 95) : (Instr.typeAssert (.iface u v) 24 95 true).run Tryz.prog W = .ok (.tuple #[.agg #[.string ⟨#[]⟩, .string ⟨#[]⟩, .string ⟨#[]⟩], .bool false]) W := by
  have e : (Instr.typeAssert (.iface u v) 24 95 true).run Tryz.prog W = (if u = 95 then (pure (Value.tuple #[v, .bool true]) : Sem Value) else (do pure (Value.tuple #[← zeroValue 95, .bool false]))).run Tryz.prog W := by kernel_rfl
  rw [e, if_neg h]
  have z : (do pure (Value.tuple #[← zeroValue 95, .bool false]) : Sem Value).run Tryz.prog W = .ok (.tuple #[.agg #[.string ⟨#[]⟩, .string ⟨#[]⟩, .string ⟨#[]⟩], .bool false]) W := by kernel_rfl
  exact z
theorem as57_yes (W : World) (v : Value) : (Instr.typeAssert (.iface 68 v) 24 68 true).run Tryz.prog W = .ok (.tuple #[v, .bool true]) W := by kernel_rfl
theorem as57_no (W : World) (u : TypeId) (v : Value) (h : u ≠ 68) : (Instr.typeAssert (.iface u v) 24 68 true).run Tryz.prog W = .ok (.tuple #[.agg #[], .bool false]) W := by
  have e : (Instr.typeAssert (.iface u v) 24 68 true).run Tryz.prog W = (if u = 68 then (pure (Value.tuple #[v, .bool true]) : Sem Value) else (do pure (Value.tuple #[← zeroValue 68, .bool false]))).run Tryz.prog W := by kernel_rfl
  rw [e, if_neg h]
  have z : (do pure (Value.tuple #[← zeroValue 68, .bool false]) : Sem Value).run Tryz.prog W = .ok (.tuple #[.agg #[], .bool false]) W := by kernel_rfl
  exact z
theorem as106_yes (W : World) (v : Value) : (Instr.typeAssert (.iface 90 v) 24 90 true).run Tryz.prog W = .ok (.tuple #[v, .bool true]) W := by kernel_rfl
theorem as106_no (W : World) (u : TypeId) (v : Value) (h : u ≠ 90) : (Instr.typeAssert (.iface u v) 24 90 true).run Tryz.prog W = .ok (.tuple #[.agg #[], .bool false]) W := by
  have e : (Instr.typeAssert (.iface u v) 24 90 true).run Tryz.prog W = (if u = 90 then (pure (Value.tuple #[v, .bool true]) : Sem Value) else (do pure (Value.tuple #[← zeroValue 90, .bool false]))).run Tryz.prog W := by kernel_rfl
  rw [e, if_neg h]
  have z : (do pure (Value.tuple #[← zeroValue 90, .bool false]) : Sem Value).run Tryz.prog W = .ok (.tuple #[.agg #[], .bool false]) W := by kernel_rfl
  exact z
theorem as107_yes (W : World) (v : Value) : (Instr.typeAssert (.iface 91 v) 24 91 true).run Tryz.prog W = .ok (.tuple #[v, .bool true]) W := by kernel_rfl
theorem as107_no (W : World) (u : TypeId) (v : Value) (h : u ≠ 91) : (Instr.typeAssert (.iface u v) 24 91 true).run Tryz.prog W = .ok (.tuple #[.agg #[], .bool false]) W := by
  have e : (Instr.typeAssert (.iface u v) 24 91 true).run Tryz.prog W = (if u = 91 then (pure (Value.tuple #[v, .bool true]) : Sem Value) else (do pure (Value.tuple #[← zeroValue 91, .bool false]))).run Tryz.prog W := by kernel_rfl
  rw [e, if_neg h]
  have z : (do pure (Value.tuple #[← zeroValue 91, .bool false]) : Sem Value).run Tryz.prog W = .ok (.tuple #[.agg #[], .bool false]) W := by kernel_rfl
  exact z
end Go.Proofs.YtdengmlidckkeaaGreatDoor
