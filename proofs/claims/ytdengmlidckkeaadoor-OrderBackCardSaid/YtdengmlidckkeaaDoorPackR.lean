import Derived.Test.YtdengmlidckkeaaDoorPackI
set_option linter.unusedSimpArgs false
set_option linter.unusedVariables false
namespace Go.Proofs.YtdengmlidckkeaaDoor
open Go Go.RowKit
/-- An order: its kind, its numbers, its texts. -/
structure OV where
  k : Nat
  nums : List Int
  data : List ByteArray
/-- The type of a kind of orders. -/
def kT (k : Nat) : TypeId := #[83, 62, 98, 99, 61, 100, 102, 104, 105, 57, 26, 106, 107, 109, 111].getD k 0
def ordVal (o : OV) : Value := .iface (kT o.k) (.agg (o.nums.map (Value.int .i64) ++ o.data.map Value.string).toArray)
/-- A block that is known, and is no row of bytes. -/
structure BlkT (w : World) (g : Nat) (cs : Array Value) : Prop extends Blk w g cs where
  kind : ∃ c T fz, w.heap[g]? = some (.cells c T fz) ∧ T ≠ 5
theorem BlkT.new (w : World) (cs : Array Value) (t : TypeId) (ht : t ≠ 5 := by decide) : BlkT (w.alloc (.cells cs t)) w.heap.size cs := { Blk.new w cs t with kind := ⟨cs, t, (0, 0), heap_new _ _, ht⟩ }
def RowNew (w w' : World) (a : Option Addr) (vs : List Value) : Prop := 0 < vs.length → ∃ b o, a = some ⟨b, o, none⟩ ∧ w.heap.size ≤ b ∧ b < w'.heap.size ∧ (∃ c T fz, w'.heap[b]? = some (.cells c T fz) ∧ T ≠ 5) ∧ ∀ i v, vs[i]? = some v → w'.cell? ⟨b, o + i, none⟩ = some v
theorem RowNew.blk {w w' : World} {g : Nat} {cs : Array Value} (h : BlkT w' g cs) (hg : w.heap.size ≤ g) : RowNew w w' (some ⟨g, 0, none⟩) cs.toList :=
  fun _ => ⟨g, 0, rfl, hg, h.lt, h.kind, fun i v hv => by rw [Nat.zero_add]; exact (h.cell i).trans (by simpa using hv)⟩
theorem RowNew.nil (w w' : World) (a : Option Addr) : RowNew w w' a [] := fun q => absurd q (by simp)
theorem as83_yes (W : World) (v : Value) : (Instr.typeAssert (.iface 83 v) 41 83 true).run Tryd.prog W = .ok (.tuple #[v, .bool true]) W := by kernel_rfl
theorem as83_no (W : World) (u : TypeId) (v : Value) (h : u ≠ 83) : (Instr.typeAssert (.iface u v) 41 83 true).run Tryd.prog W = .ok (.tuple #[.agg #[.int .i64 0, .int .i64 0], .bool false]) W := by
  have e : (Instr.typeAssert (.iface u v) 41 83 true).run Tryd.prog W = (if u = 83 then (pure (Value.tuple #[v, .bool true]) : Sem Value) else (do pure (Value.tuple #[← zeroValue 83, .bool false]))).run Tryd.prog W := by kernel_rfl
  rw [e, if_neg h]
  have z : (do pure (Value.tuple #[← zeroValue 83, .bool false]) : Sem Value).run Tryd.prog W = .ok (.tuple #[.agg #[.int .i64 0, .int .i64 0], .bool false]) W := by kernel_rfl
  exact z
theorem as62_yes (W : World) (v : Value) : (Instr.typeAssert (.iface 62 v) 41 62 true).run Tryd.prog W = .ok (.tuple #[v, .bool true]) W := by kernel_rfl
theorem as62_no (W : World) (u : TypeId) (v : Value) (h : u ≠ 62) : (Instr.typeAssert (.iface u v) 41 62 true).run Tryd.prog W = .ok (.tuple #[.agg #[.int .i64 0], .bool false]) W := by
  have e : (Instr.typeAssert (.iface u v) 41 62 true).run Tryd.prog W = (if u = 62 then (pure (Value.tuple #[v, .bool true]) : Sem Value) else (do pure (Value.tuple #[← zeroValue 62, .bool false]))).run Tryd.prog W := by kernel_rfl
  rw [e, if_neg h]
  have z : (do pure (Value.tuple #[← zeroValue 62, .bool false]) : Sem Value).run Tryd.prog W = .ok (.tuple #[.agg #[.int .i64 0], .bool false]) W := by kernel_rfl
  exact z
theorem as98_yes (W : World) (v : Value) : (Instr.typeAssert (.iface 98 v) 41 98 true).run Tryd.prog W = .ok (.tuple #[v, .bool true]) W := by kernel_rfl
theorem as98_no (W : World) (u : TypeId) (v : Value) (h : u ≠ 98) : (Instr.typeAssert (.iface u v) 41 98 true).run Tryd.prog W = .ok (.tuple #[.agg #[.int .i64 0, .int .i64 0], .bool false]) W := by
  have e : (Instr.typeAssert (.iface u v) 41 98 true).run Tryd.prog W = (if u = 98 then (pure (Value.tuple #[v, .bool true]) : Sem Value) else (do pure (Value.tuple #[← zeroValue 98, .bool false]))).run Tryd.prog W := by kernel_rfl
  rw [e, if_neg h]
  have z : (do pure (Value.tuple #[← zeroValue 98, .bool false]) : Sem Value).run Tryd.prog W = .ok (.tuple #[.agg #[.int .i64 0, .int .i64 0], .bool false]) W := by kernel_rfl
  exact z
theorem as99_yes (W : World) (v : Value) : (Instr.typeAssert (.iface 99 v) 41 99 true).run Tryd.prog W = .ok (.tuple #[v, .bool true]) W := by kernel_rfl
theorem as99_no (W : World) (u : TypeId) (v : Value) (h : u ≠ 99) : (Instr.typeAssert (.iface u v) 41 99 true).run Tryd.prog W = .ok (.tuple #[.agg #[.int .i64 0, .int .i64 0], .bool false]) W := by
  have e : (Instr.typeAssert (.iface u v) 41 99 true).run Tryd.prog W = (if u = 99 then (pure (Value.tuple #[v, .bool true]) : Sem Value) else (do pure (Value.tuple #[← zeroValue 99, .bool false]))).run Tryd.prog W := by kernel_rfl
  rw [e, if_neg h]
  have z : (do pure (Value.tuple #[← zeroValue 99, .bool false]) : Sem Value).run Tryd.prog W = .ok (.tuple #[.agg #[.int .i64 0, .int .i64 0], .bool false]) W := by kernel_rfl
  exact z
theorem as61_yes (W : World) (v : Value) : (Instr.typeAssert (.iface 61 v) 41 61 true).run Tryd.prog W = .ok (.tuple #[v, .bool true]) W := by kernel_rfl
theorem as61_no (W : World) (u : TypeId) (v : Value) (h : u ≠ 61) : (Instr.typeAssert (.iface u v) 41 61 true).run Tryd.prog W = .ok (.tuple #[.agg #[.int .i64 0], .bool false]) W := by
  have e : (Instr.typeAssert (.iface u v) 41 61 true).run Tryd.prog W = (if u = 61 then (pure (Value.tuple #[v, .bool true]) : Sem Value) else (do pure (Value.tuple #[← zeroValue 61, .bool false]))).run Tryd.prog W := by kernel_rfl
  rw [e, if_neg h]
  have z : (do pure (Value.tuple #[← zeroValue 61, .bool false]) : Sem Value).run Tryd.prog W = .ok (.tuple #[.agg #[.int .i64 0], .bool false]) W := by kernel_rfl
  exact z
theorem as100_yes (W : World) (v : Value) : (Instr.typeAssert (.iface 100 v) 41 100 true).run Tryd.prog W = .ok (.tuple #[v, .bool true]) W := by kernel_rfl
theorem as100_no (W : World) (u : TypeId) (v : Value) (h : u ≠ 100) : (Instr.typeAssert (.iface u v) 41 100 true).run Tryd.prog W = .ok (.tuple #[.agg #[.int .i64 0], .bool false]) W := by
  have e : (Instr.typeAssert (.iface u v) 41 100 true).run Tryd.prog W = (if u = 100 then (pure (Value.tuple #[v, .bool true]) : Sem Value) else (do pure (Value.tuple #[← zeroValue 100, .bool false]))).run Tryd.prog W := by kernel_rfl
  rw [e, if_neg h]
  have z : (do pure (Value.tuple #[← zeroValue 100, .bool false]) : Sem Value).run Tryd.prog W = .ok (.tuple #[.agg #[.int .i64 0], .bool false]) W := by kernel_rfl
  exact z
theorem as102_yes (W : World) (v : Value) : (Instr.typeAssert (.iface 102 v) 41 102 true).run Tryd.prog W = .ok (.tuple #[v, .bool true]) W := by kernel_rfl
theorem as102_no (W : World) (u : TypeId) (v : Value) (h : u ≠ 102) : (Instr.typeAssert (.iface u v) 41 102 true).run Tryd.prog W = .ok (.tuple #[.agg #[.int .i64 0, .int .i64 0, .int .i64 0], .bool false]) W := by
  have e : (Instr.typeAssert (.iface u v) 41 102 true).run Tryd.prog W = (if u = 102 then (pure (Value.tuple #[v, .bool true]) : Sem Value) else (do pure (Value.tuple #[← zeroValue 102, .bool false]))).run Tryd.prog W := by kernel_rfl
  rw [e, if_neg h]
  have z : (do pure (Value.tuple #[← zeroValue 102, .bool false]) : Sem Value).run Tryd.prog W = .ok (.tuple #[.agg #[.int .i64 0, .int .i64 0, .int .i64 0], .bool false]) W := by kernel_rfl
  exact z
theorem as104_yes (W : World) (v : Value) : (Instr.typeAssert (.iface 104 v) 41 104 true).run Tryd.prog W = .ok (.tuple #[v, .bool true]) W := by kernel_rfl
theorem as104_no (W : World) (u : TypeId) (v : Value) (h : u ≠ 104) : (Instr.typeAssert (.iface u v) 41 104 true).run Tryd.prog W = .ok (.tuple #[.agg #[.int .i64 0, .int .i64 0, .string ⟨#[]⟩], .bool false]) W := by
  have e : (Instr.typeAssert (.iface u v) 41 104 true).run Tryd.prog W = (if u = 104 then (pure (Value.tuple #[v, .bool true]) : Sem Value) else (do pure (Value.tuple #[← zeroValue 104, .bool false]))).run Tryd.prog W := by kernel_rfl
  rw [e, if_neg h]
  have z : (do pure (Value.tuple #[← zeroValue 104, .bool false]) : Sem Value).run Tryd.prog W = .ok (.tuple #[.agg #[.int .i64 0, .int .i64 0, .string ⟨#[]⟩], .bool false]) W := by kernel_rfl
  exact z
theorem as105_yes (W : World) (v : Value) : (Instr.typeAssert (.iface 105 v) 41 105 true).run Tryd.prog W = .ok (.tuple #[v, .bool true]) W := by kernel_rfl
theorem as105_no (W : World) (u : TypeId) (v : Value) (h : u ≠ 105) : (Instr.typeAssert (.iface u v) 41 105 true).run Tryd.prog W = .ok (.tuple #[.agg #[.int .i64 0, .int .i64 0, .int .i64 0], .bool false]) W := by
  have e : (Instr.typeAssert (.iface u v) 41 105 true).run Tryd.prog W = (if u = 105 then (pure (Value.tuple #[v, .bool true]) : Sem Value) else (do pure (Value.tuple #[← zeroValue 105, .bool false]))).run Tryd.prog W := by kernel_rfl
  rw [e, if_neg h]
  have z : (do pure (Value.tuple #[← zeroValue 105, .bool false]) : Sem Value).run Tryd.prog W = .ok (.tuple #[.agg #[.int .i64 0, .int .i64 0, .int .i64 0], .bool false]) W := by kernel_rfl
  exact z
theorem as26_yes (W : World) (v : Value) : (Instr.typeAssert (.iface 26 v) 41 26 true).run Tryd.prog W = .ok (.tuple #[v, .bool true]) W := by kernel_rfl
theorem as26_no (W : World) (u : TypeId) (v : Value) (h : u ≠ 26) : (Instr.typeAssert (.iface u v) 41 26 true).run Tryd.prog W = .ok (.tuple #[.agg #[.int .i64 0], .bool false]) W := by
  have e : (Instr.typeAssert (.iface u v) 41 26 true).run Tryd.prog W = (if u = 26 then (pure (Value.tuple #[v, .bool true]) : Sem Value) else (do pure (Value.tuple #[← zeroValue 26, .bool false]))).run Tryd.prog W := by kernel_rfl
  rw [e, if_neg h]
  have z : (do pure (Value.tuple #[← zeroValue 26, .bool false]) : Sem Value).run Tryd.prog W = .ok (.tuple #[.agg #[.int .i64 0], .bool false]) W := by kernel_rfl
  exact z
theorem as109_yes (W : World) (v : Value) : (Instr.typeAssert (.iface 109 v) 41 109 true).run Tryd.prog W = .ok (.tuple #[v, .bool true]) W := by kernel_rfl
theorem as109_no (W : World) (u : TypeId) (v : Value) (h : u ≠ 109) : (Instr.typeAssert (.iface u v) 41 109 true).run Tryd.prog W = .ok (.tuple #[.agg #[.int .i64 0], .bool false]) W := by
  have e : (Instr.typeAssert (.iface u v) 41 109 true).run Tryd.prog W = (if u = 109 then (pure (Value.tuple #[v, .bool true]) : Sem Value) else (do pure (Value.tuple #[← zeroValue 109, .bool false]))).run Tryd.prog W := by kernel_rfl
  rw [e, if_neg h]
  have z : (do pure (Value.tuple #[← zeroValue 109, .bool false]) : Sem Value).run Tryd.prog W = .ok (.tuple #[.agg #[.int .i64 0], .bool false]) W := by kernel_rfl
  exact z
theorem as111_yes (W : World) (v : Value) : (Instr.typeAssert (.iface 111 v) 41 111 true).run Tryd.prog W = .ok (.tuple #[v, .bool true]) W := by kernel_rfl
theorem as111_no (W : World) (u : TypeId) (v : Value) (h : u ≠ 111) : (Instr.typeAssert (.iface u v) 41 111 true).run Tryd.prog W = .ok (.tuple #[.agg #[.string ⟨#[]⟩, .string ⟨#[]⟩, .string ⟨#[]⟩], .bool false]) W := by
  have e : (Instr.typeAssert (.iface u v) 41 111 true).run Tryd.prog W = (if u = 111 then (pure (Value.tuple #[v, .bool true]) : Sem Value) else (do pure (Value.tuple #[← zeroValue 111, .bool false]))).run Tryd.prog W := by kernel_rfl
  rw [e, if_neg h]
  have z : (do pure (Value.tuple #[← zeroValue 111, .bool false]) : Sem Value).run Tryd.prog W = .ok (.tuple #[.agg #[.string ⟨#[]⟩, .string ⟨#[]⟩, .string ⟨#[]⟩], .bool false]) W := by kernel_rfl
  exact z
theorem as57_yes (W : World) (v : Value) : (Instr.typeAssert (.iface 57 v) 41 57 true).run Tryd.prog W = .ok (.tuple #[v, .bool true]) W := by kernel_rfl
theorem as57_no (W : World) (u : TypeId) (v : Value) (h : u ≠ 57) : (Instr.typeAssert (.iface u v) 41 57 true).run Tryd.prog W = .ok (.tuple #[.agg #[], .bool false]) W := by
  have e : (Instr.typeAssert (.iface u v) 41 57 true).run Tryd.prog W = (if u = 57 then (pure (Value.tuple #[v, .bool true]) : Sem Value) else (do pure (Value.tuple #[← zeroValue 57, .bool false]))).run Tryd.prog W := by kernel_rfl
  rw [e, if_neg h]
  have z : (do pure (Value.tuple #[← zeroValue 57, .bool false]) : Sem Value).run Tryd.prog W = .ok (.tuple #[.agg #[], .bool false]) W := by kernel_rfl
  exact z
theorem as106_yes (W : World) (v : Value) : (Instr.typeAssert (.iface 106 v) 41 106 true).run Tryd.prog W = .ok (.tuple #[v, .bool true]) W := by kernel_rfl
theorem as106_no (W : World) (u : TypeId) (v : Value) (h : u ≠ 106) : (Instr.typeAssert (.iface u v) 41 106 true).run Tryd.prog W = .ok (.tuple #[.agg #[], .bool false]) W := by
  have e : (Instr.typeAssert (.iface u v) 41 106 true).run Tryd.prog W = (if u = 106 then (pure (Value.tuple #[v, .bool true]) : Sem Value) else (do pure (Value.tuple #[← zeroValue 106, .bool false]))).run Tryd.prog W := by kernel_rfl
  rw [e, if_neg h]
  have z : (do pure (Value.tuple #[← zeroValue 106, .bool false]) : Sem Value).run Tryd.prog W = .ok (.tuple #[.agg #[], .bool false]) W := by kernel_rfl
  exact z
theorem as107_yes (W : World) (v : Value) : (Instr.typeAssert (.iface 107 v) 41 107 true).run Tryd.prog W = .ok (.tuple #[v, .bool true]) W := by kernel_rfl
theorem as107_no (W : World) (u : TypeId) (v : Value) (h : u ≠ 107) : (Instr.typeAssert (.iface u v) 41 107 true).run Tryd.prog W = .ok (.tuple #[.agg #[], .bool false]) W := by
  have e : (Instr.typeAssert (.iface u v) 41 107 true).run Tryd.prog W = (if u = 107 then (pure (Value.tuple #[v, .bool true]) : Sem Value) else (do pure (Value.tuple #[← zeroValue 107, .bool false]))).run Tryd.prog W := by kernel_rfl
  rw [e, if_neg h]
  have z : (do pure (Value.tuple #[← zeroValue 107, .bool false]) : Sem Value).run Tryd.prog W = .ok (.tuple #[.agg #[], .bool false]) W := by kernel_rfl
  exact z
end Go.Proofs.YtdengmlidckkeaaDoor
