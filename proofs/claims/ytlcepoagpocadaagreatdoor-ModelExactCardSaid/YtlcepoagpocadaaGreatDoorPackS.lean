import Derived.Test.YtlcepoagpocadaaGreatDoorMeZ
import Derived.Lib.Builder
import Derived.OwnWalk
import Derived.Lib.OthersKept
set_option linter.unusedSimpArgs false
set_option linter.unusedVariables false
/- Small laws that package order wants. -/
namespace Go.Proofs.YtlcepoagpocadaaGreatDoor
open Go Go.RowKit
theorem info5 : (Tryz.prog.info? 5).map (fun i => (i.zero, i.size, i.bytes)) = some (some (.int .u8 0), 1, 1) := by kernel_rfl
theorem owns_lt {w : World} {base size n : Nat} {e : TypeId} {v : Value} {xs : List Value} (h : w.ownsRow base e size v n xs) : ∀ k, v.ownBlock = some k → k < w.heap.size := fun k hk => (h.lt k hk).2
theorem owns_kind {w : World} {B : Nat} {e : TypeId} {v : Value} {n : Nat} {xs : List Value} (h : w.ownsRow B e 1 v n xs) : ∀ g, v.ownBlock = some g → ∃ c fz, w.heap[g]? = some (.cells c e fz) := Lib.ownsRowF_kind (World.ownsRowF_of h)
theorem byteCells_snoc (l : List UInt8) (b : UInt8) : Lib.byteCells (l ++ [b]) = Lib.byteCells l ++ [.int .u8 (b.toNat : Int)] := by rw [Lib.byteCells_append]; rfl
theorem u8wrap (z : Int) : IntKind.u8.wrap z = z % 256 := by unfold IntKind.wrap; simp [IntKind.signed, IntKind.bits]
end Go.Proofs.YtlcepoagpocadaaGreatDoor
namespace Go.Proofs.YtlcepoagpocadaaGreatDoor
open Go Go.RowKit
/-- An order: its kind, its numbers, its texts. -/
structure OV where
  k : Nat
  nums : List Int
  data : List ByteArray
/-- The type of a kind of orders. -/
def kT (k : Nat) : TypeId := #[25, 79, 81, 137, 139, 141, 94, 38, 42, 40, 188, 189, 117, 191, 45].getD k 0
def ordVal (o : OV) : Value := .iface (kT o.k) (.agg (o.nums.map (Value.int .i64) ++ o.data.map Value.string).toArray)
/-- A block that is known, and is no row of bytes. -/
structure BlkT (w : World) (g : Nat) (cs : Array Value) : Prop extends Blk w g cs where
  kind : ∃ c T fz, w.heap[g]? = some (.cells c T fz) ∧ T ≠ 5
theorem BlkT.new (w : World) (cs : Array Value) (t : TypeId) (ht : t ≠ 5 := by decide) : BlkT (w.alloc (.cells cs t)) w.heap.size cs := { Blk.new w cs t with kind := ⟨cs, t, (0, 0), heap_new _ _, ht⟩ }
def RowNew (w w' : World) (a : Option Addr) (vs : List Value) : Prop := 0 < vs.length → ∃ b o, a = some ⟨b, o, none⟩ ∧ w.heap.size ≤ b ∧ b < w'.heap.size ∧ (∃ c T fz, w'.heap[b]? = some (.cells c T fz) ∧ T ≠ 5) ∧ ∀ i v, vs[i]? = some v → w'.cell? ⟨b, o + i, none⟩ = some v
theorem RowNew.blk {w w' : World} {g : Nat} {cs : Array Value} (h : BlkT w' g cs) (hg : w.heap.size ≤ g) : RowNew w w' (some ⟨g, 0, none⟩) cs.toList :=
  fun _ => ⟨g, 0, rfl, hg, h.lt, h.kind, fun i v hv => by rw [Nat.zero_add]; exact (h.cell i).trans (by simpa using hv)⟩
theorem RowNew.nil (w w' : World) (a : Option Addr) : RowNew w w' a [] := fun q => absurd q (by simp)
theorem as83_yes (W : World) (v : Value) : (Instr.typeAssert (.iface 25 v) 27 25 true).run Tryz.prog W = .ok (.tuple #[v, .bool true]) W := by kernel_rfl
theorem as83_no (W : World) (u : TypeId) (v : Value) (h : u ≠ 25) : (Instr.typeAssert (.iface u v) 27 25 true).run Tryz.prog W = .ok (.tuple #[.agg #[.int .i64 0, .int .i64 0], .bool false]) W := by
  have e : (Instr.typeAssert (.iface u v) 27 25 true).run Tryz.prog W = (if u = 25 then (pure (Value.tuple #[v, .bool true]) : Sem Value) else (do pure (Value.tuple #[← zeroValue 25, .bool false]))).run Tryz.prog W := by kernel_rfl
  rw [e, if_neg h]
  have z : (do pure (Value.tuple #[← zeroValue 25, .bool false]) : Sem Value).run Tryz.prog W = .ok (.tuple #[.agg #[.int .i64 0, .int .i64 0], .bool false]) W := by kernel_rfl
  exact z
theorem as62_yes (W : World) (v : Value) : (Instr.typeAssert (.iface 79 v) 27 79 true).run Tryz.prog W = .ok (.tuple #[v, .bool true]) W := by kernel_rfl
theorem as62_no (W : World) (u : TypeId) (v : Value) (h : u ≠ 79) : (Instr.typeAssert (.iface u v) 27 79 true).run Tryz.prog W = .ok (.tuple #[.agg #[.int .i64 0], .bool false]) W := by
  have e : (Instr.typeAssert (.iface u v) 27 79 true).run Tryz.prog W = (if u = 79 then (pure (Value.tuple #[v, .bool true]) : Sem Value) else (do pure (Value.tuple #[← zeroValue 79, .bool false]))).run Tryz.prog W := by kernel_rfl
  rw [e, if_neg h]
  have z : (do pure (Value.tuple #[← zeroValue 79, .bool false]) : Sem Value).run Tryz.prog W = .ok (.tuple #[.agg #[.int .i64 0], .bool false]) W := by kernel_rfl
  exact z
theorem as98_yes (W : World) (v : Value) : (Instr.typeAssert (.iface 81 v) 27 81 true).run Tryz.prog W = .ok (.tuple #[v, .bool true]) W := by kernel_rfl
theorem as98_no (W : World) (u : TypeId) (v : Value) (h : u ≠ 81) : (Instr.typeAssert (.iface u v) 27 81 true).run Tryz.prog W = .ok (.tuple #[.agg #[.int .i64 0, .int .i64 0], .bool false]) W := by
  have e : (Instr.typeAssert (.iface u v) 27 81 true).run Tryz.prog W = (if u = 81 then (pure (Value.tuple #[v, .bool true]) : Sem Value) else (do pure (Value.tuple #[← zeroValue 81, .bool false]))).run Tryz.prog W := by kernel_rfl
  rw [e, if_neg h]
  have z : (do pure (Value.tuple #[← zeroValue 81, .bool false]) : Sem Value).run Tryz.prog W = .ok (.tuple #[.agg #[.int .i64 0, .int .i64 0], .bool false]) W := by kernel_rfl
  exact z
theorem as99_yes (W : World) (v : Value) : (Instr.typeAssert (.iface 137 v) 27 137 true).run Tryz.prog W = .ok (.tuple #[v, .bool true]) W := by kernel_rfl
theorem as99_no (W : World) (u : TypeId) (v : Value) (h : u ≠ 137) : (Instr.typeAssert (.iface u v) 27 137 true).run Tryz.prog W = .ok (.tuple #[.agg #[.int .i64 0, .int .i64 0], .bool false]) W := by
  have e : (Instr.typeAssert (.iface u v) 27 137 true).run Tryz.prog W = (if u = 137 then (pure (Value.tuple #[v, .bool true]) : Sem Value) else (do pure (Value.tuple #[← zeroValue 137, .bool false]))).run Tryz.prog W := by kernel_rfl
  rw [e, if_neg h]
  have z : (do pure (Value.tuple #[← zeroValue 137, .bool false]) : Sem Value).run Tryz.prog W = .ok (.tuple #[.agg #[.int .i64 0, .int .i64 0], .bool false]) W := by kernel_rfl
  exact z
theorem as61_yes (W : World) (v : Value) : (Instr.typeAssert (.iface 139 v) 27 139 true).run Tryz.prog W = .ok (.tuple #[v, .bool true]) W := by kernel_rfl
theorem as61_no (W : World) (u : TypeId) (v : Value) (h : u ≠ 139) : (Instr.typeAssert (.iface u v) 27 139 true).run Tryz.prog W = .ok (.tuple #[.agg #[.int .i64 0], .bool false]) W := by
  have e : (Instr.typeAssert (.iface u v) 27 139 true).run Tryz.prog W = (if u = 139 then (pure (Value.tuple #[v, .bool true]) : Sem Value) else (do pure (Value.tuple #[← zeroValue 139, .bool false]))).run Tryz.prog W := by kernel_rfl
  rw [e, if_neg h]
  have z : (do pure (Value.tuple #[← zeroValue 139, .bool false]) : Sem Value).run Tryz.prog W = .ok (.tuple #[.agg #[.int .i64 0], .bool false]) W := by kernel_rfl
  exact z
theorem as100_yes (W : World) (v : Value) : (Instr.typeAssert (.iface 141 v) 27 141 true).run Tryz.prog W = .ok (.tuple #[v, .bool true]) W := by kernel_rfl
theorem as100_no (W : World) (u : TypeId) (v : Value) (h : u ≠ 141) : (Instr.typeAssert (.iface u v) 27 141 true).run Tryz.prog W = .ok (.tuple #[.agg #[.int .i64 0], .bool false]) W := by
  have e : (Instr.typeAssert (.iface u v) 27 141 true).run Tryz.prog W = (if u = 141 then (pure (Value.tuple #[v, .bool true]) : Sem Value) else (do pure (Value.tuple #[← zeroValue 141, .bool false]))).run Tryz.prog W := by kernel_rfl
  rw [e, if_neg h]
  have z : (do pure (Value.tuple #[← zeroValue 141, .bool false]) : Sem Value).run Tryz.prog W = .ok (.tuple #[.agg #[.int .i64 0], .bool false]) W := by kernel_rfl
  exact z
theorem as102_yes (W : World) (v : Value) : (Instr.typeAssert (.iface 94 v) 27 94 true).run Tryz.prog W = .ok (.tuple #[v, .bool true]) W := by kernel_rfl
theorem as102_no (W : World) (u : TypeId) (v : Value) (h : u ≠ 94) : (Instr.typeAssert (.iface u v) 27 94 true).run Tryz.prog W = .ok (.tuple #[.agg #[.int .i64 0, .int .i64 0, .int .i64 0], .bool false]) W := by
  have e : (Instr.typeAssert (.iface u v) 27 94 true).run Tryz.prog W = (if u = 94 then (pure (Value.tuple #[v, .bool true]) : Sem Value) else (do pure (Value.tuple #[← zeroValue 94, .bool false]))).run Tryz.prog W := by kernel_rfl
  rw [e, if_neg h]
  have z : (do pure (Value.tuple #[← zeroValue 94, .bool false]) : Sem Value).run Tryz.prog W = .ok (.tuple #[.agg #[.int .i64 0, .int .i64 0, .int .i64 0], .bool false]) W := by kernel_rfl
  exact z
theorem as104_yes (W : World) (v : Value) : (Instr.typeAssert (.iface 38 v) 27 38 true).run Tryz.prog W = .ok (.tuple #[v, .bool true]) W := by kernel_rfl
theorem as104_no (W : World) (u : TypeId) (v : Value) (h : u ≠ 38) : (Instr.typeAssert (.iface u v) 27 38 true).run Tryz.prog W = .ok (.tuple #[.agg #[.int .i64 0, .int .i64 0, .string ⟨#[]⟩], .bool false]) W := by
  have e : (Instr.typeAssert (.iface u v) 27 38 true).run Tryz.prog W = (if u = 38 then (pure (Value.tuple #[v, .bool true]) : Sem Value) else (do pure (Value.tuple #[← zeroValue 38, .bool false]))).run Tryz.prog W := by kernel_rfl
  rw [e, if_neg h]
  have z : (do pure (Value.tuple #[← zeroValue 38, .bool false]) : Sem Value).run Tryz.prog W = .ok (.tuple #[.agg #[.int .i64 0, .int .i64 0, .string ⟨#[]⟩], .bool false]) W := by kernel_rfl
  exact z
theorem as105_yes (W : World) (v : Value) : (Instr.typeAssert (.iface 42 v) 27 42 true).run Tryz.prog W = .ok (.tuple #[v, .bool true]) W := by kernel_rfl
theorem as105_no (W : World) (u : TypeId) (v : Value) (h : u ≠ 42) : (Instr.typeAssert (.iface u v) 27 42 true).run Tryz.prog W = .ok (.tuple #[.agg #[.int .i64 0, .int .i64 0, .int .i64 0], .bool false]) W := by
  have e : (Instr.typeAssert (.iface u v) 27 42 true).run Tryz.prog W = (if u = 42 then (pure (Value.tuple #[v, .bool true]) : Sem Value) else (do pure (Value.tuple #[← zeroValue 42, .bool false]))).run Tryz.prog W := by kernel_rfl
  rw [e, if_neg h]
  have z : (do pure (Value.tuple #[← zeroValue 42, .bool false]) : Sem Value).run Tryz.prog W = .ok (.tuple #[.agg #[.int .i64 0, .int .i64 0, .int .i64 0], .bool false]) W := by kernel_rfl
  exact z
theorem as26_yes (W : World) (v : Value) : (Instr.typeAssert (.iface 188 v) 27 188 true).run Tryz.prog W = .ok (.tuple #[v, .bool true]) W := by kernel_rfl
theorem as26_no (W : World) (u : TypeId) (v : Value) (h : u ≠ 188) : (Instr.typeAssert (.iface u v) 27 188 true).run Tryz.prog W = .ok (.tuple #[.agg #[.int .i64 0], .bool false]) W := by
  have e : (Instr.typeAssert (.iface u v) 27 188 true).run Tryz.prog W = (if u = 188 then (pure (Value.tuple #[v, .bool true]) : Sem Value) else (do pure (Value.tuple #[← zeroValue 188, .bool false]))).run Tryz.prog W := by kernel_rfl
  rw [e, if_neg h]
  have z : (do pure (Value.tuple #[← zeroValue 188, .bool false]) : Sem Value).run Tryz.prog W = .ok (.tuple #[.agg #[.int .i64 0], .bool false]) W := by kernel_rfl
  exact z
theorem as109_yes (W : World) (v : Value) : (Instr.typeAssert (.iface 191 v) 27 191 true).run Tryz.prog W = .ok (.tuple #[v, .bool true]) W := by kernel_rfl
theorem as109_no (W : World) (u : TypeId) (v : Value) (h : u ≠ 191) : (Instr.typeAssert (.iface u v) 27 191 true).run Tryz.prog W = .ok (.tuple #[.agg #[.int .i64 0], .bool false]) W := by
  have e : (Instr.typeAssert (.iface u v) 27 191 true).run Tryz.prog W = (if u = 191 then (pure (Value.tuple #[v, .bool true]) : Sem Value) else (do pure (Value.tuple #[← zeroValue 191, .bool false]))).run Tryz.prog W := by kernel_rfl
  rw [e, if_neg h]
  have z : (do pure (Value.tuple #[← zeroValue 191, .bool false]) : Sem Value).run Tryz.prog W = .ok (.tuple #[.agg #[.int .i64 0], .bool false]) W := by kernel_rfl
  exact z
theorem as111_yes (W : World) (v : Value) : (Instr.typeAssert (.iface 45 v) 27 45 true).run Tryz.prog W = .ok (.tuple #[v, .bool true]) W := by kernel_rfl
theorem as111_no (W : World) (u : TypeId) (v : Value) (h : u ≠ 45) : (Instr.typeAssert (.iface u v) 27 45 true).run Tryz.prog W = .ok (.tuple #[.agg #[.string ⟨#[]⟩, .string ⟨#[]⟩, .string ⟨#[]⟩], .bool false]) W := by
  have e : (Instr.typeAssert (.iface u v) 27 45 true).run Tryz.prog W = (if u = 45 then (pure (Value.tuple #[v, .bool true]) : Sem Value) else (do pure (Value.tuple #[← zeroValue 45, .bool false]))).run Tryz.prog W := by kernel_rfl
  rw [e, if_neg h]
  have z : (do pure (Value.tuple #[← zeroValue 45, .bool false]) : Sem Value).run Tryz.prog W = .ok (.tuple #[.agg #[.string ⟨#[]⟩, .string ⟨#[]⟩, .string ⟨#[]⟩], .bool false]) W := by kernel_rfl
  exact z
theorem as57_yes (W : World) (v : Value) : (Instr.typeAssert (.iface 40 v) 27 40 true).run Tryz.prog W = .ok (.tuple #[v, .bool true]) W := by kernel_rfl
theorem as57_no (W : World) (u : TypeId) (v : Value) (h : u ≠ 40) : (Instr.typeAssert (.iface u v) 27 40 true).run Tryz.prog W = .ok (.tuple #[.agg #[], .bool false]) W := by
  have e : (Instr.typeAssert (.iface u v) 27 40 true).run Tryz.prog W = (if u = 40 then (pure (Value.tuple #[v, .bool true]) : Sem Value) else (do pure (Value.tuple #[← zeroValue 40, .bool false]))).run Tryz.prog W := by kernel_rfl
  rw [e, if_neg h]
  have z : (do pure (Value.tuple #[← zeroValue 40, .bool false]) : Sem Value).run Tryz.prog W = .ok (.tuple #[.agg #[], .bool false]) W := by kernel_rfl
  exact z
theorem as106_yes (W : World) (v : Value) : (Instr.typeAssert (.iface 189 v) 27 189 true).run Tryz.prog W = .ok (.tuple #[v, .bool true]) W := by kernel_rfl
theorem as106_no (W : World) (u : TypeId) (v : Value) (h : u ≠ 189) : (Instr.typeAssert (.iface u v) 27 189 true).run Tryz.prog W = .ok (.tuple #[.agg #[], .bool false]) W := by
  have e : (Instr.typeAssert (.iface u v) 27 189 true).run Tryz.prog W = (if u = 189 then (pure (Value.tuple #[v, .bool true]) : Sem Value) else (do pure (Value.tuple #[← zeroValue 189, .bool false]))).run Tryz.prog W := by kernel_rfl
  rw [e, if_neg h]
  have z : (do pure (Value.tuple #[← zeroValue 189, .bool false]) : Sem Value).run Tryz.prog W = .ok (.tuple #[.agg #[], .bool false]) W := by kernel_rfl
  exact z
theorem as107_yes (W : World) (v : Value) : (Instr.typeAssert (.iface 117 v) 27 117 true).run Tryz.prog W = .ok (.tuple #[v, .bool true]) W := by kernel_rfl
theorem as107_no (W : World) (u : TypeId) (v : Value) (h : u ≠ 117) : (Instr.typeAssert (.iface u v) 27 117 true).run Tryz.prog W = .ok (.tuple #[.agg #[], .bool false]) W := by
  have e : (Instr.typeAssert (.iface u v) 27 117 true).run Tryz.prog W = (if u = 117 then (pure (Value.tuple #[v, .bool true]) : Sem Value) else (do pure (Value.tuple #[← zeroValue 117, .bool false]))).run Tryz.prog W := by kernel_rfl
  rw [e, if_neg h]
  have z : (do pure (Value.tuple #[← zeroValue 117, .bool false]) : Sem Value).run Tryz.prog W = .ok (.tuple #[.agg #[], .bool false]) W := by kernel_rfl
  exact z
end Go.Proofs.YtlcepoagpocadaaGreatDoor
namespace Go.Proofs.YtlcepoagpocadaaGreatDoor
open Go Go.RowKit
def PartsV (w : World) (ns ts : List Value) (e : Ending) (w' : World) : Prop := ∃ a1 c1 a2 c2, e = .returned (.tuple #[.slice a1 ns.length c1, .slice a2 ts.length c2, .bool true]) ∧ RowNew w w' a1 ns ∧ RowNew w w' a2 ts ∧ Same w w'
set_option maxRecDepth 10000 in
theorem parts83 (x0 x1 : Int) (w : World) : Calls Tryz.prog 73 #[.iface 25 (.agg #[.int .i64 x0, .int .i64 x1])] w (PartsV w [.int .i64 x0, .int .i64 x1] []) := by
  refine opq fun R HR => ?_
  have m83 := fun W => as83_yes W (.agg #[.int .i64 x0, .int .i64 x1])
  go_enter Tryz.func73, Tryz.ntmps73
  go_wp2_with fail
  have hB := BlkT.new (w.alloc (.cells #[.int .i64 x0, .int .i64 x1] 25)) #[.int .i64 x0, .int .i64 x1] 3
  have hz : (w.alloc (.cells #[.int .i64 x0, .int .i64 x1] 25)).heap.size = w.heap.size + 1 := by simp
  rw [hz] at hB
  exact HR.out _ _ ⟨_, _, none, 0, rfl, RowNew.blk hB (by omega), RowNew.nil _ _ _, ((Mod.refl _ w).alloc _).alloc _⟩
set_option maxRecDepth 10000 in
theorem parts62 (x0 : Int) (w : World) : Calls Tryz.prog 73 #[.iface 79 (.agg #[.int .i64 x0])] w (PartsV w [.int .i64 x0] []) := by
  refine opq fun R HR => ?_
  have m83 := fun W => as83_no W 79 (.agg #[.int .i64 x0]) (by decide)
  have m62 := fun W => as62_yes W (.agg #[.int .i64 x0])
  go_enter Tryz.func73, Tryz.ntmps73
  go_wp2_with fail
  have hB := BlkT.new (w.alloc (.cells #[.int .i64 x0] 79)) #[.int .i64 x0] 3
  have hz : (w.alloc (.cells #[.int .i64 x0] 79)).heap.size = w.heap.size + 1 := by simp
  rw [hz] at hB
  exact HR.out _ _ ⟨_, _, none, 0, rfl, RowNew.blk hB (by omega), RowNew.nil _ _ _, ((Mod.refl _ w).alloc _).alloc _⟩
set_option maxRecDepth 10000 in
theorem parts98 (x0 x1 : Int) (w : World) : Calls Tryz.prog 73 #[.iface 81 (.agg #[.int .i64 x0, .int .i64 x1])] w (PartsV w [.int .i64 x0, .int .i64 x1] []) := by
  refine opq fun R HR => ?_
  have m83 := fun W => as83_no W 81 (.agg #[.int .i64 x0, .int .i64 x1]) (by decide)
  have m62 := fun W => as62_no W 81 (.agg #[.int .i64 x0, .int .i64 x1]) (by decide)
  have m98 := fun W => as98_yes W (.agg #[.int .i64 x0, .int .i64 x1])
  go_enter Tryz.func73, Tryz.ntmps73
  go_wp2_with fail
  have hB := BlkT.new (w.alloc (.cells #[.int .i64 x0, .int .i64 x1] 81)) #[.int .i64 x0, .int .i64 x1] 3
  have hz : (w.alloc (.cells #[.int .i64 x0, .int .i64 x1] 81)).heap.size = w.heap.size + 1 := by simp
  rw [hz] at hB
  exact HR.out _ _ ⟨_, _, none, 0, rfl, RowNew.blk hB (by omega), RowNew.nil _ _ _, ((Mod.refl _ w).alloc _).alloc _⟩
set_option maxRecDepth 10000 in
theorem parts99 (x0 x1 : Int) (w : World) : Calls Tryz.prog 73 #[.iface 137 (.agg #[.int .i64 x0, .int .i64 x1])] w (PartsV w [.int .i64 x0, .int .i64 x1] []) := by
  refine opq fun R HR => ?_
  have m83 := fun W => as83_no W 137 (.agg #[.int .i64 x0, .int .i64 x1]) (by decide)
  have m62 := fun W => as62_no W 137 (.agg #[.int .i64 x0, .int .i64 x1]) (by decide)
  have m98 := fun W => as98_no W 137 (.agg #[.int .i64 x0, .int .i64 x1]) (by decide)
  have m99 := fun W => as99_yes W (.agg #[.int .i64 x0, .int .i64 x1])
  go_enter Tryz.func73, Tryz.ntmps73
  go_wp2_with fail
  have hB := BlkT.new (w.alloc (.cells #[.int .i64 x0, .int .i64 x1] 137)) #[.int .i64 x0, .int .i64 x1] 3
  have hz : (w.alloc (.cells #[.int .i64 x0, .int .i64 x1] 137)).heap.size = w.heap.size + 1 := by simp
  rw [hz] at hB
  exact HR.out _ _ ⟨_, _, none, 0, rfl, RowNew.blk hB (by omega), RowNew.nil _ _ _, ((Mod.refl _ w).alloc _).alloc _⟩
set_option maxRecDepth 10000 in
theorem parts61 (x0 : Int) (w : World) : Calls Tryz.prog 73 #[.iface 139 (.agg #[.int .i64 x0])] w (PartsV w [.int .i64 x0] []) := by
  refine opq fun R HR => ?_
  have m83 := fun W => as83_no W 139 (.agg #[.int .i64 x0]) (by decide)
  have m62 := fun W => as62_no W 139 (.agg #[.int .i64 x0]) (by decide)
  have m98 := fun W => as98_no W 139 (.agg #[.int .i64 x0]) (by decide)
  have m99 := fun W => as99_no W 139 (.agg #[.int .i64 x0]) (by decide)
  have m61 := fun W => as61_yes W (.agg #[.int .i64 x0])
  go_enter Tryz.func73, Tryz.ntmps73
  go_wp2_with fail
  have hB := BlkT.new (w.alloc (.cells #[.int .i64 x0] 139)) #[.int .i64 x0] 3
  have hz : (w.alloc (.cells #[.int .i64 x0] 139)).heap.size = w.heap.size + 1 := by simp
  rw [hz] at hB
  exact HR.out _ _ ⟨_, _, none, 0, rfl, RowNew.blk hB (by omega), RowNew.nil _ _ _, ((Mod.refl _ w).alloc _).alloc _⟩
set_option maxRecDepth 10000 in
theorem parts100 (x0 : Int) (w : World) : Calls Tryz.prog 73 #[.iface 141 (.agg #[.int .i64 x0])] w (PartsV w [.int .i64 x0] []) := by
  refine opq fun R HR => ?_
  have m83 := fun W => as83_no W 141 (.agg #[.int .i64 x0]) (by decide)
  have m62 := fun W => as62_no W 141 (.agg #[.int .i64 x0]) (by decide)
  have m98 := fun W => as98_no W 141 (.agg #[.int .i64 x0]) (by decide)
  have m99 := fun W => as99_no W 141 (.agg #[.int .i64 x0]) (by decide)
  have m61 := fun W => as61_no W 141 (.agg #[.int .i64 x0]) (by decide)
  have m100 := fun W => as100_yes W (.agg #[.int .i64 x0])
  go_enter Tryz.func73, Tryz.ntmps73
  go_wp2_with fail
  have hB := BlkT.new (w.alloc (.cells #[.int .i64 x0] 141)) #[.int .i64 x0] 3
  have hz : (w.alloc (.cells #[.int .i64 x0] 141)).heap.size = w.heap.size + 1 := by simp
  rw [hz] at hB
  exact HR.out _ _ ⟨_, _, none, 0, rfl, RowNew.blk hB (by omega), RowNew.nil _ _ _, ((Mod.refl _ w).alloc _).alloc _⟩
set_option maxRecDepth 10000 in
theorem parts102 (x0 x1 x2 : Int) (w : World) : Calls Tryz.prog 73 #[.iface 94 (.agg #[.int .i64 x0, .int .i64 x1, .int .i64 x2])] w (PartsV w [.int .i64 x0, .int .i64 x1, .int .i64 x2] []) := by
  refine opq fun R HR => ?_
  have m83 := fun W => as83_no W 94 (.agg #[.int .i64 x0, .int .i64 x1, .int .i64 x2]) (by decide)
  have m62 := fun W => as62_no W 94 (.agg #[.int .i64 x0, .int .i64 x1, .int .i64 x2]) (by decide)
  have m98 := fun W => as98_no W 94 (.agg #[.int .i64 x0, .int .i64 x1, .int .i64 x2]) (by decide)
  have m99 := fun W => as99_no W 94 (.agg #[.int .i64 x0, .int .i64 x1, .int .i64 x2]) (by decide)
  have m61 := fun W => as61_no W 94 (.agg #[.int .i64 x0, .int .i64 x1, .int .i64 x2]) (by decide)
  have m100 := fun W => as100_no W 94 (.agg #[.int .i64 x0, .int .i64 x1, .int .i64 x2]) (by decide)
  have m102 := fun W => as102_yes W (.agg #[.int .i64 x0, .int .i64 x1, .int .i64 x2])
  go_enter Tryz.func73, Tryz.ntmps73
  go_wp2_with fail
  have hB := BlkT.new (w.alloc (.cells #[.int .i64 x0, .int .i64 x1, .int .i64 x2] 94)) #[.int .i64 x0, .int .i64 x1, .int .i64 x2] 3
  have hz : (w.alloc (.cells #[.int .i64 x0, .int .i64 x1, .int .i64 x2] 94)).heap.size = w.heap.size + 1 := by simp
  rw [hz] at hB
  exact HR.out _ _ ⟨_, _, none, 0, rfl, RowNew.blk hB (by omega), RowNew.nil _ _ _, ((Mod.refl _ w).alloc _).alloc _⟩
set_option maxRecDepth 10000 in
theorem parts105 (x0 x1 x2 : Int) (w : World) : Calls Tryz.prog 73 #[.iface 42 (.agg #[.int .i64 x0, .int .i64 x1, .int .i64 x2])] w (PartsV w [.int .i64 x0, .int .i64 x1, .int .i64 x2] []) := by
  refine opq fun R HR => ?_
  have m83 := fun W => as83_no W 42 (.agg #[.int .i64 x0, .int .i64 x1, .int .i64 x2]) (by decide)
  have m62 := fun W => as62_no W 42 (.agg #[.int .i64 x0, .int .i64 x1, .int .i64 x2]) (by decide)
  have m98 := fun W => as98_no W 42 (.agg #[.int .i64 x0, .int .i64 x1, .int .i64 x2]) (by decide)
  have m99 := fun W => as99_no W 42 (.agg #[.int .i64 x0, .int .i64 x1, .int .i64 x2]) (by decide)
  have m61 := fun W => as61_no W 42 (.agg #[.int .i64 x0, .int .i64 x1, .int .i64 x2]) (by decide)
  have m100 := fun W => as100_no W 42 (.agg #[.int .i64 x0, .int .i64 x1, .int .i64 x2]) (by decide)
  have m102 := fun W => as102_no W 42 (.agg #[.int .i64 x0, .int .i64 x1, .int .i64 x2]) (by decide)
  have m104 := fun W => as104_no W 42 (.agg #[.int .i64 x0, .int .i64 x1, .int .i64 x2]) (by decide)
  have m105 := fun W => as105_yes W (.agg #[.int .i64 x0, .int .i64 x1, .int .i64 x2])
  go_enter Tryz.func73, Tryz.ntmps73
  go_wp2_with fail
  have hB := BlkT.new (w.alloc (.cells #[.int .i64 x0, .int .i64 x1, .int .i64 x2] 42)) #[.int .i64 x0, .int .i64 x1, .int .i64 x2] 3
  have hz : (w.alloc (.cells #[.int .i64 x0, .int .i64 x1, .int .i64 x2] 42)).heap.size = w.heap.size + 1 := by simp
  rw [hz] at hB
  exact HR.out _ _ ⟨_, _, none, 0, rfl, RowNew.blk hB (by omega), RowNew.nil _ _ _, ((Mod.refl _ w).alloc _).alloc _⟩
set_option maxRecDepth 10000 in
theorem parts26 (x0 : Int) (w : World) : Calls Tryz.prog 73 #[.iface 188 (.agg #[.int .i64 x0])] w (PartsV w [.int .i64 x0] []) := by
  refine opq fun R HR => ?_
  have m83 := fun W => as83_no W 188 (.agg #[.int .i64 x0]) (by decide)
  have m62 := fun W => as62_no W 188 (.agg #[.int .i64 x0]) (by decide)
  have m98 := fun W => as98_no W 188 (.agg #[.int .i64 x0]) (by decide)
  have m99 := fun W => as99_no W 188 (.agg #[.int .i64 x0]) (by decide)
  have m61 := fun W => as61_no W 188 (.agg #[.int .i64 x0]) (by decide)
  have m100 := fun W => as100_no W 188 (.agg #[.int .i64 x0]) (by decide)
  have m102 := fun W => as102_no W 188 (.agg #[.int .i64 x0]) (by decide)
  have m104 := fun W => as104_no W 188 (.agg #[.int .i64 x0]) (by decide)
  have m105 := fun W => as105_no W 188 (.agg #[.int .i64 x0]) (by decide)
  have m26 := fun W => as26_yes W (.agg #[.int .i64 x0])
  go_enter Tryz.func73, Tryz.ntmps73
  go_wp2_with fail
  have hB := BlkT.new (w.alloc (.cells #[.int .i64 x0] 188)) #[.int .i64 x0] 3
  have hz : (w.alloc (.cells #[.int .i64 x0] 188)).heap.size = w.heap.size + 1 := by simp
  rw [hz] at hB
  exact HR.out _ _ ⟨_, _, none, 0, rfl, RowNew.blk hB (by omega), RowNew.nil _ _ _, ((Mod.refl _ w).alloc _).alloc _⟩
set_option maxRecDepth 10000 in
theorem parts109 (x0 : Int) (w : World) : Calls Tryz.prog 73 #[.iface 191 (.agg #[.int .i64 x0])] w (PartsV w [.int .i64 x0] []) := by
  refine opq fun R HR => ?_
  have m83 := fun W => as83_no W 191 (.agg #[.int .i64 x0]) (by decide)
  have m62 := fun W => as62_no W 191 (.agg #[.int .i64 x0]) (by decide)
  have m98 := fun W => as98_no W 191 (.agg #[.int .i64 x0]) (by decide)
  have m99 := fun W => as99_no W 191 (.agg #[.int .i64 x0]) (by decide)
  have m61 := fun W => as61_no W 191 (.agg #[.int .i64 x0]) (by decide)
  have m100 := fun W => as100_no W 191 (.agg #[.int .i64 x0]) (by decide)
  have m102 := fun W => as102_no W 191 (.agg #[.int .i64 x0]) (by decide)
  have m104 := fun W => as104_no W 191 (.agg #[.int .i64 x0]) (by decide)
  have m105 := fun W => as105_no W 191 (.agg #[.int .i64 x0]) (by decide)
  have m26 := fun W => as26_no W 191 (.agg #[.int .i64 x0]) (by decide)
  have m109 := fun W => as109_yes W (.agg #[.int .i64 x0])
  go_enter Tryz.func73, Tryz.ntmps73
  go_wp2_with fail
  have hB := BlkT.new (w.alloc (.cells #[.int .i64 x0] 191)) #[.int .i64 x0] 3
  have hz : (w.alloc (.cells #[.int .i64 x0] 191)).heap.size = w.heap.size + 1 := by simp
  rw [hz] at hB
  exact HR.out _ _ ⟨_, _, none, 0, rfl, RowNew.blk hB (by omega), RowNew.nil _ _ _, ((Mod.refl _ w).alloc _).alloc _⟩
set_option maxRecDepth 10000 in
theorem parts57 (w : World) : Calls Tryz.prog 73 #[.iface 40 (.agg #[])] w (PartsV w [] []) := by
  refine opq fun R HR => ?_
  have m83 := fun W => as83_no W 40 (.agg #[]) (by decide)
  have m62 := fun W => as62_no W 40 (.agg #[]) (by decide)
  have m98 := fun W => as98_no W 40 (.agg #[]) (by decide)
  have m99 := fun W => as99_no W 40 (.agg #[]) (by decide)
  have m61 := fun W => as61_no W 40 (.agg #[]) (by decide)
  have m100 := fun W => as100_no W 40 (.agg #[]) (by decide)
  have m102 := fun W => as102_no W 40 (.agg #[]) (by decide)
  have m104 := fun W => as104_no W 40 (.agg #[]) (by decide)
  have m105 := fun W => as105_no W 40 (.agg #[]) (by decide)
  have m26 := fun W => as26_no W 40 (.agg #[]) (by decide)
  have m109 := fun W => as109_no W 40 (.agg #[]) (by decide)
  have m111 := fun W => as111_no W 40 (.agg #[]) (by decide)
  have m57 := fun W => as57_yes W (.agg #[])
  have m106 := fun W => as106_no W 40 (.agg #[]) (by decide)
  have m107 := fun W => as107_no W 40 (.agg #[]) (by decide)
  go_enter Tryz.func73, Tryz.ntmps73
  go_wp2_with fail
  exact HR.out _ _ ⟨none, 0, none, 0, rfl, RowNew.nil _ _ _, RowNew.nil _ _ _, Mod.refl _ _⟩
set_option maxRecDepth 10000 in
theorem parts106 (w : World) : Calls Tryz.prog 73 #[.iface 189 (.agg #[])] w (PartsV w [] []) := by
  refine opq fun R HR => ?_
  have m83 := fun W => as83_no W 189 (.agg #[]) (by decide)
  have m62 := fun W => as62_no W 189 (.agg #[]) (by decide)
  have m98 := fun W => as98_no W 189 (.agg #[]) (by decide)
  have m99 := fun W => as99_no W 189 (.agg #[]) (by decide)
  have m61 := fun W => as61_no W 189 (.agg #[]) (by decide)
  have m100 := fun W => as100_no W 189 (.agg #[]) (by decide)
  have m102 := fun W => as102_no W 189 (.agg #[]) (by decide)
  have m104 := fun W => as104_no W 189 (.agg #[]) (by decide)
  have m105 := fun W => as105_no W 189 (.agg #[]) (by decide)
  have m26 := fun W => as26_no W 189 (.agg #[]) (by decide)
  have m109 := fun W => as109_no W 189 (.agg #[]) (by decide)
  have m111 := fun W => as111_no W 189 (.agg #[]) (by decide)
  have m57 := fun W => as57_no W 189 (.agg #[]) (by decide)
  have m106 := fun W => as106_yes W (.agg #[])
  have m107 := fun W => as107_no W 189 (.agg #[]) (by decide)
  go_enter Tryz.func73, Tryz.ntmps73
  go_wp2_with fail
  exact HR.out _ _ ⟨none, 0, none, 0, rfl, RowNew.nil _ _ _, RowNew.nil _ _ _, Mod.refl _ _⟩
set_option maxRecDepth 10000 in
theorem parts107 (w : World) : Calls Tryz.prog 73 #[.iface 117 (.agg #[])] w (PartsV w [] []) := by
  refine opq fun R HR => ?_
  have m83 := fun W => as83_no W 117 (.agg #[]) (by decide)
  have m62 := fun W => as62_no W 117 (.agg #[]) (by decide)
  have m98 := fun W => as98_no W 117 (.agg #[]) (by decide)
  have m99 := fun W => as99_no W 117 (.agg #[]) (by decide)
  have m61 := fun W => as61_no W 117 (.agg #[]) (by decide)
  have m100 := fun W => as100_no W 117 (.agg #[]) (by decide)
  have m102 := fun W => as102_no W 117 (.agg #[]) (by decide)
  have m104 := fun W => as104_no W 117 (.agg #[]) (by decide)
  have m105 := fun W => as105_no W 117 (.agg #[]) (by decide)
  have m26 := fun W => as26_no W 117 (.agg #[]) (by decide)
  have m109 := fun W => as109_no W 117 (.agg #[]) (by decide)
  have m111 := fun W => as111_no W 117 (.agg #[]) (by decide)
  have m57 := fun W => as57_no W 117 (.agg #[]) (by decide)
  have m106 := fun W => as106_no W 117 (.agg #[]) (by decide)
  have m107 := fun W => as107_yes W (.agg #[])
  go_enter Tryz.func73, Tryz.ntmps73
  go_wp2_with fail
  exact HR.out _ _ ⟨none, 0, none, 0, rfl, RowNew.nil _ _ _, RowNew.nil _ _ _, Mod.refl _ _⟩
end Go.Proofs.YtlcepoagpocadaaGreatDoor
