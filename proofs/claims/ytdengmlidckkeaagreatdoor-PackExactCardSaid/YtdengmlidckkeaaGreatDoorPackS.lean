import Derived.Test.YtdengmlidckkeaaGreatDoorPackR
set_option linter.unusedSimpArgs false
set_option linter.unusedVariables false
namespace Go.Proofs.YtdengmlidckkeaaGreatDoor
open Go Go.RowKit
def PartsV (w : World) (ns ts : List Value) (e : Ending) (w' : World) : Prop := ∃ a1 c1 a2 c2, e = .returned (.tuple #[.slice a1 ns.length c1, .slice a2 ts.length c2, .bool true]) ∧ RowNew w w' a1 ns ∧ RowNew w w' a2 ts ∧ Same w w'
set_option maxRecDepth 10000 in
theorem parts83 (x0 x1 : Int) (w : World) : Calls Tryz.prog 37 #[.iface 74 (.agg #[.int .i64 x0, .int .i64 x1])] w (PartsV w [.int .i64 x0, .int .i64 x1] []) := by
  refine opq fun R HR => ?_
  have m83 := fun W => as83_yes W (.agg #[.int .i64 x0, .int .i64 x1])
  go_enter Tryz.func37, Tryz.ntmps37
  go_wp2_with fail
  have hB := BlkT.new (w.alloc (.cells #[.int .i64 x0, .int .i64 x1] 74)) #[.int .i64 x0, .int .i64 x1] 3
  have hz : (w.alloc (.cells #[.int .i64 x0, .int .i64 x1] 74)).heap.size = w.heap.size + 1 := by simp
  rw [hz] at hB
  exact HR.out _ _ ⟨_, _, none, 0, rfl, RowNew.blk hB (by omega), RowNew.nil _ _ _, ((Mod.refl _ w).alloc _).alloc _⟩
set_option maxRecDepth 10000 in
theorem parts62 (x0 : Int) (w : World) : Calls Tryz.prog 37 #[.iface 79 (.agg #[.int .i64 x0])] w (PartsV w [.int .i64 x0] []) := by
  refine opq fun R HR => ?_
  have m83 := fun W => as83_no W 79 (.agg #[.int .i64 x0]) (by decide)
  have m62 := fun W => as62_yes W (.agg #[.int .i64 x0])
  go_enter Tryz.func37, Tryz.ntmps37
  go_wp2_with fail
  have hB := BlkT.new (w.alloc (.cells #[.int .i64 x0] 79)) #[.int .i64 x0] 3
  have hz : (w.alloc (.cells #[.int .i64 x0] 79)).heap.size = w.heap.size + 1 := by simp
  rw [hz] at hB
  exact HR.out _ _ ⟨_, _, none, 0, rfl, RowNew.blk hB (by omega), RowNew.nil _ _ _, ((Mod.refl _ w).alloc _).alloc _⟩
set_option maxRecDepth 10000 in
theorem parts98 (x0 x1 : Int) (w : World) : Calls Tryz.prog 37 #[.iface 81 (.agg #[.int .i64 x0, .int .i64 x1])] w (PartsV w [.int .i64 x0, .int .i64 x1] []) := by
  refine opq fun R HR => ?_
  have m83 := fun W => as83_no W 81 (.agg #[.int .i64 x0, .int .i64 x1]) (by decide)
  have m62 := fun W => as62_no W 81 (.agg #[.int .i64 x0, .int .i64 x1]) (by decide)
  have m98 := fun W => as98_yes W (.agg #[.int .i64 x0, .int .i64 x1])
  go_enter Tryz.func37, Tryz.ntmps37
  go_wp2_with fail
  have hB := BlkT.new (w.alloc (.cells #[.int .i64 x0, .int .i64 x1] 81)) #[.int .i64 x0, .int .i64 x1] 3
  have hz : (w.alloc (.cells #[.int .i64 x0, .int .i64 x1] 81)).heap.size = w.heap.size + 1 := by simp
  rw [hz] at hB
  exact HR.out _ _ ⟨_, _, none, 0, rfl, RowNew.blk hB (by omega), RowNew.nil _ _ _, ((Mod.refl _ w).alloc _).alloc _⟩
set_option maxRecDepth 10000 in
theorem parts99 (x0 x1 : Int) (w : World) : Calls Tryz.prog 37 #[.iface 82 (.agg #[.int .i64 x0, .int .i64 x1])] w (PartsV w [.int .i64 x0, .int .i64 x1] []) := by
  refine opq fun R HR => ?_
  have m83 := fun W => as83_no W 82 (.agg #[.int .i64 x0, .int .i64 x1]) (by decide)
  have m62 := fun W => as62_no W 82 (.agg #[.int .i64 x0, .int .i64 x1]) (by decide)
  have m98 := fun W => as98_no W 82 (.agg #[.int .i64 x0, .int .i64 x1]) (by decide)
  have m99 := fun W => as99_yes W (.agg #[.int .i64 x0, .int .i64 x1])
  go_enter Tryz.func37, Tryz.ntmps37
  go_wp2_with fail
  have hB := BlkT.new (w.alloc (.cells #[.int .i64 x0, .int .i64 x1] 82)) #[.int .i64 x0, .int .i64 x1] 3
  have hz : (w.alloc (.cells #[.int .i64 x0, .int .i64 x1] 82)).heap.size = w.heap.size + 1 := by simp
  rw [hz] at hB
  exact HR.out _ _ ⟨_, _, none, 0, rfl, RowNew.blk hB (by omega), RowNew.nil _ _ _, ((Mod.refl _ w).alloc _).alloc _⟩
set_option maxRecDepth 10000 in
theorem parts61 (x0 : Int) (w : World) : Calls Tryz.prog 37 #[.iface 83 (.agg #[.int .i64 x0])] w (PartsV w [.int .i64 x0] []) := by
  refine opq fun R HR => ?_
  have m83 := fun W => as83_no W 83 (.agg #[.int .i64 x0]) (by decide)
  have m62 := fun W => as62_no W 83 (.agg #[.int .i64 x0]) (by decide)
  have m98 := fun W => as98_no W 83 (.agg #[.int .i64 x0]) (by decide)
  have m99 := fun W => as99_no W 83 (.agg #[.int .i64 x0]) (by decide)
  have m61 := fun W => as61_yes W (.agg #[.int .i64 x0])
  go_enter Tryz.func37, Tryz.ntmps37
  go_wp2_with fail
  have hB := BlkT.new (w.alloc (.cells #[.int .i64 x0] 83)) #[.int .i64 x0] 3
  have hz : (w.alloc (.cells #[.int .i64 x0] 83)).heap.size = w.heap.size + 1 := by simp
  rw [hz] at hB
  exact HR.out _ _ ⟨_, _, none, 0, rfl, RowNew.blk hB (by omega), RowNew.nil _ _ _, ((Mod.refl _ w).alloc _).alloc _⟩
set_option maxRecDepth 10000 in
theorem parts100 (x0 : Int) (w : World) : Calls Tryz.prog 37 #[.iface 84 (.agg #[.int .i64 x0])] w (PartsV w [.int .i64 x0] []) := by
  refine opq fun R HR => ?_
  have m83 := fun W => as83_no W 84 (.agg #[.int .i64 x0]) (by decide)
  have m62 := fun W => as62_no W 84 (.agg #[.int .i64 x0]) (by decide)
  have m98 := fun W => as98_no W 84 (.agg #[.int .i64 x0]) (by decide)
  have m99 := fun W => as99_no W 84 (.agg #[.int .i64 x0]) (by decide)
  have m61 := fun W => as61_no W 84 (.agg #[.int .i64 x0]) (by decide)
  have m100 := fun W => as100_yes W (.agg #[.int .i64 x0])
  go_enter Tryz.func37, Tryz.ntmps37
  go_wp2_with fail
  have hB := BlkT.new (w.alloc (.cells #[.int .i64 x0] 84)) #[.int .i64 x0] 3
  have hz : (w.alloc (.cells #[.int .i64 x0] 84)).heap.size = w.heap.size + 1 := by simp
  rw [hz] at hB
  exact HR.out _ _ ⟨_, _, none, 0, rfl, RowNew.blk hB (by omega), RowNew.nil _ _ _, ((Mod.refl _ w).alloc _).alloc _⟩
set_option maxRecDepth 10000 in
theorem parts102 (x0 x1 x2 : Int) (w : World) : Calls Tryz.prog 37 #[.iface 86 (.agg #[.int .i64 x0, .int .i64 x1, .int .i64 x2])] w (PartsV w [.int .i64 x0, .int .i64 x1, .int .i64 x2] []) := by
  refine opq fun R HR => ?_
  have m83 := fun W => as83_no W 86 (.agg #[.int .i64 x0, .int .i64 x1, .int .i64 x2]) (by decide)
  have m62 := fun W => as62_no W 86 (.agg #[.int .i64 x0, .int .i64 x1, .int .i64 x2]) (by decide)
  have m98 := fun W => as98_no W 86 (.agg #[.int .i64 x0, .int .i64 x1, .int .i64 x2]) (by decide)
  have m99 := fun W => as99_no W 86 (.agg #[.int .i64 x0, .int .i64 x1, .int .i64 x2]) (by decide)
  have m61 := fun W => as61_no W 86 (.agg #[.int .i64 x0, .int .i64 x1, .int .i64 x2]) (by decide)
  have m100 := fun W => as100_no W 86 (.agg #[.int .i64 x0, .int .i64 x1, .int .i64 x2]) (by decide)
  have m102 := fun W => as102_yes W (.agg #[.int .i64 x0, .int .i64 x1, .int .i64 x2])
  go_enter Tryz.func37, Tryz.ntmps37
  go_wp2_with fail
  have hB := BlkT.new (w.alloc (.cells #[.int .i64 x0, .int .i64 x1, .int .i64 x2] 86)) #[.int .i64 x0, .int .i64 x1, .int .i64 x2] 3
  have hz : (w.alloc (.cells #[.int .i64 x0, .int .i64 x1, .int .i64 x2] 86)).heap.size = w.heap.size + 1 := by simp
  rw [hz] at hB
  exact HR.out _ _ ⟨_, _, none, 0, rfl, RowNew.blk hB (by omega), RowNew.nil _ _ _, ((Mod.refl _ w).alloc _).alloc _⟩
set_option maxRecDepth 10000 in
theorem parts105 (x0 x1 x2 : Int) (w : World) : Calls Tryz.prog 37 #[.iface 87 (.agg #[.int .i64 x0, .int .i64 x1, .int .i64 x2])] w (PartsV w [.int .i64 x0, .int .i64 x1, .int .i64 x2] []) := by
  refine opq fun R HR => ?_
  have m83 := fun W => as83_no W 87 (.agg #[.int .i64 x0, .int .i64 x1, .int .i64 x2]) (by decide)
  have m62 := fun W => as62_no W 87 (.agg #[.int .i64 x0, .int .i64 x1, .int .i64 x2]) (by decide)
  have m98 := fun W => as98_no W 87 (.agg #[.int .i64 x0, .int .i64 x1, .int .i64 x2]) (by decide)
  have m99 := fun W => as99_no W 87 (.agg #[.int .i64 x0, .int .i64 x1, .int .i64 x2]) (by decide)
  have m61 := fun W => as61_no W 87 (.agg #[.int .i64 x0, .int .i64 x1, .int .i64 x2]) (by decide)
  have m100 := fun W => as100_no W 87 (.agg #[.int .i64 x0, .int .i64 x1, .int .i64 x2]) (by decide)
  have m102 := fun W => as102_no W 87 (.agg #[.int .i64 x0, .int .i64 x1, .int .i64 x2]) (by decide)
  have m104 := fun W => as104_no W 87 (.agg #[.int .i64 x0, .int .i64 x1, .int .i64 x2]) (by decide)
  have m105 := fun W => as105_yes W (.agg #[.int .i64 x0, .int .i64 x1, .int .i64 x2])
  go_enter Tryz.func37, Tryz.ntmps37
  go_wp2_with fail
  have hB := BlkT.new (w.alloc (.cells #[.int .i64 x0, .int .i64 x1, .int .i64 x2] 87)) #[.int .i64 x0, .int .i64 x1, .int .i64 x2] 3
  have hz : (w.alloc (.cells #[.int .i64 x0, .int .i64 x1, .int .i64 x2] 87)).heap.size = w.heap.size + 1 := by simp
  rw [hz] at hB
  exact HR.out _ _ ⟨_, _, none, 0, rfl, RowNew.blk hB (by omega), RowNew.nil _ _ _, ((Mod.refl _ w).alloc _).alloc _⟩
set_option maxRecDepth 10000 in
theorem parts26 (x0 : Int) (w : World) : Calls Tryz.prog 37 #[.iface 89 (.agg #[.int .i64 x0])] w (PartsV w [.int .i64 x0] []) := by
  refine opq fun R HR => ?_
  have m83 := fun W => as83_no W 89 (.agg #[.int .i64 x0]) (by decide)
  have m62 := fun W => as62_no W 89 (.agg #[.int .i64 x0]) (by decide)
  have m98 := fun W => as98_no W 89 (.agg #[.int .i64 x0]) (by decide)
  have m99 := fun W => as99_no W 89 (.agg #[.int .i64 x0]) (by decide)
  have m61 := fun W => as61_no W 89 (.agg #[.int .i64 x0]) (by decide)
  have m100 := fun W => as100_no W 89 (.agg #[.int .i64 x0]) (by decide)
  have m102 := fun W => as102_no W 89 (.agg #[.int .i64 x0]) (by decide)
  have m104 := fun W => as104_no W 89 (.agg #[.int .i64 x0]) (by decide)
  have m105 := fun W => as105_no W 89 (.agg #[.int .i64 x0]) (by decide)
  have m26 := fun W => as26_yes W (.agg #[.int .i64 x0])
  go_enter Tryz.func37, Tryz.ntmps37
  go_wp2_with fail
  have hB := BlkT.new (w.alloc (.cells #[.int .i64 x0] 89)) #[.int .i64 x0] 3
  have hz : (w.alloc (.cells #[.int .i64 x0] 89)).heap.size = w.heap.size + 1 := by simp
  rw [hz] at hB
  exact HR.out _ _ ⟨_, _, none, 0, rfl, RowNew.blk hB (by omega), RowNew.nil _ _ _, ((Mod.refl _ w).alloc _).alloc _⟩
set_option maxRecDepth 10000 in
theorem parts109 (x0 : Int) (w : World) : Calls Tryz.prog 37 #[.iface 93 (.agg #[.int .i64 x0])] w (PartsV w [.int .i64 x0] []) := by
  refine opq fun R HR => ?_
  have m83 := fun W => as83_no W 93 (.agg #[.int .i64 x0]) (by decide)
  have m62 := fun W => as62_no W 93 (.agg #[.int .i64 x0]) (by decide)
  have m98 := fun W => as98_no W 93 (.agg #[.int .i64 x0]) (by decide)
  have m99 := fun W => as99_no W 93 (.agg #[.int .i64 x0]) (by decide)
  have m61 := fun W => as61_no W 93 (.agg #[.int .i64 x0]) (by decide)
  have m100 := fun W => as100_no W 93 (.agg #[.int .i64 x0]) (by decide)
  have m102 := fun W => as102_no W 93 (.agg #[.int .i64 x0]) (by decide)
  have m104 := fun W => as104_no W 93 (.agg #[.int .i64 x0]) (by decide)
  have m105 := fun W => as105_no W 93 (.agg #[.int .i64 x0]) (by decide)
  have m26 := fun W => as26_no W 93 (.agg #[.int .i64 x0]) (by decide)
  have m109 := fun W => as109_yes W (.agg #[.int .i64 x0])
  go_enter Tryz.func37, Tryz.ntmps37
  go_wp2_with fail
  have hB := BlkT.new (w.alloc (.cells #[.int .i64 x0] 93)) #[.int .i64 x0] 3
  have hz : (w.alloc (.cells #[.int .i64 x0] 93)).heap.size = w.heap.size + 1 := by simp
  rw [hz] at hB
  exact HR.out _ _ ⟨_, _, none, 0, rfl, RowNew.blk hB (by omega), RowNew.nil _ _ _, ((Mod.refl _ w).alloc _).alloc _⟩
set_option maxRecDepth 10000 in
theorem parts57 (w : World) : Calls Tryz.prog 37 #[.iface 68 (.agg #[])] w (PartsV w [] []) := by
  refine opq fun R HR => ?_
  have m83 := fun W => as83_no W 68 (.agg #[]) (by decide)
  have m62 := fun W => as62_no W 68 (.agg #[]) (by decide)
  have m98 := fun W => as98_no W 68 (.agg #[]) (by decide)
  have m99 := fun W => as99_no W 68 (.agg #[]) (by decide)
  have m61 := fun W => as61_no W 68 (.agg #[]) (by decide)
  have m100 := fun W => as100_no W 68 (.agg #[]) (by decide)
  have m102 := fun W => as102_no W 68 (.agg #[]) (by decide)
  have m104 := fun W => as104_no W 68 (.agg #[]) (by decide)
  have m105 := fun W => as105_no W 68 (.agg #[]) (by decide)
  have m26 := fun W => as26_no W 68 (.agg #[]) (by decide)
  have m109 := fun W => as109_no W 68 (.agg #[]) (by decide)
  have m111 := fun W => as111_no W 68 (.agg #[]) (by decide)
  have m57 := fun W => as57_yes W (.agg #[])
  have m106 := fun W => as106_no W 68 (.agg #[]) (by decide)
  have m107 := fun W => as107_no W 68 (.agg #[]) (by decide)
  go_enter Tryz.func37, Tryz.ntmps37
  go_wp2_with fail
  exact HR.out _ _ ⟨none, 0, none, 0, rfl, RowNew.nil _ _ _, RowNew.nil _ _ _, Mod.refl _ _⟩
set_option maxRecDepth 10000 in
theorem parts106 (w : World) : Calls Tryz.prog 37 #[.iface 90 (.agg #[])] w (PartsV w [] []) := by
  refine opq fun R HR => ?_
  have m83 := fun W => as83_no W 90 (.agg #[]) (by decide)
  have m62 := fun W => as62_no W 90 (.agg #[]) (by decide)
  have m98 := fun W => as98_no W 90 (.agg #[]) (by decide)
  have m99 := fun W => as99_no W 90 (.agg #[]) (by decide)
  have m61 := fun W => as61_no W 90 (.agg #[]) (by decide)
  have m100 := fun W => as100_no W 90 (.agg #[]) (by decide)
  have m102 := fun W => as102_no W 90 (.agg #[]) (by decide)
  have m104 := fun W => as104_no W 90 (.agg #[]) (by decide)
  have m105 := fun W => as105_no W 90 (.agg #[]) (by decide)
  have m26 := fun W => as26_no W 90 (.agg #[]) (by decide)
  have m109 := fun W => as109_no W 90 (.agg #[]) (by decide)
  have m111 := fun W => as111_no W 90 (.agg #[]) (by decide)
  have m57 := fun W => as57_no W 90 (.agg #[]) (by decide)
  have m106 := fun W => as106_yes W (.agg #[])
  have m107 := fun W => as107_no W 90 (.agg #[]) (by decide)
  go_enter Tryz.func37, Tryz.ntmps37
  go_wp2_with fail
  exact HR.out _ _ ⟨none, 0, none, 0, rfl, RowNew.nil _ _ _, RowNew.nil _ _ _, Mod.refl _ _⟩
set_option maxRecDepth 10000 in
theorem parts107 (w : World) : Calls Tryz.prog 37 #[.iface 91 (.agg #[])] w (PartsV w [] []) := by
  refine opq fun R HR => ?_
  have m83 := fun W => as83_no W 91 (.agg #[]) (by decide)
  have m62 := fun W => as62_no W 91 (.agg #[]) (by decide)
  have m98 := fun W => as98_no W 91 (.agg #[]) (by decide)
  have m99 := fun W => as99_no W 91 (.agg #[]) (by decide)
  have m61 := fun W => as61_no W 91 (.agg #[]) (by decide)
  have m100 := fun W => as100_no W 91 (.agg #[]) (by decide)
  have m102 := fun W => as102_no W 91 (.agg #[]) (by decide)
  have m104 := fun W => as104_no W 91 (.agg #[]) (by decide)
  have m105 := fun W => as105_no W 91 (.agg #[]) (by decide)
  have m26 := fun W => as26_no W 91 (.agg #[]) (by decide)
  have m109 := fun W => as109_no W 91 (.agg #[]) (by decide)
  have m111 := fun W => as111_no W 91 (.agg #[]) (by decide)
  have m57 := fun W => as57_no W 91 (.agg #[]) (by decide)
  have m106 := fun W => as106_no W 91 (.agg #[]) (by decide)
  have m107 := fun W => as107_yes W (.agg #[])
  go_enter Tryz.func37, Tryz.ntmps37
  go_wp2_with fail
  exact HR.out _ _ ⟨none, 0, none, 0, rfl, RowNew.nil _ _ _, RowNew.nil _ _ _, Mod.refl _ _⟩
end Go.Proofs.YtdengmlidckkeaaGreatDoor
