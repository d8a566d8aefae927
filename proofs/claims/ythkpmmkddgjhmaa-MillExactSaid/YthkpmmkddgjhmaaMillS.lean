import Derived.Test.YthkpmmkddgjhmaaMillR
set_option linter.unusedSimpArgs false
set_option linter.unusedVariables false
namespace Go.Proofs.Ythkpmmkddgjhmaa
open Go Go.RowKit
/-- Values in a block that a call has made. -/
def RowNew (w w' : World) (a : Option Addr) (vs : List Value) : Prop := 0 < vs.length → ∃ b o, a = some ⟨b, o, none⟩ ∧ w.heap.size ≤ b ∧ b < w'.heap.size ∧ ∀ i v, vs[i]? = some v → w'.cell? ⟨b, o + i, none⟩ = some v
theorem RowNew.blk {w w' : World} {g : Nat} {cs : Array Value} (h : Blk w' g cs) (hg : w.heap.size ≤ g) : RowNew w w' (some ⟨g, 0, none⟩) cs.toList :=
  fun _ => ⟨g, 0, rfl, hg, h.lt, fun i v hv => by rw [Nat.zero_add]; exact (h.cell i).trans (by simpa using hv)⟩
theorem RowNew.nil (w w' : World) (a : Option Addr) : RowNew w w' a [] := fun q => absurd q (by simp)
def PartsV (w : World) (ns ts : List Value) (e : Ending) (w' : World) : Prop := ∃ a1 c1 a2 c2, e = .returned (.tuple #[.slice a1 ns.length c1, .slice a2 ts.length c2, .bool true]) ∧ RowNew w w' a1 ns ∧ RowNew w w' a2 ts ∧ Same w w'
set_option maxRecDepth 10000 in
theorem parts90 (x0 x1 : Int) (w : World) : Calls Try.prog 26 #[.iface 90 (.agg #[.int .i64 x0, .int .i64 x1])] w (PartsV w [.int .i64 x0, .int .i64 x1] []) := by
  refine opq fun R HR => ?_
  have m90 := fun W => as90_yes W (.agg #[.int .i64 x0, .int .i64 x1])
  go_enter Try.func26, Try.ntmps26
  go_wp2_with fail
  have hB := Blk.new (w.alloc (.cells #[.int .i64 x0, .int .i64 x1] 90)) #[.int .i64 x0, .int .i64 x1] 3
  have hz : (w.alloc (.cells #[.int .i64 x0, .int .i64 x1] 90)).heap.size = w.heap.size + 1 := by simp
  rw [hz] at hB
  exact HR.out _ _ ⟨_, _, none, 0, rfl, RowNew.blk hB (by omega), RowNew.nil _ _ _, ((Mod.refl _ w).alloc _).alloc _⟩
set_option maxRecDepth 10000 in
theorem parts92 (x0 : Int) (w : World) : Calls Try.prog 26 #[.iface 92 (.agg #[.int .i64 x0])] w (PartsV w [.int .i64 x0] []) := by
  refine opq fun R HR => ?_
  have m90 := fun W => as90_no W 92 (.agg #[.int .i64 x0]) (by decide)
  have m92 := fun W => as92_yes W (.agg #[.int .i64 x0])
  go_enter Try.func26, Try.ntmps26
  go_wp2_with fail
  have hB := Blk.new (w.alloc (.cells #[.int .i64 x0] 92)) #[.int .i64 x0] 3
  have hz : (w.alloc (.cells #[.int .i64 x0] 92)).heap.size = w.heap.size + 1 := by simp
  rw [hz] at hB
  exact HR.out _ _ ⟨_, _, none, 0, rfl, RowNew.blk hB (by omega), RowNew.nil _ _ _, ((Mod.refl _ w).alloc _).alloc _⟩
set_option maxRecDepth 10000 in
theorem parts94 (x0 x1 : Int) (w : World) : Calls Try.prog 26 #[.iface 94 (.agg #[.int .i64 x0, .int .i64 x1])] w (PartsV w [.int .i64 x0, .int .i64 x1] []) := by
  refine opq fun R HR => ?_
  have m90 := fun W => as90_no W 94 (.agg #[.int .i64 x0, .int .i64 x1]) (by decide)
  have m92 := fun W => as92_no W 94 (.agg #[.int .i64 x0, .int .i64 x1]) (by decide)
  have m94 := fun W => as94_yes W (.agg #[.int .i64 x0, .int .i64 x1])
  go_enter Try.func26, Try.ntmps26
  go_wp2_with fail
  have hB := Blk.new (w.alloc (.cells #[.int .i64 x0, .int .i64 x1] 94)) #[.int .i64 x0, .int .i64 x1] 3
  have hz : (w.alloc (.cells #[.int .i64 x0, .int .i64 x1] 94)).heap.size = w.heap.size + 1 := by simp
  rw [hz] at hB
  exact HR.out _ _ ⟨_, _, none, 0, rfl, RowNew.blk hB (by omega), RowNew.nil _ _ _, ((Mod.refl _ w).alloc _).alloc _⟩
set_option maxRecDepth 10000 in
theorem parts95 (x0 x1 : Int) (w : World) : Calls Try.prog 26 #[.iface 95 (.agg #[.int .i64 x0, .int .i64 x1])] w (PartsV w [.int .i64 x0, .int .i64 x1] []) := by
  refine opq fun R HR => ?_
  have m90 := fun W => as90_no W 95 (.agg #[.int .i64 x0, .int .i64 x1]) (by decide)
  have m92 := fun W => as92_no W 95 (.agg #[.int .i64 x0, .int .i64 x1]) (by decide)
  have m94 := fun W => as94_no W 95 (.agg #[.int .i64 x0, .int .i64 x1]) (by decide)
  have m95 := fun W => as95_yes W (.agg #[.int .i64 x0, .int .i64 x1])
  go_enter Try.func26, Try.ntmps26
  go_wp2_with fail
  have hB := Blk.new (w.alloc (.cells #[.int .i64 x0, .int .i64 x1] 95)) #[.int .i64 x0, .int .i64 x1] 3
  have hz : (w.alloc (.cells #[.int .i64 x0, .int .i64 x1] 95)).heap.size = w.heap.size + 1 := by simp
  rw [hz] at hB
  exact HR.out _ _ ⟨_, _, none, 0, rfl, RowNew.blk hB (by omega), RowNew.nil _ _ _, ((Mod.refl _ w).alloc _).alloc _⟩
set_option maxRecDepth 10000 in
theorem parts96 (x0 : Int) (w : World) : Calls Try.prog 26 #[.iface 96 (.agg #[.int .i64 x0])] w (PartsV w [.int .i64 x0] []) := by
  refine opq fun R HR => ?_
  have m90 := fun W => as90_no W 96 (.agg #[.int .i64 x0]) (by decide)
  have m92 := fun W => as92_no W 96 (.agg #[.int .i64 x0]) (by decide)
  have m94 := fun W => as94_no W 96 (.agg #[.int .i64 x0]) (by decide)
  have m95 := fun W => as95_no W 96 (.agg #[.int .i64 x0]) (by decide)
  have m96 := fun W => as96_yes W (.agg #[.int .i64 x0])
  go_enter Try.func26, Try.ntmps26
  go_wp2_with fail
  have hB := Blk.new (w.alloc (.cells #[.int .i64 x0] 96)) #[.int .i64 x0] 3
  have hz : (w.alloc (.cells #[.int .i64 x0] 96)).heap.size = w.heap.size + 1 := by simp
  rw [hz] at hB
  exact HR.out _ _ ⟨_, _, none, 0, rfl, RowNew.blk hB (by omega), RowNew.nil _ _ _, ((Mod.refl _ w).alloc _).alloc _⟩
set_option maxRecDepth 10000 in
theorem parts97 (x0 : Int) (w : World) : Calls Try.prog 26 #[.iface 97 (.agg #[.int .i64 x0])] w (PartsV w [.int .i64 x0] []) := by
  refine opq fun R HR => ?_
  have m90 := fun W => as90_no W 97 (.agg #[.int .i64 x0]) (by decide)
  have m92 := fun W => as92_no W 97 (.agg #[.int .i64 x0]) (by decide)
  have m94 := fun W => as94_no W 97 (.agg #[.int .i64 x0]) (by decide)
  have m95 := fun W => as95_no W 97 (.agg #[.int .i64 x0]) (by decide)
  have m96 := fun W => as96_no W 97 (.agg #[.int .i64 x0]) (by decide)
  have m97 := fun W => as97_yes W (.agg #[.int .i64 x0])
  go_enter Try.func26, Try.ntmps26
  go_wp2_with fail
  have hB := Blk.new (w.alloc (.cells #[.int .i64 x0] 97)) #[.int .i64 x0] 3
  have hz : (w.alloc (.cells #[.int .i64 x0] 97)).heap.size = w.heap.size + 1 := by simp
  rw [hz] at hB
  exact HR.out _ _ ⟨_, _, none, 0, rfl, RowNew.blk hB (by omega), RowNew.nil _ _ _, ((Mod.refl _ w).alloc _).alloc _⟩
set_option maxRecDepth 10000 in
theorem parts82 (x0 x1 x2 : Int) (w : World) : Calls Try.prog 26 #[.iface 82 (.agg #[.int .i64 x0, .int .i64 x1, .int .i64 x2])] w (PartsV w [.int .i64 x0, .int .i64 x1, .int .i64 x2] []) := by
  refine opq fun R HR => ?_
  have m90 := fun W => as90_no W 82 (.agg #[.int .i64 x0, .int .i64 x1, .int .i64 x2]) (by decide)
  have m92 := fun W => as92_no W 82 (.agg #[.int .i64 x0, .int .i64 x1, .int .i64 x2]) (by decide)
  have m94 := fun W => as94_no W 82 (.agg #[.int .i64 x0, .int .i64 x1, .int .i64 x2]) (by decide)
  have m95 := fun W => as95_no W 82 (.agg #[.int .i64 x0, .int .i64 x1, .int .i64 x2]) (by decide)
  have m96 := fun W => as96_no W 82 (.agg #[.int .i64 x0, .int .i64 x1, .int .i64 x2]) (by decide)
  have m97 := fun W => as97_no W 82 (.agg #[.int .i64 x0, .int .i64 x1, .int .i64 x2]) (by decide)
  have m82 := fun W => as82_yes W (.agg #[.int .i64 x0, .int .i64 x1, .int .i64 x2])
  go_enter Try.func26, Try.ntmps26
  go_wp2_with fail
  have hB := Blk.new (w.alloc (.cells #[.int .i64 x0, .int .i64 x1, .int .i64 x2] 82)) #[.int .i64 x0, .int .i64 x1, .int .i64 x2] 3
  have hz : (w.alloc (.cells #[.int .i64 x0, .int .i64 x1, .int .i64 x2] 82)).heap.size = w.heap.size + 1 := by simp
  rw [hz] at hB
  exact HR.out _ _ ⟨_, _, none, 0, rfl, RowNew.blk hB (by omega), RowNew.nil _ _ _, ((Mod.refl _ w).alloc _).alloc _⟩
set_option maxRecDepth 10000 in
theorem parts83 (x0 x1 x2 : Int) (w : World) : Calls Try.prog 26 #[.iface 83 (.agg #[.int .i64 x0, .int .i64 x1, .int .i64 x2])] w (PartsV w [.int .i64 x0, .int .i64 x1, .int .i64 x2] []) := by
  refine opq fun R HR => ?_
  have m90 := fun W => as90_no W 83 (.agg #[.int .i64 x0, .int .i64 x1, .int .i64 x2]) (by decide)
  have m92 := fun W => as92_no W 83 (.agg #[.int .i64 x0, .int .i64 x1, .int .i64 x2]) (by decide)
  have m94 := fun W => as94_no W 83 (.agg #[.int .i64 x0, .int .i64 x1, .int .i64 x2]) (by decide)
  have m95 := fun W => as95_no W 83 (.agg #[.int .i64 x0, .int .i64 x1, .int .i64 x2]) (by decide)
  have m96 := fun W => as96_no W 83 (.agg #[.int .i64 x0, .int .i64 x1, .int .i64 x2]) (by decide)
  have m97 := fun W => as97_no W 83 (.agg #[.int .i64 x0, .int .i64 x1, .int .i64 x2]) (by decide)
  have m82 := fun W => as82_no W 83 (.agg #[.int .i64 x0, .int .i64 x1, .int .i64 x2]) (by decide)
  have m86 := fun W => as86_no W 83 (.agg #[.int .i64 x0, .int .i64 x1, .int .i64 x2]) (by decide)
  have m83 := fun W => as83_yes W (.agg #[.int .i64 x0, .int .i64 x1, .int .i64 x2])
  go_enter Try.func26, Try.ntmps26
  go_wp2_with fail
  have hB := Blk.new (w.alloc (.cells #[.int .i64 x0, .int .i64 x1, .int .i64 x2] 83)) #[.int .i64 x0, .int .i64 x1, .int .i64 x2] 3
  have hz : (w.alloc (.cells #[.int .i64 x0, .int .i64 x1, .int .i64 x2] 83)).heap.size = w.heap.size + 1 := by simp
  rw [hz] at hB
  exact HR.out _ _ ⟨_, _, none, 0, rfl, RowNew.blk hB (by omega), RowNew.nil _ _ _, ((Mod.refl _ w).alloc _).alloc _⟩
set_option maxRecDepth 10000 in
theorem parts70 (x0 : Int) (w : World) : Calls Try.prog 26 #[.iface 70 (.agg #[.int .i64 x0])] w (PartsV w [.int .i64 x0] []) := by
  refine opq fun R HR => ?_
  have m90 := fun W => as90_no W 70 (.agg #[.int .i64 x0]) (by decide)
  have m92 := fun W => as92_no W 70 (.agg #[.int .i64 x0]) (by decide)
  have m94 := fun W => as94_no W 70 (.agg #[.int .i64 x0]) (by decide)
  have m95 := fun W => as95_no W 70 (.agg #[.int .i64 x0]) (by decide)
  have m96 := fun W => as96_no W 70 (.agg #[.int .i64 x0]) (by decide)
  have m97 := fun W => as97_no W 70 (.agg #[.int .i64 x0]) (by decide)
  have m82 := fun W => as82_no W 70 (.agg #[.int .i64 x0]) (by decide)
  have m86 := fun W => as86_no W 70 (.agg #[.int .i64 x0]) (by decide)
  have m83 := fun W => as83_no W 70 (.agg #[.int .i64 x0]) (by decide)
  have m70 := fun W => as70_yes W (.agg #[.int .i64 x0])
  go_enter Try.func26, Try.ntmps26
  go_wp2_with fail
  have hB := Blk.new (w.alloc (.cells #[.int .i64 x0] 70)) #[.int .i64 x0] 3
  have hz : (w.alloc (.cells #[.int .i64 x0] 70)).heap.size = w.heap.size + 1 := by simp
  rw [hz] at hB
  exact HR.out _ _ ⟨_, _, none, 0, rfl, RowNew.blk hB (by omega), RowNew.nil _ _ _, ((Mod.refl _ w).alloc _).alloc _⟩
set_option maxRecDepth 10000 in
theorem parts74 (x0 : Int) (w : World) : Calls Try.prog 26 #[.iface 74 (.agg #[.int .i64 x0])] w (PartsV w [.int .i64 x0] []) := by
  refine opq fun R HR => ?_
  have m90 := fun W => as90_no W 74 (.agg #[.int .i64 x0]) (by decide)
  have m92 := fun W => as92_no W 74 (.agg #[.int .i64 x0]) (by decide)
  have m94 := fun W => as94_no W 74 (.agg #[.int .i64 x0]) (by decide)
  have m95 := fun W => as95_no W 74 (.agg #[.int .i64 x0]) (by decide)
  have m96 := fun W => as96_no W 74 (.agg #[.int .i64 x0]) (by decide)
  have m97 := fun W => as97_no W 74 (.agg #[.int .i64 x0]) (by decide)
  have m82 := fun W => as82_no W 74 (.agg #[.int .i64 x0]) (by decide)
  have m86 := fun W => as86_no W 74 (.agg #[.int .i64 x0]) (by decide)
  have m83 := fun W => as83_no W 74 (.agg #[.int .i64 x0]) (by decide)
  have m70 := fun W => as70_no W 74 (.agg #[.int .i64 x0]) (by decide)
  have m74 := fun W => as74_yes W (.agg #[.int .i64 x0])
  go_enter Try.func26, Try.ntmps26
  go_wp2_with fail
  have hB := Blk.new (w.alloc (.cells #[.int .i64 x0] 74)) #[.int .i64 x0] 3
  have hz : (w.alloc (.cells #[.int .i64 x0] 74)).heap.size = w.heap.size + 1 := by simp
  rw [hz] at hB
  exact HR.out _ _ ⟨_, _, none, 0, rfl, RowNew.blk hB (by omega), RowNew.nil _ _ _, ((Mod.refl _ w).alloc _).alloc _⟩
set_option maxRecDepth 10000 in
theorem parts68 (w : World) : Calls Try.prog 26 #[.iface 68 (.agg #[])] w (PartsV w [] []) := by
  refine opq fun R HR => ?_
  have m90 := fun W => as90_no W 68 (.agg #[]) (by decide)
  have m92 := fun W => as92_no W 68 (.agg #[]) (by decide)
  have m94 := fun W => as94_no W 68 (.agg #[]) (by decide)
  have m95 := fun W => as95_no W 68 (.agg #[]) (by decide)
  have m96 := fun W => as96_no W 68 (.agg #[]) (by decide)
  have m97 := fun W => as97_no W 68 (.agg #[]) (by decide)
  have m82 := fun W => as82_no W 68 (.agg #[]) (by decide)
  have m86 := fun W => as86_no W 68 (.agg #[]) (by decide)
  have m83 := fun W => as83_no W 68 (.agg #[]) (by decide)
  have m70 := fun W => as70_no W 68 (.agg #[]) (by decide)
  have m74 := fun W => as74_no W 68 (.agg #[]) (by decide)
  have m88 := fun W => as88_no W 68 (.agg #[]) (by decide)
  have m68 := fun W => as68_yes W (.agg #[])
  have m71 := fun W => as71_no W 68 (.agg #[]) (by decide)
  have m72 := fun W => as72_no W 68 (.agg #[]) (by decide)
  go_enter Try.func26, Try.ntmps26
  go_wp2_with fail
  exact HR.out _ _ ⟨none, 0, none, 0, rfl, RowNew.nil _ _ _, RowNew.nil _ _ _, Mod.refl _ _⟩
set_option maxRecDepth 10000 in
theorem parts71 (w : World) : Calls Try.prog 26 #[.iface 71 (.agg #[])] w (PartsV w [] []) := by
  refine opq fun R HR => ?_
  have m90 := fun W => as90_no W 71 (.agg #[]) (by decide)
  have m92 := fun W => as92_no W 71 (.agg #[]) (by decide)
  have m94 := fun W => as94_no W 71 (.agg #[]) (by decide)
  have m95 := fun W => as95_no W 71 (.agg #[]) (by decide)
  have m96 := fun W => as96_no W 71 (.agg #[]) (by decide)
  have m97 := fun W => as97_no W 71 (.agg #[]) (by decide)
  have m82 := fun W => as82_no W 71 (.agg #[]) (by decide)
  have m86 := fun W => as86_no W 71 (.agg #[]) (by decide)
  have m83 := fun W => as83_no W 71 (.agg #[]) (by decide)
  have m70 := fun W => as70_no W 71 (.agg #[]) (by decide)
  have m74 := fun W => as74_no W 71 (.agg #[]) (by decide)
  have m88 := fun W => as88_no W 71 (.agg #[]) (by decide)
  have m68 := fun W => as68_no W 71 (.agg #[]) (by decide)
  have m71 := fun W => as71_yes W (.agg #[])
  have m72 := fun W => as72_no W 71 (.agg #[]) (by decide)
  go_enter Try.func26, Try.ntmps26
  go_wp2_with fail
  exact HR.out _ _ ⟨none, 0, none, 0, rfl, RowNew.nil _ _ _, RowNew.nil _ _ _, Mod.refl _ _⟩
set_option maxRecDepth 10000 in
theorem parts72 (w : World) : Calls Try.prog 26 #[.iface 72 (.agg #[])] w (PartsV w [] []) := by
  refine opq fun R HR => ?_
  have m90 := fun W => as90_no W 72 (.agg #[]) (by decide)
  have m92 := fun W => as92_no W 72 (.agg #[]) (by decide)
  have m94 := fun W => as94_no W 72 (.agg #[]) (by decide)
  have m95 := fun W => as95_no W 72 (.agg #[]) (by decide)
  have m96 := fun W => as96_no W 72 (.agg #[]) (by decide)
  have m97 := fun W => as97_no W 72 (.agg #[]) (by decide)
  have m82 := fun W => as82_no W 72 (.agg #[]) (by decide)
  have m86 := fun W => as86_no W 72 (.agg #[]) (by decide)
  have m83 := fun W => as83_no W 72 (.agg #[]) (by decide)
  have m70 := fun W => as70_no W 72 (.agg #[]) (by decide)
  have m74 := fun W => as74_no W 72 (.agg #[]) (by decide)
  have m88 := fun W => as88_no W 72 (.agg #[]) (by decide)
  have m68 := fun W => as68_no W 72 (.agg #[]) (by decide)
  have m71 := fun W => as71_no W 72 (.agg #[]) (by decide)
  have m72 := fun W => as72_yes W (.agg #[])
  go_enter Try.func26, Try.ntmps26
  go_wp2_with fail
  exact HR.out _ _ ⟨none, 0, none, 0, rfl, RowNew.nil _ _ _, RowNew.nil _ _ _, Mod.refl _ _⟩
end Go.Proofs.Ythkpmmkddgjhmaa
