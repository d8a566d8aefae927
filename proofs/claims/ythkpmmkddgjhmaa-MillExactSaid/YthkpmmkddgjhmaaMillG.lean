import Derived.Test.YthkpmmkddgjhmaaMillF
set_option linter.unusedSimpArgs false
set_option linter.unusedVariables false
namespace Go.Proofs.Ythkpmmkddgjhmaa
open Go Go.RowKit
abbrev a15 (zs : Nat → Int) : Array Value := #[.int .i64 (zs 0), .int .i64 (zs 1), .int .i64 (zs 2), .int .i64 (zs 3), .int .i64 (zs 4), .int .i64 (zs 5), .int .i64 (zs 6), .int .i64 (zs 7), .int .i64 (zs 8), .int .i64 (zs 9), .int .i64 (zs 10), .int .i64 (zs 11), .int .i64 (zs 12), .int .i64 (zs 13), .int .i64 (zs 14)]
set_option maxRecDepth 10000 in
set_option maxHeartbeats 1000000 in
theorem usual_any (w : World) :
    Calls Try.prog 8 #[] w fun e w' => e = .returned (.agg #[.int .i64 2, .int .i64 1, .int .i64 3, .int .i64 1, .int .i64 1, .int .i64 1, .int .i64 5, .int .i64 8, .int .i64 3, .int .i64 2, .int .i64 5, .int .i64 1, .int .i64 1, .int .i64 1, .int .i64 1]) ∧ Same w w' := by
  refine opq fun R HR => ?_
  go_enter Try.func8, Try.ntmps8
  go_wp2_with fail
  exact bodyPost_ret (v := .agg #[.int .i64 2, .int .i64 1, .int .i64 3, .int .i64 1, .int .i64 1, .int .i64 1, .int .i64 5, .int .i64 8, .int .i64 3, .int .i64 2, .int .i64 5, .int .i64 1, .int .i64 1, .int .i64 1, .int .i64 1]) (by simp [results, Try.results8, go_sem]) rfl (HR.out _ _ ⟨rfl, (Mod.refl _ _).alloc _⟩)
set_option maxRecDepth 10000 in
set_option maxHeartbeats 1000000 in
theorem calm_any (zs : Nat → Int) (w : World) :
    Calls Try.prog 7 #[.agg (a15 zs)] w fun e w' => e = .returned (.agg (a15 fun i => if i < 13 then zs i else 0)) ∧ Same w w' := by
  refine opq fun R HR => ?_
  have HR2 := Lib.hid (fun w' (h : Same w w') => HR.out (.returned (.agg #[.int .i64 (zs 0), .int .i64 (zs 1), .int .i64 (zs 2), .int .i64 (zs 3), .int .i64 (zs 4), .int .i64 (zs 5), .int .i64 (zs 6), .int .i64 (zs 7), .int .i64 (zs 8), .int .i64 (zs 9), .int .i64 (zs 10), .int .i64 (zs 11), .int .i64 (zs 12), .int .i64 0, .int .i64 0])) w' ⟨rfl, h⟩)
  clear HR
  unfold a15
  generalize zs 0 = z0 at *
  generalize zs 1 = z1 at *
  generalize zs 2 = z2 at *
  generalize zs 3 = z3 at *
  generalize zs 4 = z4 at *
  generalize zs 5 = z5 at *
  generalize zs 6 = z6 at *
  generalize zs 7 = z7 at *
  generalize zs 8 = z8 at *
  generalize zs 9 = z9 at *
  generalize zs 10 = z10 at *
  generalize zs 11 = z11 at *
  generalize zs 12 = z12 at *
  generalize zs 13 = z13 at *
  generalize zs 14 = z14 at *
  go_enter Try.func7, Try.ntmps7
  go_wp2_with fail
  exact bodyPost_ret (v := .agg #[.int .i64 z0, .int .i64 z1, .int .i64 z2, .int .i64 z3, .int .i64 z4, .int .i64 z5, .int .i64 z6, .int .i64 z7, .int .i64 z8, .int .i64 z9, .int .i64 z10, .int .i64 z11, .int .i64 z12, .int .i64 0, .int .i64 0]) (by simp [results, Try.results7, go_sem]) rfl (HR2.out _ (((Mod.refl _ _).alloc _).alloc _))
def NewDie (w : World) (s : Int) (e : Ending) (w' : World) : Prop := ∃ g, e = .returned (dptr g) ∧ w.heap.size ≤ g ∧ DS w' g s ∧ Same w w'
theorem dnew_any (s : Int) (w : World) : Calls Try.prog 12 #[.int .u64 s] w (NewDie w s) := by
  refine opq fun R HR => ?_
  go_enter Try.func12, Try.ntmps12
  go_wp2
  exact HR.out _ _ ⟨_, rfl, Nat.le_refl _, Blk.new w _ _, (Mod.refl _ _).alloc _⟩
end Go.Proofs.Ythkpmmkddgjhmaa
