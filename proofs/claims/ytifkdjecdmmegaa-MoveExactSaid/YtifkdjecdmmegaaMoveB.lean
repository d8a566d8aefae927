import Derived.Test.YtifkdjecdmmegaaMoveA
namespace Go.Proofs.Ytifkdjecdmmegaa
open Go Go.RowKit
theorem opq {P : Program} {f : FuncId} {args : Array Value} {w : World} {Q : Ending → World → Prop} (h : ∀ R : Ending → World → Prop, Hid (∀ e w', Q e w' → R e w') → Calls P f args w R) : Calls P f args w Q :=
  h Q (fun _ _ h => h)
def newB (c ft fs tt ts : Int) : Bool := decide (1 ≤ c ∧ c ≤ 1023) && spotB ft fs && spotB tt ts && decide (ft ≠ tt)
def newV (c ft fs tt ts : Int) : Array Value := if newB c ft fs tt ts = true then #[mv c ft fs tt ts 1, .int .i64 0] else #[mv 0 0 0 0 0 0, .int .i64 1]
set_option maxHeartbeats 2000000 in
theorem new_any (c ft fs tt ts : Int) (w : World) :
    Calls Try.prog 13 #[.int .i64 c, sp ft fs, sp tt ts] w fun e w' => e = .returned (.tuple (newV c ft fs tt ts)) ∧ Below w.heap.size w w' := by
  refine opq fun R HR => ?_
  go_enter Try.func13, Try.ntmps13
  go_wp2
  all_goals refine bodyPost_ret (v := .tuple (newV c ft fs tt ts)) ?_ rfl (HR.out _ _ ⟨rfl, by repeat (first | with_reducible exact Below.refl _ _ | with_reducible refine Below.alloc ?_ (by simp <;> omega) _)⟩)
  all_goals (clear HR)
  all_goals (simp [results, Try.results13, go_sem, newV, newB, spotB, *])
  all_goals omega
end Go.Proofs.Ytifkdjecdmmegaa
