import Derived.Test.YtifkdjecdmmegaaMoveC
namespace Go.Proofs.Ytifkdjecdmmegaa
open Go Go.RowKit
theorem retB {b b' : Bool} (h : b = b') : Ending.returned (.bool b) = .returned (.bool b') := by rw [h]
set_option maxHeartbeats 2000000 in
theorem can_any (c ft fs tt ts : Int) (w : World) (b1 : -9223372036854775808 ≤ ft ∧ ft ≤ 9223372036854775807) (b2 : -9223372036854775808 ≤ tt ∧ tt ≤ 9223372036854775807) :
    Calls Try.prog 14 #[.int .i64 c, sp ft fs, sp tt ts] w fun e w' => e = .returned (.bool (newB c ft fs tt ts)) ∧ Below w.heap.size w w' := by
  refine opq fun R HR => ?_
  by_cases h : (ft = 0 ∧ tt = 1) ∨ (ft = 1 ∧ tt = 0)
  · rcases h with ⟨rfl, rfl⟩ | ⟨rfl, rfl⟩
    all_goals
      go_enter Try.func14, Try.ntmps14
      go_wp2
      all_goals (first | go_ret | skip)
      all_goals refine HR.out _ _ ⟨retB (?_ : _ = newB _ _ _ _ _), by repeat (first | with_reducible exact Below.refl _ _ | with_reducible refine Below.alloc ?_ (by simp <;> omega) _)⟩
      all_goals (clear HR; simp [newB, spotB, *])
      all_goals omega
  · have hnew : newB c ft fs tt ts = false := by
      simp [newB, spotB]; omega
    have HN := Lib.hid hnew
    clear hnew
    go_enter Try.func14, Try.ntmps14
    go_wp2
    all_goals (first | go_ret | skip)
    all_goals refine HR.out _ _ ⟨retB (?_ : _ = newB _ _ _ _ _), by repeat (first | with_reducible exact Below.refl _ _ | with_reducible refine Below.alloc ?_ (by simp <;> omega) _)⟩
    all_goals (clear HR; first | exact HN.out.symm | (exfalso; clear HN; unfold wrap64 at *; omega))
end Go.Proofs.Ytifkdjecdmmegaa
