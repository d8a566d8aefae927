import Derived.Test.YtifkdjecdmmegaaFrame
set_option linter.unusedSimpArgs false
set_option linter.unusedVariables false
namespace Go.Proofs.Ytifkdjecdmmegaa
open Go Go.RowKit
theorem retB {b b' : Bool} (h : b = b') : Ending.returned (.bool b) = .returned (.bool b') := by rw [h]
theorem retI {b b' : Int} (h : b = b') : Ending.returned (.int .i64 b) = .returned (.int .i64 b') := by rw [h]
def goodB (w f b : Int) : Bool := decide (1 ≤ w ∧ w ≤ f ∧ f ≤ 100 ∧ 0 ≤ b ∧ b ≤ w)
theorem good_any (wm fm bk : Int) (w : World) :
    Calls Try.prog 24 #[.agg #[.int .i64 wm, .int .i64 fm, .int .i64 bk]] w fun e w' => e = .returned (.bool (goodB wm fm bk)) ∧ Same w w' := by
  refine opq fun R HR => ?_
  go_enter Try.func24, Try.ntmps24
  go_wp2
  all_goals refine HR.out _ _ ⟨retB ?_, (Mod.refl _ _).alloc _⟩
  all_goals (clear HR; simp [goodB, *])
  all_goals omega
theorem rgood_any (wm fm bk : Int) (w : World) :
    Calls Try.prog 27 #[.int .i64 wm, .int .i64 fm, .int .i64 bk] w fun e w' => e = .returned (.bool (goodB wm fm bk)) ∧ w = w' := by
  refine opq fun R HR => ?_
  go_enter Try.func27, Try.ntmps27
  go_wp2
  all_goals refine HR.out _ _ ⟨retB ?_, rfl⟩
  all_goals (clear HR; simp [goodB, *])
  all_goals omega
end Go.Proofs.Ytifkdjecdmmegaa
