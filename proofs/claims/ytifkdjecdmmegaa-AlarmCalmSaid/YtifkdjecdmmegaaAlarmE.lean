import Derived.Test.YtifkdjecdmmegaaAlarmC
set_option linter.unusedSimpArgs false
set_option linter.unusedVariables false
namespace Go.Proofs.Ytifkdjecdmmegaa
open Go Go.RowKit
set_option maxHeartbeats 1000000 in
theorem rnext_any (wm fm bk st u a : Int) (w : World) (hg : goodI wm fm bk) (hst : 0 ≤ st ∧ st ≤ 2) :
    Calls Try.prog 29 #[.int .i64 st, .int .i64 wm, .int .i64 fm, .int .i64 bk, .int .i64 u, .int .i64 a] w fun e w' => e = .returned (.int .i64 (nextA wm fm bk st (clF u) (clF a))) ∧ w = w' := by
  refine opq fun R HR => ?_
  unfold goodI at hg
  have hst' : st = 0 ∨ st = 1 ∨ st = 2 := by omega
  clear hst
  rcases hst' with rfl | rfl | rfl
  all_goals
    rcases h1 : atF (clF u) (clF a) fm with _ | _
    all_goals rcases h2 : atF (clF u) (clF a) (fm - bk) with _ | _
    all_goals rcases h3 : atF (clF u) (clF a) wm with _ | _
    all_goals rcases h4 : atF (clF u) (clF a) (wm - bk) with _ | _
    all_goals
      go_enter Try.func29, Try.ntmps29
      go_wp2_with (go_at_call 43; refine (rat_any _ _ _ _ (by omega)).mono ?_; rintro e w1 ⟨rfl, rfl⟩)
      exact HR.out _ _ ⟨by simp [nextA, *], rfl⟩
end Go.Proofs.Ytifkdjecdmmegaa
