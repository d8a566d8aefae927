import Derived.Test.YtifkdjecdmmegaaAlarmF
set_option linter.unusedSimpArgs false
set_option linter.unusedVariables false
namespace Go.Proofs.Ytifkdjecdmmegaa
open Go Go.RowKit
theorem aawake_any (w : World) : Calls Try.prog 22 #[] w fun e w' => e = .returned (.bool true) ∧ Same w w' := by
  refine opq fun R HR => ?_
  go_enter Try.func22, Try.ntmps22
  go_wp2_with fail
  refine (new_good _ _ _ _ rfl).mono ?_
  rintro e w1 ⟨g, rfl, hg, hB, M⟩
  go_wp2_with fail
  refine (tell_any g _ _ _ _ _ _ _ _ hB (by unfold goodI; omega) (by omega) (by omega)).mono ?_
  rintro e w2 ⟨rfl, hB2, M2⟩
  rw [show nextA 80 95 5 0 (clF 81) (clF 100) = 1 from by decide] at hB2 ⊢
  rw [show rungF 0 1 0 = 1 from by decide] at hB2
  replace M := M.then_ M2 (fun i h1 h2 => by omega)
  clear hB M2
  go_wp2_with fail
  refine (tell_any g _ _ _ _ _ _ _ _ hB2 (by unfold goodI; omega) (by omega) (by omega)).mono ?_
  rintro e w3 ⟨rfl, hB3, M3⟩
  rw [show nextA 80 95 5 1 (clF 76) (clF 100) = 1 from by decide] at hB3 ⊢
  rw [show rungF 1 1 1 = 1 from by decide] at hB3
  replace M := M.then_ M3 (fun i h1 h2 => by omega)
  clear hB2 M3
  go_wp2_with fail
  refine (tell_any g _ _ _ _ _ _ _ _ hB3 (by unfold goodI; omega) (by omega) (by omega)).mono ?_
  rintro e w4 ⟨rfl, hB4, M4⟩
  rw [show nextA 80 95 5 1 (clF 74) (clF 100) = 0 from by decide] at hB4 ⊢
  rw [show rungF 1 0 1 = 1 from by decide] at hB4
  replace M := M.then_ M4 (fun i h1 h2 => by omega)
  clear hB3 M4
  have HB := Lib.hid hB4
  clear hB4
  go_wp2_with (first | (go_at_call 26; refine (rung_any _ _ _ _ _ _ _ HB.out).mono ?_; rintro e w5 ⟨rfl, rfl⟩) | (go_at_call 23; refine (new_bad _ _ _ _ rfl).mono ?_; rintro e w5 ⟨rfl, M5⟩))
  exact HR.out _ _ ⟨rfl, M.same M5⟩
end Go.Proofs.Ytifkdjecdmmegaa
