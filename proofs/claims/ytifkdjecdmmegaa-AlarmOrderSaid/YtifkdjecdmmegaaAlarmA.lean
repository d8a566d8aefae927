import Derived.Test.YtifkdjecdmmegaaAlarmD
namespace Go.Proofs.Ytifkdjecdmmegaa
open Go Go.RowKit
theorem at_any (u a m : Int) (w : World) (hu : 0 ≤ u ∧ u ≤ 2147483647) (ha : 0 ≤ a ∧ a ≤ 2147483647) (hm : 0 ≤ m ∧ m ≤ 100) :
    Calls Try.prog 45 #[.agg #[.int .i64 u, .int .i64 a], .int .i64 m] w fun e w' => e = .returned (.bool (atF u a m)) ∧ Below w.heap.size w w' := by
  refine opq fun R HR => ?_
  have hb := mul_bd m a hm ha
  go_enter Try.func45, Try.ntmps45
  go_wp2
  exact HR.out _ _ ⟨rfl, (Below.refl _ _).alloc (Nat.le_refl _) _⟩
set_option maxHeartbeats 1000000 in
theorem nextA_any (A : Nat) (wm fm bk st rg u a : Int) (w : World) (hA : A < w.heap.size) (hc : ∀ i, w.cell? ⟨A, i, none⟩ = (alc wm fm bk st rg)[i]?)
    (hg : goodI wm fm bk) (hst : 0 ≤ st ∧ st ≤ 2) (hu : 0 ≤ u ∧ u ≤ 2147483647) (ha : 0 ≤ a ∧ a ≤ 2147483647) :
    Calls Try.prog 42 #[.pointer (some ⟨A, 0, none⟩), .agg #[.int .i64 u, .int .i64 a]] w fun e w' => e = .returned (.int .i64 (nextA wm fm bk st u a)) ∧ Below w.heap.size w w' := by
  refine opq fun R HR => ?_
  unfold goodI at hg
  have hst' : st = 0 ∨ st = 1 ∨ st = 2 := by omega
  clear hst
  rcases hst' with rfl | rfl | rfl
  all_goals
    rcases h1 : atF u a fm with _ | _
    all_goals rcases h2 : atF u a (fm - bk) with _ | _
    all_goals rcases h3 : atF u a wm with _ | _
    all_goals rcases h4 : atF u a (wm - bk) with _ | _
    all_goals
      go_enter Try.func42, Try.ntmps42
      go_wp2_with (go_at_call 45; refine (at_any _ _ _ _ hu ha (by omega)).mono ?_; rintro e w1 ⟨rfl, hb⟩; have A := after (w := w) hb; clear hb; specialize A (by go_grown); obtain ⟨B, ko, fo, kc, kf, kz⟩ := A; (try simp only [World.size_alloc] at kc kf kz); have z1 : w.heap.size < w1.heap.size := (by omega); have z2 : w.heap.size + 1 < w1.heap.size := (by omega))
      exact HR.out _ _ ⟨by simp [nextA, *], by assumption⟩
end Go.Proofs.Ytifkdjecdmmegaa
