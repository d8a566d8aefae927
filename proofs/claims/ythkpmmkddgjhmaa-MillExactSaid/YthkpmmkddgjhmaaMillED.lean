import Derived.Test.YthkpmmkddgjhmaaFrame
set_option linter.unusedSimpArgs false
namespace Go.Proofs.Ythkpmmkddgjhmaa
open Go Go.RowKit
theorem us_at0 (w : World) : (Instr.index 29 (.agg #[.int .i64 2, .int .i64 1, .int .i64 3, .int .i64 1, .int .i64 1, .int .i64 1, .int .i64 5, .int .i64 8, .int .i64 3, .int .i64 2, .int .i64 5, .int .i64 1, .int .i64 1, .int .i64 1, .int .i64 1]) (.int .i64 0)).run Try.prog w = .ok (.int .i64 2) w := by
  simp [Instr.index, run_underlying Try.underlying29, asIntOf, go_sem]
theorem us_at1 (w : World) : (Instr.index 29 (.agg #[.int .i64 2, .int .i64 1, .int .i64 3, .int .i64 1, .int .i64 1, .int .i64 1, .int .i64 5, .int .i64 8, .int .i64 3, .int .i64 2, .int .i64 5, .int .i64 1, .int .i64 1, .int .i64 1, .int .i64 1]) (.int .i64 1)).run Try.prog w = .ok (.int .i64 1) w := by
  simp [Instr.index, run_underlying Try.underlying29, asIntOf, go_sem]
theorem us_at2 (w : World) : (Instr.index 29 (.agg #[.int .i64 2, .int .i64 1, .int .i64 3, .int .i64 1, .int .i64 1, .int .i64 1, .int .i64 5, .int .i64 8, .int .i64 3, .int .i64 2, .int .i64 5, .int .i64 1, .int .i64 1, .int .i64 1, .int .i64 1]) (.int .i64 2)).run Try.prog w = .ok (.int .i64 3) w := by
  simp [Instr.index, run_underlying Try.underlying29, asIntOf, go_sem]
theorem us_at3 (w : World) : (Instr.index 29 (.agg #[.int .i64 2, .int .i64 1, .int .i64 3, .int .i64 1, .int .i64 1, .int .i64 1, .int .i64 5, .int .i64 8, .int .i64 3, .int .i64 2, .int .i64 5, .int .i64 1, .int .i64 1, .int .i64 1, .int .i64 1]) (.int .i64 3)).run Try.prog w = .ok (.int .i64 1) w := by
  simp [Instr.index, run_underlying Try.underlying29, asIntOf, go_sem]
theorem us_at4 (w : World) : (Instr.index 29 (.agg #[.int .i64 2, .int .i64 1, .int .i64 3, .int .i64 1, .int .i64 1, .int .i64 1, .int .i64 5, .int .i64 8, .int .i64 3, .int .i64 2, .int .i64 5, .int .i64 1, .int .i64 1, .int .i64 1, .int .i64 1]) (.int .i64 4)).run Try.prog w = .ok (.int .i64 1) w := by
  simp [Instr.index, run_underlying Try.underlying29, asIntOf, go_sem]
theorem us_at5 (w : World) : (Instr.index 29 (.agg #[.int .i64 2, .int .i64 1, .int .i64 3, .int .i64 1, .int .i64 1, .int .i64 1, .int .i64 5, .int .i64 8, .int .i64 3, .int .i64 2, .int .i64 5, .int .i64 1, .int .i64 1, .int .i64 1, .int .i64 1]) (.int .i64 5)).run Try.prog w = .ok (.int .i64 1) w := by
  simp [Instr.index, run_underlying Try.underlying29, asIntOf, go_sem]
theorem us_at6 (w : World) : (Instr.index 29 (.agg #[.int .i64 2, .int .i64 1, .int .i64 3, .int .i64 1, .int .i64 1, .int .i64 1, .int .i64 5, .int .i64 8, .int .i64 3, .int .i64 2, .int .i64 5, .int .i64 1, .int .i64 1, .int .i64 1, .int .i64 1]) (.int .i64 6)).run Try.prog w = .ok (.int .i64 5) w := by
  simp [Instr.index, run_underlying Try.underlying29, asIntOf, go_sem]
theorem us_at7 (w : World) : (Instr.index 29 (.agg #[.int .i64 2, .int .i64 1, .int .i64 3, .int .i64 1, .int .i64 1, .int .i64 1, .int .i64 5, .int .i64 8, .int .i64 3, .int .i64 2, .int .i64 5, .int .i64 1, .int .i64 1, .int .i64 1, .int .i64 1]) (.int .i64 7)).run Try.prog w = .ok (.int .i64 8) w := by
  simp [Instr.index, run_underlying Try.underlying29, asIntOf, go_sem]
theorem us_at8 (w : World) : (Instr.index 29 (.agg #[.int .i64 2, .int .i64 1, .int .i64 3, .int .i64 1, .int .i64 1, .int .i64 1, .int .i64 5, .int .i64 8, .int .i64 3, .int .i64 2, .int .i64 5, .int .i64 1, .int .i64 1, .int .i64 1, .int .i64 1]) (.int .i64 8)).run Try.prog w = .ok (.int .i64 3) w := by
  simp [Instr.index, run_underlying Try.underlying29, asIntOf, go_sem]
theorem us_at9 (w : World) : (Instr.index 29 (.agg #[.int .i64 2, .int .i64 1, .int .i64 3, .int .i64 1, .int .i64 1, .int .i64 1, .int .i64 5, .int .i64 8, .int .i64 3, .int .i64 2, .int .i64 5, .int .i64 1, .int .i64 1, .int .i64 1, .int .i64 1]) (.int .i64 9)).run Try.prog w = .ok (.int .i64 2) w := by
  simp [Instr.index, run_underlying Try.underlying29, asIntOf, go_sem]
theorem us_at10 (w : World) : (Instr.index 29 (.agg #[.int .i64 2, .int .i64 1, .int .i64 3, .int .i64 1, .int .i64 1, .int .i64 1, .int .i64 5, .int .i64 8, .int .i64 3, .int .i64 2, .int .i64 5, .int .i64 1, .int .i64 1, .int .i64 1, .int .i64 1]) (.int .i64 10)).run Try.prog w = .ok (.int .i64 5) w := by
  simp [Instr.index, run_underlying Try.underlying29, asIntOf, go_sem]
theorem us_at11 (w : World) : (Instr.index 29 (.agg #[.int .i64 2, .int .i64 1, .int .i64 3, .int .i64 1, .int .i64 1, .int .i64 1, .int .i64 5, .int .i64 8, .int .i64 3, .int .i64 2, .int .i64 5, .int .i64 1, .int .i64 1, .int .i64 1, .int .i64 1]) (.int .i64 11)).run Try.prog w = .ok (.int .i64 1) w := by
  simp [Instr.index, run_underlying Try.underlying29, asIntOf, go_sem]
theorem us_at12 (w : World) : (Instr.index 29 (.agg #[.int .i64 2, .int .i64 1, .int .i64 3, .int .i64 1, .int .i64 1, .int .i64 1, .int .i64 5, .int .i64 8, .int .i64 3, .int .i64 2, .int .i64 5, .int .i64 1, .int .i64 1, .int .i64 1, .int .i64 1]) (.int .i64 12)).run Try.prog w = .ok (.int .i64 1) w := by
  simp [Instr.index, run_underlying Try.underlying29, asIntOf, go_sem]
theorem us_at13 (w : World) : (Instr.index 29 (.agg #[.int .i64 2, .int .i64 1, .int .i64 3, .int .i64 1, .int .i64 1, .int .i64 1, .int .i64 5, .int .i64 8, .int .i64 3, .int .i64 2, .int .i64 5, .int .i64 1, .int .i64 1, .int .i64 1, .int .i64 1]) (.int .i64 13)).run Try.prog w = .ok (.int .i64 1) w := by
  simp [Instr.index, run_underlying Try.underlying29, asIntOf, go_sem]
theorem us_at14 (w : World) : (Instr.index 29 (.agg #[.int .i64 2, .int .i64 1, .int .i64 3, .int .i64 1, .int .i64 1, .int .i64 1, .int .i64 5, .int .i64 8, .int .i64 3, .int .i64 2, .int .i64 5, .int .i64 1, .int .i64 1, .int .i64 1, .int .i64 1]) (.int .i64 14)).run Try.prog w = .ok (.int .i64 1) w := by
  simp [Instr.index, run_underlying Try.underlying29, asIntOf, go_sem]
theorem us_at (q : Nat) (hq : q < 15) : ∃ u, (∀ w, (Instr.index 29 (.agg #[.int .i64 2, .int .i64 1, .int .i64 3, .int .i64 1, .int .i64 1, .int .i64 1, .int .i64 5, .int .i64 8, .int .i64 3, .int .i64 2, .int .i64 5, .int .i64 1, .int .i64 1, .int .i64 1, .int .i64 1]) (.int .i64 (q : Int))).run Try.prog w = .ok (.int .i64 u) w) ∧ (#[.int .i64 2, .int .i64 1, .int .i64 3, .int .i64 1, .int .i64 1, .int .i64 1, .int .i64 5, .int .i64 8, .int .i64 3, .int .i64 2, .int .i64 5, .int .i64 1, .int .i64 1, .int .i64 1, .int .i64 1] : Array Value)[q]? = some (.int .i64 u) := by
  have h : q = 0 ∨ q = 1 ∨ q = 2 ∨ q = 3 ∨ q = 4 ∨ q = 5 ∨ q = 6 ∨ q = 7 ∨ q = 8 ∨ q = 9 ∨ q = 10 ∨ q = 11 ∨ q = 12 ∨ q = 13 ∨ q = 14 := by omega
  rcases h with rfl | rfl | rfl | rfl | rfl | rfl | rfl | rfl | rfl | rfl | rfl | rfl | rfl | rfl | rfl
  · exact ⟨_, us_at0, rfl⟩
  · exact ⟨_, us_at1, rfl⟩
  · exact ⟨_, us_at2, rfl⟩
  · exact ⟨_, us_at3, rfl⟩
  · exact ⟨_, us_at4, rfl⟩
  · exact ⟨_, us_at5, rfl⟩
  · exact ⟨_, us_at6, rfl⟩
  · exact ⟨_, us_at7, rfl⟩
  · exact ⟨_, us_at8, rfl⟩
  · exact ⟨_, us_at9, rfl⟩
  · exact ⟨_, us_at10, rfl⟩
  · exact ⟨_, us_at11, rfl⟩
  · exact ⟨_, us_at12, rfl⟩
  · exact ⟨_, us_at13, rfl⟩
  · exact ⟨_, us_at14, rfl⟩
theorem cw_at (zs : Nat → Int) (q : Nat) (hq : q < 15) : ∃ c x, (#[.int .i64 (zs 0), .int .i64 (zs 1), .int .i64 (zs 2), .int .i64 (zs 3), .int .i64 (zs 4), .int .i64 (zs 5), .int .i64 (zs 6), .int .i64 (zs 7), .int .i64 (zs 8), .int .i64 (zs 9), .int .i64 (zs 10), .int .i64 (zs 11), .int .i64 (zs 12), .int .i64 0, .int .i64 0] : Array Value)[q]? = some (.int .i64 c) ∧ (#[.int .i64 (zs 0), .int .i64 (zs 1), .int .i64 (zs 2), .int .i64 (zs 3), .int .i64 (zs 4), .int .i64 (zs 5), .int .i64 (zs 6), .int .i64 (zs 7), .int .i64 (zs 8), .int .i64 (zs 9), .int .i64 (zs 10), .int .i64 (zs 11), .int .i64 (zs 12), .int .i64 (zs 13), .int .i64 (zs 14)] : Array Value)[q]? = some (.int .i64 x) ∧ ((q < 13 ∧ c = x) ∨ (¬ q < 13 ∧ c = 0)) := by
  have h : q = 0 ∨ q = 1 ∨ q = 2 ∨ q = 3 ∨ q = 4 ∨ q = 5 ∨ q = 6 ∨ q = 7 ∨ q = 8 ∨ q = 9 ∨ q = 10 ∨ q = 11 ∨ q = 12 ∨ q = 13 ∨ q = 14 := by omega
  rcases h with rfl | rfl | rfl | rfl | rfl | rfl | rfl | rfl | rfl | rfl | rfl | rfl | rfl | rfl | rfl
  · exact ⟨_, _, rfl, rfl, .inl ⟨by omega, rfl⟩⟩
  · exact ⟨_, _, rfl, rfl, .inl ⟨by omega, rfl⟩⟩
  · exact ⟨_, _, rfl, rfl, .inl ⟨by omega, rfl⟩⟩
  · exact ⟨_, _, rfl, rfl, .inl ⟨by omega, rfl⟩⟩
  · exact ⟨_, _, rfl, rfl, .inl ⟨by omega, rfl⟩⟩
  · exact ⟨_, _, rfl, rfl, .inl ⟨by omega, rfl⟩⟩
  · exact ⟨_, _, rfl, rfl, .inl ⟨by omega, rfl⟩⟩
  · exact ⟨_, _, rfl, rfl, .inl ⟨by omega, rfl⟩⟩
  · exact ⟨_, _, rfl, rfl, .inl ⟨by omega, rfl⟩⟩
  · exact ⟨_, _, rfl, rfl, .inl ⟨by omega, rfl⟩⟩
  · exact ⟨_, _, rfl, rfl, .inl ⟨by omega, rfl⟩⟩
  · exact ⟨_, _, rfl, rfl, .inl ⟨by omega, rfl⟩⟩
  · exact ⟨_, _, rfl, rfl, .inl ⟨by omega, rfl⟩⟩
  · exact ⟨_, _, rfl, rfl, .inr ⟨by omega, rfl⟩⟩
  · exact ⟨_, _, rfl, rfl, .inr ⟨by omega, rfl⟩⟩
end Go.Proofs.Ythkpmmkddgjhmaa
