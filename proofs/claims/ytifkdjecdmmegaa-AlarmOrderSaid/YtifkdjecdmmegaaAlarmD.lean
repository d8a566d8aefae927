import Derived.Test.YtifkdjecdmmegaaFrame
namespace Go.Proofs.Ytifkdjecdmmegaa
open Go Go.RowKit
def atF (u a mark : Int) : Bool := decide (mark * a ≤ u * 100)
def nextA (w f b st u a : Int) : Int := if atF u a f = true ∨ (st = 2 ∧ atF u a (f-b) = true) then 2 else if atF u a w = true ∨ (st ≠ 0 ∧ atF u a (w - b) = true) then 1 else 0
theorem mul_bd (m a : Int) (h : 0 ≤ m ∧ m ≤ 100) (g : 0 ≤ a ∧ a ≤ 2147483647) : 0 ≤ m * a ∧ m * a ≤ 214748364700 := by
  refine ⟨Int.mul_nonneg h.1 g.1, ?_⟩
  have := Int.mul_le_mul_of_nonneg_right h.2 g.1
  omega
/-- An alarm's cells. -/
abbrev alc (w f b st rg : Int) : Array Value := #[.int .i64 w, .int .i64 f, .int .i64 b, .int .i64 st, .int .i64 rg]
def goodI (w f b : Int) : Prop := 1 ≤ w ∧ w ≤ f ∧ f ≤ 100 ∧ 0 ≤ b ∧ b ≤ w
end Go.Proofs.Ytifkdjecdmmegaa
