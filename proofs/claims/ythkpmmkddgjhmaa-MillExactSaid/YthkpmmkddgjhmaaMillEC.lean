import Derived.Test.YthkpmmkddgjhmaaMillV
import Derived.Test.YthkpmmkddgjhmaaMillW
set_option linter.unusedSimpArgs false
set_option linter.unusedVariables false
namespace Go.Proofs.Ythkpmmkddgjhmaa
open Go Go.RowKit
theorem ordO_k (j : Nat) (hj : j < 15) (id sz s : Int) : (ordO j id sz s).1.k = j ∧ (ordO j id sz s).1.nums.length ≤ 1000 ∧ (ordO j id sz s).1.data.length ≤ 1000 := by
  have h : j = 0 ∨ j = 1 ∨ j = 2 ∨ j = 3 ∨ j = 4 ∨ j = 5 ∨ j = 6 ∨ j = 7 ∨ j = 8 ∨ j = 9 ∨ j = 10 ∨ j = 11 ∨ j = 12 ∨ j = 13 ∨ j = 14 := by omega
  rcases h with rfl | rfl | rfl | rfl | rfl | rfl | rfl | rfl | rfl | rfl | rfl | rfl | rfl | rfl | rfl <;> simp [ordO, volO, rangeO, crashO]
/-- An order of a script, in the document's form. -/
theorem form_ord (zs : Nat → Int) (sz s : Int) (k : Nat) (hz : 1 ≤ sz ∧ sz ≤ 8) :
    (itO zs sz s k).k < 15 ∧ (itO zs sz s k).nums.length ≤ 1000 ∧ (itO zs sz s k).data.length ≤ 1000 ∧
    ∀ w, Calls Try.prog 11 #[ordVal (itO zs sz s k)] w fun e w' => ∃ a1 c1 a2 c2, e = .returned (.agg #[.int .i64 (((itO zs sz s k).k : Int) + 1), .slice a1 (itO zs sz s k).nums.length c1, .slice a2 (itO zs sz s k).data.length c2]) ∧ RowAt w' a1 ((itO zs sz s k).nums.map (Value.int .i64)) ∧ RowAt w' a2 ((itO zs sz s k).data.map Value.string) ∧ Same w w' := by
  unfold itO
  have hj : (weighV zs 15 (stO zs sz s k)).toNat < 15 := by
    rcases weigh_spec zs 15 (stO zs sz s k) with ⟨h, _⟩ | ⟨j, hj, h, _⟩ <;> rw [h] <;> simp <;> omega
  generalize (weighV zs 15 (stO zs sz s k)).toNat = j at *
  generalize 1 + belV 4 (weighS zs 15 (stO zs sz s k)) = id
  generalize belS 4 (weighS zs 15 (stO zs sz s k)) = t
  obtain ⟨h1, h2, h3⟩ := ordO_k j hj id sz t
  have hp := fun w => parts_ord j hj id sz t hz w
  unfold ordVal at hp ⊢
  rw [h1] at hp ⊢
  refine ⟨hj, h2, h3, fun w => ?_⟩
  have := form_of j hj _ _ _ w hp
  rw [List.length_map, List.length_map] at this
  exact this
end Go.Proofs.Ythkpmmkddgjhmaa
