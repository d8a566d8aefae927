import Derived.Test.YtjkndfenniongaaGreatDoorPackH
set_option linter.unusedSimpArgs false
set_option linter.unusedVariables false
namespace Go.Proofs.YtjkndfenniongaaGreatDoor
open Go Go.RowKit
set_option maxRecDepth 10000 in
theorem end_any (R : Nat) (l : List UInt8) (sh : Bool) (w : World) (h : Blk w R (rcells l sh)) :
    Calls Tryz.prog 78 #[rptr R] w fun e w' => e = .returned (.int .i64 (if sh = false ∧ l = [] then 0 else 3)) ∧ Same w w' := by
  refine opq fun Rr HR => ?_
  have hc := h.cell
  clear h
  cases sh
  · by_cases hq : l = []
    · rw [if_pos ⟨rfl, hq⟩] at HR
      have hq2 : (l == []) = true := by rw [hq]; rfl
      subst hq
      go_enter Tryz.func78, Tryz.ntmps78
      go_wp2
      exact HR.out _ _ ⟨rfl, Mod.refl _ _⟩
    · rw [if_neg (fun q => hq q.2)] at HR
      have hq2 : (l == []) = false := by simp [hq]
      have hq3 : l.isEmpty = false := by simp [hq]
      go_enter Tryz.func78, Tryz.ntmps78
      go_wp2
      exact HR.out _ _ ⟨rfl, Mod.refl _ _⟩
  · rw [if_neg (fun q => by cases q.1)] at HR
    go_enter Tryz.func78, Tryz.ntmps78
    go_wp2
    exact HR.out _ _ ⟨rfl, Mod.refl _ _⟩
end Go.Proofs.YtjkndfenniongaaGreatDoor
