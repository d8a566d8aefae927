import Derived.Test.YteommjbbjdbhkaaSlotsQ
set_option linter.unusedSimpArgs false
set_option linter.unusedVariables false
namespace Go.Proofs.Yteommjbbjdbhkaa
open Go Go.RowKit
theorem used_mem {f : Nat → Int} {n i : Nat} (h : i ∈ usedL f n) : i < n ∧ (f i = 1 ∨ f i = 2) := by
  unfold usedL at h
  rw [List.mem_filter, List.mem_range] at h
  exact ⟨h.1, by simpa using h.2⟩
theorem cnt_zero {f : Nat → Int} {x : Int} {n : Nat} (h : cnt f x n = 0) {i : Nat} (hi : i < n) : f i ≠ x := fun e => by
  have := (cnt_pos f x n).2 ⟨i, hi, e⟩; omega
theorem again1 {f : Nat → Int} {n : Nat} (h : St f n) : cnt (comF f) 3 n = 0 ∧ cnt (comF f) 0 n + (usedL (comF f) n).length = n := by
  obtain ⟨h0, h1, h2, h3⟩ := cnt_com f n
  have := cnt_all n (st_com h)
  rw [usedL_len]
  exact ⟨h3, by omega⟩
theorem again2 {f : Nat → Int} {n : Nat} (h : St f n) : cnt (comF (comF f)) 3 n = 0 ∧ (usedL (comF (comF f)) n).length = (usedL (comF f) n).length := by
  obtain ⟨h0, h1, h2, h3⟩ := cnt_com f n
  obtain ⟨g0, g1, g2, g3⟩ := cnt_com (comF f) n
  rw [usedL_len, usedL_len]
  exact ⟨g3, by omega⟩
theorem again3 {f : Nat → Int} {n : Nat} (h : 0 < (usedL (comF f) n).length) : (usedL (comF f) n).getD 0 0 < n ∧ comF (comF f) ((usedL (comF f) n).getD 0 0) = 2 := by
  have hm : (usedL (comF f) n).getD 0 0 ∈ usedL (comF f) n := by
    rw [List.getD_eq_getElem?_getD, List.getElem?_eq_getElem h]; exact List.getElem_mem h
  generalize (usedL (comF f) n).getD 0 0 = u at *
  obtain ⟨h1, h2⟩ := used_mem hm
  have h3 := cnt_zero (cnt_com f n).2.1 h1
  have h4 : comF f u = 2 := by rcases h2 with q | q; exact absurd q h3; exact q
  exact ⟨h1, by rw [comF, h4]; rfl⟩
theorem again4 {g : Nat → Int} {n u : Nat} (hu : u < n) (h : g u = 2) (h3 : cnt g 3 n = 0) :
    giveV g n u = 0 ∧ giveF g n u = upd g u 3 ∧ cnt (upd g u 3) 3 n = 1 ∧ cnt (upd g u 3) 0 n = cnt g 0 n ∧ giveV (upd g u 3) n u = 7 ∧ giveF (upd g u 3) n u = upd g u 3 ∧ cnt (comF (upd g u 3)) 3 n = 0 ∧ cnt (comF (upd g u 3)) 0 n = cnt g 0 n + 1 := by
  have hr : 0 ≤ (u : Int) ∧ (u : Int) < n := by omega
  have hx : upd g u 3 u = 3 := by unfold upd; rw [if_pos rfl]
  have c3 := cnt_upd g 3 3 u n
  have c0 := cnt_upd g 0 3 u n
  rw [if_pos hu, h] at c3 c0
  simp [one] at c3 c0
  obtain ⟨g0, g1, g2, g3⟩ := cnt_com (upd g u 3) n
  refine ⟨by unfold giveV; rw [if_pos hr, Int.toNat_natCast, if_pos (Or.inr h)], by unfold giveF; rw [if_pos hr, Int.toNat_natCast, if_neg (by omega), if_pos h], by omega, by omega, ?_, ?_, g3, by omega⟩
  · unfold giveV; rw [if_pos hr, Int.toNat_natCast, hx, if_neg (by omega)]
  · unfold giveF; rw [if_pos hr, Int.toNat_natCast, hx, if_neg (by omega), if_neg (by omega)]
theorem st_give {f : Nat → Int} {n : Nat} (h : St f n) (i : Int) : St (giveF f n i) n := by
  unfold giveF
  split
  · split
    · exact st_upd h _ _ (by omega)
    · split
      · exact st_upd h _ _ (by omega)
      · exact h
  · exact h
theorem st_take {f : Nat → Int} {n : Nat} (h : St f n) (l : Int) : St (takeF f n l) n := by
  unfold takeF; split
  · exact h
  · exact st_upd h _ _ (by omega)
end Go.Proofs.Yteommjbbjdbhkaa
