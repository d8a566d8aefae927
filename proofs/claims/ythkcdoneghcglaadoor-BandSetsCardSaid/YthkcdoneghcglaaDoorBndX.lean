import Derived.Test.YthkcdoneghcglaaDoorBndV
set_option linter.unusedSimpArgs false
set_option linter.unusedVariables false
/- Plain laws for BandSets: how many members lie below n. -/
namespace Go.Proofs.YthkcdoneghcglaaDoor
open Go
def below (L : List Int) (n : Int) : Nat := (L.filter fun x => decide (x < n)).length
theorem below_none {L : List Int} {n : Int} (h : ∀ x ∈ L, n ≤ x) : below L n = 0 := by
  unfold below
  rw [List.filter_eq_nil_iff.2 (fun x hx => by have := h x hx; simp; omega)]; rfl
theorem below_miss {L : List Int} {n : Int} (h : n ∉ L) : below L (n + 1) = below L n := by
  unfold below
  congr 1
  refine List.filter_congr fun x hx => ?_
  have : x ≠ n := fun e => h (e ▸ hx)
  by_cases q : x < n <;> simp [q] <;> omega
theorem below_hit : ∀ {L : List Int} {n : Int}, L.Pairwise (· < ·) → n ∈ L → L[below L n]? = some n ∧ below L (n + 1) = below L n + 1
  | [], n, _, h => by cases h
  | x :: L, n, hs, h => by
    rw [List.pairwise_cons] at hs
    by_cases q : x = n
    · subst q
      have h0 : below L x = 0 := below_none fun y hy => Int.le_of_lt (hs.1 y hy)
      have h1 : below L (x + 1) = 0 := below_none fun y hy => by have := hs.1 y hy; omega
      unfold below at h0 h1 ⊢
      rw [List.filter_cons, if_neg (by simp), List.filter_cons, if_pos (by simp; omega), List.length_cons, h0, h1]
      exact ⟨rfl, rfl⟩
    · have hm : n ∈ L := by rcases List.mem_cons.1 h with e | e; exact absurd e.symm q; exact e
      have hlt := hs.1 n hm
      have ih := below_hit hs.2 hm
      unfold below at ih ⊢
      rw [List.filter_cons, if_pos (by simpa using hlt), List.filter_cons, if_pos (by simp; omega), List.length_cons, List.length_cons]
      exact ⟨by rw [List.getElem?_cons_succ]; exact ih.1, by rw [ih.2]⟩
theorem below_le (L : List Int) (n : Int) : below L n ≤ L.length := List.length_filter_le _ _
theorem below_all {L : List Int} {n : Int} (h : ∀ x ∈ L, x < n) : below L n = L.length := by
  unfold below
  rw [List.filter_eq_self.2 (fun x hx => by simpa using h x hx)]
end Go.Proofs.YthkcdoneghcglaaDoor
