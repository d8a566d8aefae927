import Derived.Test.YthkcdoneghcglaaDoorBndL
import Derived.Test.YthkcdoneghcglaaDoorBndA
set_option linter.unusedSimpArgs false
set_option linter.unusedVariables false
/- The sorted list of two sets' members. -/
namespace Go.Proofs.YthkcdoneghcglaaDoor
open Go Go.RowKit
theorem le_all {L : List Int} (h : L.Pairwise (· ≤ ·)) {i j : Nat} (hij : i ≤ j) (hj : j < L.length) : L.toArray[i]! ≤ L.toArray[j]! := by
  rw [getElem!_pos _ i (by simp; omega), getElem!_pos _ j (by simpa using hj)]
  rcases Nat.lt_or_eq_of_le hij with q | q
  · simpa using List.pairwise_iff_getElem.1 h i j (by omega) hj q
  · subst q; exact Int.le_refl _
theorem comp_strict {L : List Int} (h : L.Pairwise (· ≤ ·)) : (Lib.compact L).Pairwise (· < ·) := by
  unfold Lib.compact Lib.compactUpTo
  rw [List.pairwise_map, List.pairwise_filter]
  refine List.Pairwise.imp_of_mem ?_ (List.pairwise_lt_range (n := L.length))
  intro i j hi hj hij h1 h2
  have hjl : j < L.length := List.mem_range.1 hj
  have hne : L.toArray[j]! ≠ L.toArray[j - 1]! := by
    have := h2
    unfold Lib.keeps at this
    rcases of_decide_eq_true this with q | q
    · omega
    · exact q
  have a := le_all h (show i ≤ j - 1 by omega) (show j - 1 < L.length by omega)
  have b := le_all h (show j - 1 ≤ j by omega) hjl
  omega
theorem comp_has (L : List Int) : ∀ j, j < L.length → ∃ i, i ≤ j ∧ Lib.keeps L.toArray i = true ∧ L.toArray[i]! = L.toArray[j]!
  | 0, h => ⟨0, Nat.le_refl _, Lib.keeps_lt_one _ 0 (by omega), rfl⟩
  | j + 1, h => by
    by_cases q : L.toArray[j + 1]! = L.toArray[j]!
    · obtain ⟨i, a, b, c⟩ := comp_has L j (by omega)
      exact ⟨i, by omega, b, by rw [c, q]⟩
    · exact ⟨j + 1, Nat.le_refl _, Lib.keeps_pos q, rfl⟩
theorem comp_mem {L : List Int} (x : Int) : x ∈ Lib.compact L ↔ x ∈ L := by
  unfold Lib.compact Lib.compactUpTo
  rw [List.mem_map]
  constructor
  · rintro ⟨i, hi, rfl⟩
    have hil : i < L.length := List.mem_range.1 ((List.mem_filter.1 hi).1)
    rw [getElem!_pos _ i (by simpa using hil)]
    simp
  · intro hx
    obtain ⟨j, hj, rfl⟩ := List.getElem_of_mem hx
    obtain ⟨i, a, b, c⟩ := comp_has L j hj
    refine ⟨i, List.mem_filter.2 ⟨List.mem_range.2 (by omega), b⟩, ?_⟩
    rw [c, getElem!_pos _ j (by simpa using hj)]
    simp
/-- Both sets' members, rising. -/
def both (A B : List Int) : List Int := Lib.compact ((A ++ B).mergeSort fun x y => decide (x ≤ y))
theorem both_strict (A B : List Int) : (both A B).Pairwise (· < ·) := by
  refine comp_strict ?_
  have := List.pairwise_mergeSort (le := fun (x y : Int) => decide (x ≤ y)) (by simp; omega) (by simp; omega) (A ++ B)
  exact this.imp (by simp)
theorem both_mem (A B : List Int) (x : Int) : x ∈ both A B ↔ x ∈ A ∨ x ∈ B := by
  unfold both
  rw [comp_mem, List.mem_mergeSort, List.mem_append]
theorem both_len (A B : List Int) : (both A B).length ≤ A.length + B.length := by
  unfold both
  refine Nat.le_trans (compact_len _) ?_
  rw [List.length_mergeSort, List.length_append]; exact Nat.le_refl _
/-- What comes out of an operation. -/
def pick2 (f : Bool → Bool → Bool) (A B : List Int) : List Int := (both A B).filter fun n => f (A.contains n) (B.contains n)
/-- The program's operation: nothing where one is no set. -/
def someL (f : Bool → Bool → Bool) (A B : List Int) : List Int := if goodI A = true ∧ goodI B = true then pick2 f A B else []
theorem gI_strict : ∀ (L : List Int) (lo : Int), gI lo L = true → L.Pairwise (· < ·)
  | [], _, _ => List.Pairwise.nil
  | n :: r, lo, h => by
    rw [gI] at h
    simp only [Bool.and_eq_true, decide_eq_true_eq] at h
    exact List.Pairwise.cons (fun x hx => gI_lo r n h.2 x hx) (gI_strict r n h.2)
theorem good_le {L : List Int} (h : goodI L = true) : L.Pairwise (· ≤ ·) := (gI_strict L (-1) h).imp (fun h => Int.le_of_lt h)
theorem strict_ext : ∀ {A B : List Int}, A.Pairwise (· < ·) → B.Pairwise (· < ·) → (∀ x, x ∈ A ↔ x ∈ B) → A = B
  | [], [], _, _, _ => rfl
  | [], b :: B, _, _, h => by have := (h b).2 (by simp); simp at this
  | a :: A, [], _, _, h => by have := (h a).1 (by simp); simp at this
  | a :: A, b :: B, hA, hB, h => by
    rw [List.pairwise_cons] at hA hB
    have hab : a = b := by
      have h1 := (h a).1 (by simp)
      have h2 := (h b).2 (by simp)
      rcases List.mem_cons.1 h1 with q | q
      · exact q
      · rcases List.mem_cons.1 h2 with q2 | q2
        · exact q2.symm
        · have := hB.1 a q; have := hA.1 b q2; omega
    subst hab
    congr 1
    refine strict_ext hA.2 hB.2 fun x => ?_
    constructor
    · intro hx
      rcases List.mem_cons.1 ((h x).1 (by simp [hx])) with q | q
      · have := hA.1 x hx; omega
      · exact q
    · intro hx
      rcases List.mem_cons.1 ((h x).2 (by simp [hx])) with q | q
      · have := hB.1 x hx; omega
      · exact q
theorem pick2_strict (f : Bool → Bool → Bool) (A B : List Int) : (pick2 f A B).Pairwise (· < ·) := (both_strict A B).filter _
theorem pick2_mem (f : Bool → Bool → Bool) (A B : List Int) (x : Int) : x ∈ pick2 f A B ↔ (x ∈ A ∨ x ∈ B) ∧ f (A.contains x) (B.contains x) = true := by
  unfold pick2; rw [List.mem_filter, both_mem]
theorem less_wake : someL (fun x y => x && !y) [0, 1, 2, 5] [1] = [0, 2, 5] := by
  rw [someL, if_pos (by decide)]
  refine strict_ext (pick2_strict _ _ _) (by decide) fun x => ?_
  rw [pick2_mem]
  simp
  omega
end Go.Proofs.YthkcdoneghcglaaDoor
