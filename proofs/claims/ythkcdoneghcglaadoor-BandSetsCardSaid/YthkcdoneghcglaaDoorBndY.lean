import Derived.Test.YthkcdoneghcglaaDoorBndX
set_option linter.unusedSimpArgs false
set_option linter.unusedVariables false
/- Plain laws for BandSets: gaps, number by number. -/
namespace Go.Proofs.YthkcdoneghcglaaDoor
open Go
/-- R holds the members from t on, and 10000. -/
def Left (A : List Int) (t : Int) (R : List (Int × Int)) : Prop := ap t R ∧ exp R = (A.filter fun x => decide (t ≤ x)) ++ [10000]
theorem left_start {A : List Int} (hg : goodI A = true) : Left A 0 (runs A ++ [(10000, 10000)]) := by
  refine ⟨ap_vr (runs A) (-1) (vr_runs hg) (by decide), ?_⟩
  have h := exp_runs A
  unfold exp at h ⊢
  rw [List.flatMap_append, h, List.filter_eq_self.2 (fun x hx => by simpa using (good_mem hg x hx).1)]
  congr 1
theorem from_in : ∀ {A : List Int} {t : Int}, A.Pairwise (· < ·) → t ∈ A → (A.filter fun x => decide (t ≤ x)) = t :: A.filter fun x => decide (t + 1 ≤ x)
  | [], t, _, h => by cases h
  | x :: A, t, hs, h => by
    rw [List.pairwise_cons] at hs
    by_cases q : x = t
    · subst q
      rw [List.filter_cons, if_pos (by simp), List.filter_cons, if_neg (by simp; omega)]
      congr 1
      refine List.filter_congr fun y hy => ?_
      have := hs.1 y hy
      have a1 : x ≤ y := by omega
      have a2 : x + 1 ≤ y := by omega
      simp [a1, a2]
    · have hm : t ∈ A := by rcases List.mem_cons.1 h with e | e; exact absurd e.symm q; exact e
      have := hs.1 t hm
      rw [List.filter_cons, if_neg (by simp; omega), List.filter_cons, if_neg (by simp; omega)]
      exact from_in hs.2 hm
theorem from_out {A : List Int} {t : Int} (h : t ∉ A) : (A.filter fun x => decide (t ≤ x)) = A.filter fun x => decide (t + 1 ≤ x) := by
  refine List.filter_congr fun x hx => ?_
  have : x ≠ t := fun e => h (e ▸ hx)
  by_cases q : t ≤ x <;> simp [q] <;> omega
theorem exp_cons (p : Int × Int) (R : List (Int × Int)) : exp (p :: R) = rng p.1 p.2 ++ exp R := by simp [exp]
/-- A member: the head's first goes, no gap. -/
theorem left_in {A : List Int} (hs : A.Pairwise (· < ·)) {W t : Int} {R : List (Int × Int)} (h : Left A t R) (ht : t ∈ A) : ∃ R2, Left A (t + 1) R2 ∧ gL W t R = gL W (t + 1) R2 := by
  obtain ⟨h1, h2⟩ := h
  rw [from_in hs ht] at h2
  cases R with
  | nil => simp [exp] at h2
  | cons p R =>
    obtain ⟨a1, a2, a3⟩ := h1
    rw [exp_cons, rng_cons _ _ a2, List.cons_append, List.cons_append] at h2
    have hp : p.1 = t := (List.cons.inj h2).1
    have ht2 := (List.cons.inj h2).2
    by_cases q : p.2 = t
    · refine ⟨R, ⟨by rw [← q]; exact a3, ?_⟩, ?_⟩
      · rw [← ht2, rng_nil _ _ (by omega), List.nil_append]
      · rw [gL, if_neg (by omega), List.nil_append, q]
    · refine ⟨(t + 1, p.2) :: R, ⟨⟨by dsimp only; omega, by dsimp only; omega, a3⟩, ?_⟩, ?_⟩
      · rw [exp_cons, ← ht2, hp]
      · rw [gL, if_neg (by omega), gL, if_neg (by dsimp only; omega)]
theorem gL_end (W : Int) : ∀ (R : List (Int × Int)) (t : Int), ap t R → W ≤ t → gL W t R = []
  | [], _, _, _ => rfl
  | p :: R, t, ⟨h1, h2, h3⟩, h => by rw [gL, if_neg (by omega), gL_end W R _ h3 (by omega)]; rfl
theorem left_jump {A : List Int} {t s : Int} (hts : t ≤ s) (h : ∀ x, t ≤ x → x < s → x ∉ A) : (A.filter fun x => decide (t ≤ x)) = A.filter fun x => decide (s ≤ x) := by
  refine List.filter_congr fun x hx => ?_
  by_cases q : t ≤ x
  · by_cases q2 : s ≤ x
    · simp [q, q2]
    · exact absurd hx (h x q (by omega))
  · have : ¬ s ≤ x := by omega
    simp [q, this]
/-- No member: a gap begins; it ends at e. -/
theorem left_out {A : List Int} (hg : goodI A = true) {W t : Int} {R : List (Int × Int)} (hW : W ≤ 10000) (h : Left A t R) (ht : t ∉ A) (htW : t < W) :
    ∃ e, t < e ∧ e ≤ W ∧ (∀ s, t ≤ s → s < e → s ∉ A) ∧ (e < W → e ∈ A) ∧ ∃ R2, gL W t R = (t, e - t) :: gL W (e + 1) R2 ∧ ap (e + 1) R2 ∧ (e < W → Left A (e + 1) R2) := by
  obtain ⟨h1, h2⟩ := h
  have hs := gI_strict A (-1) hg
  cases R with
  | nil => simp [exp] at h2
  | cons p R =>
    obtain ⟨a1, a2, a3⟩ := h1
    have hh := h2
    rw [exp_cons, rng_cons _ _ a2, List.cons_append] at hh
    have hmem : ∀ x ∈ A, t ≤ x → p.1 ≤ x := by
      intro x hx htx
      have : x ∈ exp (p :: R) := by rw [h2]; simp [hx, htx]
      have hap : ∀ (R : List (Int × Int)) (t : Int), ap t R → ∀ y ∈ exp R, t ≤ y := by
        intro R
        induction R with
        | nil => intro t _ y hy; simp [exp] at hy
        | cons q R ih =>
          intro t ⟨b1, b2, b3⟩ y hy
          rw [exp_cons, List.mem_append] at hy
          rcases hy with hy | hy
          · unfold rng at hy
            obtain ⟨i, _, rfl⟩ := List.mem_map.1 hy
            omega
          · have := ih _ b3 y hy; omega
      exact hap (p :: R) p.1 ⟨Int.le_refl _, a2, a3⟩ x this
    have hpin : p.1 ∈ A ∨ p.1 = 10000 := by
      have : p.1 ∈ (A.filter fun x => decide (t ≤ x)) ++ [10000] := by rw [← hh]; simp
      rcases List.mem_append.1 this with q | q
      · left; exact (List.mem_filter.1 q).1
      · right; simpa using q
    have hpt : t < p.1 := by
      rcases hpin with q | q
      · have : p.1 ≠ t := fun e => ht (e ▸ q)
        omega
      · omega
    refine ⟨min p.1 W, by omega, by omega, fun s hs1 hs2 hsA => by have := hmem s hsA hs1; omega, fun he => ?_, ?_⟩
    · rw [show min p.1 W = p.1 by omega]
      rcases hpin with q | q
      · exact q
      · omega
    · by_cases q : p.1 < W
      · have hm : min p.1 W = p.1 := by omega
        have hpA : p.1 ∈ A := by rcases hpin with q2 | q2; exact q2; omega
        have hL : Left A p.1 (p :: R) := ⟨⟨Int.le_refl _, a2, a3⟩, by rw [h2, left_jump (Int.le_of_lt hpt) (fun x x1 x2 x3 => by have := hmem x x3 x1; omega)]⟩
        obtain ⟨R2, b1, b2⟩ := left_in (W := W) hs hL hpA
        refine ⟨R2, ?_, by rw [hm]; exact b1.1, fun _ => by rw [hm]; exact b1⟩
        rw [hm, ← b2, gL, if_pos (by omega), hm, gL, if_neg (by omega)]
        rfl
      · have hm : min p.1 W = W := by omega
        refine ⟨[], ?_, trivial, fun hc => by omega⟩
        rw [gL, gL, if_pos (by omega), gL_end W R _ a3 (by omega), hm]; rfl
end Go.Proofs.YthkcdoneghcglaaDoor
