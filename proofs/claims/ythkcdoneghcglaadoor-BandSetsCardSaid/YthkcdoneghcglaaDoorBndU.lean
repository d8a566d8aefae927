import Derived.Test.YthkcdoneghcglaaDoorBndP
set_option linter.unusedSimpArgs false
set_option linter.unusedVariables false
/- Plain laws of gaps. -/
namespace Go.Proofs.YthkcdoneghcglaaDoor
open Go
/-- Gaps rise behind t, none is empty, none ends behind w. -/
def risen (w : Int) : Int → List (Int × Int) → Prop
  | _, [] => True
  | t, g :: G => t < g.1 ∧ 1 ≤ g.2 ∧ g.1 + g.2 ≤ w ∧ risen w (g.1 + g.2) G
/-- All gaps together. -/
def sumG : List (Int × Int) → Int
  | [] => 0
  | g :: G => g.2 + sumG G
theorem risen_mono {w : Int} : ∀ (G : List (Int × Int)) {t t' : Int}, t' ≤ t → risen w t G → risen w t' G
  | [], _, _, _, _ => trivial
  | g :: G, t, t', h, ⟨h1, h2⟩ => ⟨by omega, h2⟩
/-- Runs that stand from t on, one behind the other. -/
def ap : Int → List (Int × Int) → Prop
  | _, [] => True
  | t, p :: R => t ≤ p.1 ∧ p.1 ≤ p.2 ∧ ap (p.2 + 1) R
/-- Behind the last run nothing is left below w. -/
def finW (w : Int) : Int → List (Int × Int) → Prop
  | t, [] => w ≤ t
  | _, p :: R => finW w (p.2 + 1) R
theorem gL_risen (W : Int) : ∀ (R : List (Int × Int)) (t : Int), ap t R → risen W (t - 1) (gL W t R)
  | [], t, _ => trivial
  | p :: R, t, ⟨h1, h2, h3⟩ => by
    rw [gL]
    have ih := gL_risen W R (p.2 + 1) h3
    rw [show p.2 + 1 - 1 = p.2 by omega] at ih
    split
    · next h =>
      refine ⟨by dsimp only; omega, by dsimp only; omega, by dsimp only; omega, ?_⟩
      refine risen_mono _ ?_ ih
      dsimp only; omega
    · refine risen_mono _ ?_ ih
      omega
theorem rng_cnt (W : Int) : ∀ (k : Nat) (a b : Int), (b + 1 - a).toNat = k → a ≤ b + 1 → (((rng a b).filter fun x => decide (x < W)).length : Int) = max 0 (min (b + 1) W - a)
  | 0, a, b, hk, h => by rw [rng_nil a b (by omega)]; simp; omega
  | k + 1, a, b, hk, h => by
    rw [rng_cons a b (by omega), List.filter_cons]
    have ih := rng_cnt W k (a + 1) b (by omega) (by omega)
    by_cases q : a < W
    · rw [if_pos (by simpa using q), List.length_cons]; omega
    · rw [if_neg (by simpa using q), ih]; omega
theorem gL_sum (W : Int) : ∀ (R : List (Int × Int)) (t : Int), ap t R → finW W t R → sumG (gL W t R) + (((exp R).filter fun x => decide (x < W)).length : Int) = max 0 (W - t)
  | [], t, _, h => by
    have h' : W ≤ t := h
    simp [gL, sumG, exp]; omega
  | p :: R, t, ⟨h1, h2, h3⟩, h4 => by
    rw [gL]
    have ih := gL_sum W R (p.2 + 1) h3 h4
    have he : exp (p :: R) = rng p.1 p.2 ++ exp R := by simp [exp]
    have hc := rng_cnt W _ p.1 p.2 rfl (by omega)
    rw [he, List.filter_append, List.length_append]
    split
    · next h =>
      rw [List.singleton_append, sumG]
      dsimp only
      omega
    · next h =>
      rw [List.nil_append]
      omega
theorem ap_vr : ∀ (R : List (Int × Int)) (lo : Int), vr lo R → lo + 1 ≤ 10000 → ap (lo + 1) (R ++ [(10000, 10000)])
  | [], lo, _, h => ⟨by simpa using h, by decide, trivial⟩
  | p :: R, lo, ⟨h1, h2, h3, h4⟩, h => ⟨by omega, h2, by
    have := ap_vr R p.2 (by
      cases R with
      | nil => trivial
      | cons q R => exact ⟨by have := h4.1; omega, h4.2⟩) (by omega)
    exact this⟩
theorem fin_all (W : Int) (hW : W ≤ 10000) : ∀ (R : List (Int × Int)) (t : Int), finW W t (R ++ [(10000, 10000)])
  | [], t => show W ≤ 10000 + 1 by omega
  | p :: R, t => fin_all W hW R (p.2 + 1)
theorem gaps_law {A : List Int} (hg : goodI A = true) {W : Int} (h0 : 0 ≤ W) (h1 : W ≤ 10000) :
    risen W (-1) (gapsL A W) ∧ sumG (gapsL A W) + ((A.filter fun x => decide (x < W)).length : Int) = W := by
  unfold gapsL
  rw [if_pos hg, show min W 10000 = W by omega]
  have ha : ap 0 (runs A ++ [(10000, 10000)]) := ap_vr (runs A) (-1) (vr_runs hg) (by decide)
  refine ⟨gL_risen W _ 0 ha, ?_⟩
  have h := gL_sum W _ 0 ha (fin_all W h1 (runs A) 0)
  have he : exp (runs A ++ [(10000, 10000)]) = A ++ [10000] := by
    have := exp_runs A
    unfold exp at this ⊢
    rw [List.flatMap_append, this]; congr 1
  rw [he, List.filter_append, List.length_append] at h
  have hl : (([10000] : List Int).filter fun x => decide (x < W)) = [] := by simp; omega
  rw [hl] at h
  simp only [List.length_nil] at h
  omega
end Go.Proofs.YthkcdoneghcglaaDoor
