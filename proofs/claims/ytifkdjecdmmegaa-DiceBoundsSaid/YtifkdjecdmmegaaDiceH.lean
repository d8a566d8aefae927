import Derived.Test.YtifkdjecdmmegaaDiceB
import Derived.Test.YtifkdjecdmmegaaDiceC
set_option linter.unusedSimpArgs false
set_option linter.unusedVariables false
namespace Go.Proofs.Ytifkdjecdmmegaa
open Go Go.RowKit
theorem fa_spec (zs : Nat → Int) (b : Int) : ∀ (n i : Nat), sumW zs i ≤ b → (fa zs b i n = -1 ∧ sumW zs (i + n) ≤ b) ∨ ∃ j : Nat, i ≤ j ∧ j < i + n ∧ fa zs b i n = j ∧ sumW zs j ≤ b ∧ b < sumW zs (j + 1)
  | 0, i, h => .inl ⟨rfl, h⟩
  | n + 1, i, h => by
    by_cases hb : b < sumW zs (i + 1)
    · exact .inr ⟨i, by omega, by omega, by simp only [fa, if_pos hb], h, hb⟩
    · rcases fa_spec zs b n (i + 1) (by omega) with ⟨h1, h2⟩ | ⟨j, h1, h2, h3, h4, h5⟩
      · exact .inl ⟨by simp only [fa, if_neg hb]; exact h1, by rw [show i + (n + 1) = i + 1 + n from by omega]; exact h2⟩
      · exact .inr ⟨j, by omega, by omega, by simp only [fa, if_neg hb]; exact h3, h4, h5⟩
def posB (zs : Nat → Int) : Nat → Bool
  | 0 => false
  | k + 1 => posB zs k || decide (0 < zs k)
theorem posB_sum (zs : Nat → Int) (k : Nat) : posB zs k = decide (0 < sumW zs k) := by
  induction k with
  | zero => simp [posB, sumW]
  | succ k ih =>
    have h1 := sumW_bd zs k
    have h2 : decide (0 < zs k) = decide (0 < cwF (zs k)) := by rw [decide_eq_decide]; unfold cwF; omega
    have h3 := cw_bd (zs k)
    have hs : sumW zs (k + 1) = sumW zs k + cwF (zs k) := rfl
    show (posB zs k || decide (0 < zs k)) = decide (0 < sumW zs (k + 1))
    rw [ih, h2, Bool.eq_iff_iff, Bool.or_eq_true, decide_eq_true_eq, decide_eq_true_eq, decide_eq_true_eq]; omega
theorem weigh_spec (zs : Nat → Int) (len : Nat) (s : Int) : (weighV zs len s = -1 ∧ posB zs len = false) ∨ (∃ j : Nat, j < len ∧ weighV zs len s = j ∧ 0 < zs j ∧ posB zs len = true) := by
  have hsb := sumW_bd zs len
  unfold weighV
  by_cases h0 : sumW zs len = 0
  · exact .inl ⟨if_pos h0, by rw [posB_sum, h0]; rfl⟩
  · right
    rw [if_neg h0]
    have hb := belV_bd (sumW zs len) s
    rcases fa_spec zs (belV (sumW zs len) s) len 0 (by simp [sumW]; omega) with ⟨_, h2⟩ | ⟨j, _, h2, h3, h4, h5⟩
    · rw [Nat.zero_add] at h2; omega
    · refine ⟨j, by omega, h3, ?_, by rw [posB_sum, decide_eq_true_eq]; omega⟩
      have : sumW zs (j + 1) = sumW zs j + cwF (zs j) := rfl
      have hc : 0 < cwF (zs j) := by omega
      unfold cwF at hc; omega
def PermOn (m : Nat) (f : Nat → Int) : Prop := (∀ i, i < m → 0 ≤ f i ∧ f i < m) ∧ ∀ i j, i < m → j < m → f i = f j → i = j
theorem perm_iota (m : Nat) : PermOn m iotaF := ⟨fun i hi => by unfold iotaF; omega, fun i j _ _ h => by unfold iotaF at h; omega⟩
theorem perm_swap {m : Nat} {f : Nat → Int} (h : PermOn m f) (a b : Nat) (ha : a < m) (hb : b < m) : PermOn m (upd (upd f a (f b)) b (f a)) := by
  have key : ∀ i, upd (upd f a (f b)) b (f a) i = f (if i = b then a else if i = a then b else i) := by
    intro i; unfold upd; by_cases h1 : i = b
    · rw [if_pos h1, if_pos h1]
    · rw [if_neg h1, if_neg h1]; by_cases h2 : i = a
      · rw [if_pos h2, if_pos h2]
      · rw [if_neg h2, if_neg h2]
  have lt : ∀ i, i < m → (if i = b then a else if i = a then b else i) < m := by intro i hi; split <;> (try split) <;> omega
  refine ⟨fun i hi => by rw [key]; exact h.1 _ (lt i hi), fun i j hi hj e => ?_⟩
  rw [key, key] at e
  have := h.2 _ _ (lt i hi) (lt j hj) e
  split at this <;> split at this <;> (try split at this) <;> (try split at this) <;> omega
theorem perm_run {m : Nat} : ∀ (j : Nat) (x : (Nat → Int) × Int), j < m → PermOn m x.1 → PermOn m (shRun j x).1
  | 0, x, _, h => h
  | j + 1, (f, t), hj, h => by
    rw [shRun_succ]
    refine perm_run j _ (by omega) (perm_swap h _ _ hj ?_)
    have := belV_bd ((j : Int) + 2) t
    omega
def seenB (f : Nat → Int) (z : Nat) (x : Nat) : Bool := (List.range z).any fun i => f i == (x : Int)
theorem seen_no {m : Nat} {f : Nat → Int} (h : PermOn m f) (z q : Nat) (hz : z < m) (hq : f z = q) : seenB f z q = false := by
  unfold seenB
  rw [List.any_eq_false]
  intro i hi
  rw [List.mem_range] at hi
  simp only [beq_iff_eq]
  intro e
  have := h.2 i z (by omega) hz (by rw [e, hq])
  omega
theorem seen_step {f : Nat → Int} (z q x : Nat) (hq : f z = q) : upd (fun x => Value.bool (seenB f z x)) q (.bool true) x = Value.bool (seenB f (z + 1) x) := by
  unfold upd seenB
  rw [List.range_succ, List.any_append]
  by_cases h : x = q
  · subst h; rw [if_pos rfl]; simp [hq]
  · rw [if_neg h]
    have : (f z == (x : Int)) = false := by rw [hq, beq_eq_false_iff_ne]; omega
    simp [this]
end Go.Proofs.Ytifkdjecdmmegaa
