import Derived.Test.YthkcdoneghcglaaDoorBndI
set_option linter.unusedSimpArgs false
set_option linter.unusedVariables false
/- The document's Parse of band: plain laws. -/
namespace Go.Proofs.YthkcdoneghcglaaDoor
open Go Go.RowKit
def PrR (o : Option (List Int)) (e : Ending) (w' : World) : Prop := match o with
  | some L => ∃ a c, e = .returned (.tuple #[.slice a L.length c, .bool true]) ∧ Ins w' a L
  | none => e = .returned (.tuple #[.slice none 0 0, .bool false])
theorem gI_len : ∀ (l : List Int) (lo : Int), lo ≤ 9999 → gI lo l = true → (l.length : Int) ≤ 9999 - lo
  | [], lo, h, _ => by simp; omega
  | n :: r, lo, h, hg => by
    rw [gI] at hg
    simp only [Bool.and_eq_true, decide_eq_true_eq] at hg
    have := gI_len r n hg.1.2 hg.2
    have h1 := hg.1.1
    simp; omega
theorem goodI_len {l : List Int} (h : goodI l = true) : l.length ≤ 10000 := by
  have := gI_len l (-1) (by decide) h; omega
theorem rGo_nil (k : Nat) : rGo k [] = [] := by cases k <;> simp [rGo]
theorem numG_bd : ∀ (k : Nat) (n : Int) (l : List UInt8), 0 ≤ n → 0 ≤ (numG k n l).1 ∧ (numG k n l).1 + 1 ≤ (n + 1) * 10 ^ k ∧ (numG k n l).2 ≤ k ∧ (numG k n l).2 ≤ l.length
  | 0, n, l, h => by rw [show numG 0 n l = (n, 0) by cases l <;> rfl]; simp; omega
  | k + 1, n, [], h => by
    rw [numG_nil]
    have : (1 : Int) ≤ 10 ^ (k + 1) := by exact Int.le_of_lt_add_one (by have := Int.pow_pos (n := 10) (m := k + 1) (by decide); omega)
    have := Int.mul_le_mul_of_nonneg_left this (show 0 ≤ n + 1 by omega)
    simp at this ⊢; omega
  | k + 1, n, c :: r, h => by
    cases hc : isDigit c with
    | false =>
      rw [numG_non _ _ hc]
      have : (1 : Int) ≤ 10 ^ (k + 1) := by exact Int.le_of_lt_add_one (by have := Int.pow_pos (n := 10) (m := k + 1) (by decide); omega)
      have := Int.mul_le_mul_of_nonneg_left this (show 0 ≤ n + 1 by omega)
      simp at this ⊢; omega
    | true =>
      have hd : 48 ≤ c.toNat ∧ c.toNat ≤ 57 := by unfold isDigit at hc; simpa using hc
      rw [numG_yes _ hc]
      obtain ⟨h1, h2, h3, h4⟩ := numG_bd k (n * 10 + ((c.toNat : Int) - 48)) r (by omega)
      refine ⟨h1, ?_, by simpa using h3, by simpa using h4⟩
      have hp : (0 : Int) ≤ 10 ^ k := by have := Int.pow_pos (n := 10) (m := k) (by decide); omega
      have := Int.mul_le_mul_of_nonneg_right (show n * 10 + ((c.toNat : Int) - 48) + 1 ≤ (n + 1) * 10 by omega) hp
      rw [Int.pow_succ, Int.mul_comm (10 ^ k) 10, ← Int.mul_assoc]
      dsimp only; omega
theorem numB_bd (l : List UInt8) : 0 ≤ (numB l).1 ∧ (numB l).1 ≤ 9999 ∧ (numB l).2 ≤ 4 ∧ (numB l).2 ≤ l.length := by
  have := numG_bd 4 0 l (by decide)
  unfold numB
  simp at this; omega
theorem cutN (S : List UInt8) (p n : Nat) (t : ByteArray) : ((⟨S.toArray⟩ : ByteArray).extract p (p + n)) = ⟨((S.drop p).take n).toArray⟩ := by
  apply ByteArray.ext
  rw [ByteArray.data_extract]
  apply Array.toList_inj.1
  simp [List.take_drop]
theorem rGo_step {f : Nat} {S : List UInt8} {p k1 : Nat} {v1 : Int} (hp : p < S.length) (h1 : numB (S.drop p) = (v1, k1)) (ht : ((S.drop (p + k1)).take 3) ≠ thru) :
    rGo (f + 1) (S.drop p) = rng v1 v1 ++ (if (S.drop (p + k1)).take 2 = comma then rGo f (S.drop (p + k1 + 2)) else []) := by
  have hne : S.drop p ≠ [] := by intro h; have := congrArg List.length h; simp at this; omega
  rw [rGo, if_neg hne, h1]
  simp only [List.drop_drop]
  rw [if_neg ht]
theorem rGo_step2 {f : Nat} {S : List UInt8} {p k1 k2 : Nat} {v1 v2 : Int} (hp : p < S.length) (h1 : numB (S.drop p) = (v1, k1)) (ht : ((S.drop (p + k1)).take 3) = thru) (h2 : numB (S.drop (p + k1 + 3)) = (v2, k2)) :
    rGo (f + 1) (S.drop p) = rng v1 v2 ++ (if (S.drop (p + k1 + 3 + k2)).take 2 = comma then rGo f (S.drop (p + k1 + 3 + k2 + 2)) else []) := by
  have hne : S.drop p ≠ [] := by intro h; have := congrArg List.length h; simp at this; omega
  rw [rGo, if_neg hne, h1]
  simp only [List.drop_drop]
  rw [if_pos ht, h2]
  simp only [show p + k1 + (3 + k2) = p + k1 + 3 + k2 by omega]
end Go.Proofs.YthkcdoneghcglaaDoor
