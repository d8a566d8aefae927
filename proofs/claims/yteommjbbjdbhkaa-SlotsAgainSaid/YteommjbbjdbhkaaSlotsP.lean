import Derived.Test.YteommjbbjdbhkaaRows2
/- Slots, in plain: states by place. -/
namespace Go.Proofs.Yteommjbbjdbhkaa
def cnt (f : Nat → Int) (x : Int) : Nat → Nat
  | 0 => 0
  | k + 1 => cnt f x k + if f k = x then 1 else 0
theorem cnt_le (f : Nat → Int) (x : Int) (k : Nat) : cnt f x k ≤ k := by
  induction k with
  | zero => simp [cnt]
  | succ k ih => simp only [cnt]; split <;> omega
theorem cnt_congr {f g : Nat → Int} (x : Int) (n : Nat) (h : ∀ i, i < n → f i = g i) : cnt f x n = cnt g x n := by
  induction n with
  | zero => rfl
  | succ k ih => simp only [cnt]; rw [ih (fun i hi => h i (by omega)), h k (by omega)]
/-- The first place from i on, of n places, whose state is x. -/
def low (f : Nat → Int) (x : Int) : Nat → Nat → Int
  | _, 0 => -1
  | i, n + 1 => if f i = x then i else low f x (i + 1) n
theorem low_spec (f : Nat → Int) (x : Int) : ∀ (n i : Nat), (low f x i n = -1 ∧ ∀ j, i ≤ j → j < i + n → f j ≠ x) ∨ ∃ j : Nat, i ≤ j ∧ j < i + n ∧ low f x i n = j ∧ f j = x ∧ ∀ q, i ≤ q → q < j → f q ≠ x
  | 0, i => .inl ⟨rfl, fun j h1 h2 => by omega⟩
  | n + 1, i => by
    by_cases h : f i = x
    · exact .inr ⟨i, by omega, by omega, by simp only [low, if_pos h], h, fun q h1 h2 => by omega⟩
    · rcases low_spec f x n (i + 1) with ⟨h1, h2⟩ | ⟨j, h1, h2, h3, h4, h5⟩
      · refine .inl ⟨by simp only [low, if_neg h]; exact h1, fun j g1 g2 => ?_⟩
        by_cases e : j = i
        · subst e; exact h
        · exact h2 j (by omega) (by omega)
      · refine .inr ⟨j, by omega, by omega, by simp only [low, if_neg h]; exact h3, h4, fun q g1 g2 => ?_⟩
        by_cases e : q = i
        · subst e; exact h
        · exact h5 q (by omega) g2
theorem cnt_pos (f : Nat → Int) (x : Int) : ∀ n, 0 < cnt f x n ↔ ∃ j, j < n ∧ f j = x
  | 0 => by simp [cnt]
  | n + 1 => by
    have ih := cnt_pos f x n
    simp only [cnt]
    by_cases h : f n = x
    · rw [if_pos h]; exact ⟨fun _ => ⟨n, by omega, h⟩, fun _ => by omega⟩
    · rw [if_neg h, Nat.add_zero, ih]
      exact ⟨fun ⟨j, h1, h2⟩ => ⟨j, by omega, h2⟩, fun ⟨j, h1, h2⟩ => ⟨j, by
        rcases Nat.lt_or_eq_of_le (Nat.le_of_lt_succ h1) with q | q
        · exact q
        · subst q; exact absurd h2 h, h2⟩⟩
/-- If there is one: where the first one is. -/
theorem low_of_pos {f : Nat → Int} {x : Int} {n : Nat} (h : 0 < cnt f x n) : ∃ j : Nat, j < n ∧ low f x 0 n = j ∧ f j = x := by
  obtain ⟨j, h1, h2⟩ := (cnt_pos f x n).1 h
  rcases low_spec f x n 0 with ⟨_, h4⟩ | ⟨q, _, h4, h5, h6, _⟩
  · exact absurd h2 (h4 j (by omega) (by omega))
  · exact ⟨q, by omega, h5, h6⟩
def one (b : Prop) [Decidable b] : Int := if b then 1 else 0
theorem one_nat (b : Prop) [Decidable b] : ((if b then (1 : Nat) else 0 : Nat) : Int) = one b := by unfold one; split <;> rfl
/-- One place's state turned. -/
theorem cnt_upd (f : Nat → Int) (x v : Int) (j : Nat) : ∀ n, (cnt (upd f j v) x n : Int) = cnt f x n + if j < n then one (v = x) - one (f j = x) else 0
  | 0 => by simp [cnt]
  | n + 1 => by
    have ih := cnt_upd f x v j n
    simp only [cnt]
    by_cases e : n = j
    · subst e
      have h1 : upd f n v n = v := by unfold upd; rw [if_pos rfl]
      rw [h1]
      rw [if_neg (by omega)] at ih
      rw [Int.natCast_add, Int.natCast_add, one_nat, one_nat, if_pos (by omega)]
      omega
    · have h1 : upd f j v n = f n := by unfold upd; rw [if_neg e]
      rw [h1]
      rw [Int.natCast_add, Int.natCast_add, ih, one_nat]
      by_cases hj : j < n
      · rw [if_pos hj, if_pos (by omega)]; omega
      · rw [if_neg hj, if_neg (by omega)]; omega
/-- The states are 0 to 3. -/
def St (f : Nat → Int) (n : Nat) : Prop := ∀ i, i < n → 0 ≤ f i ∧ f i ≤ 3
theorem st_upd {f : Nat → Int} {n : Nat} (h : St f n) (j : Nat) (v : Int) (hv : 0 ≤ v ∧ v ≤ 3) : St (upd f j v) n := by
  intro i hi; unfold upd; split
  · exact hv
  · exact h i hi
def comF (f : Nat → Int) : Nat → Int := fun i => if f i = 1 then 2 else if f i = 3 then 0 else f i
theorem st_com {f : Nat → Int} {n : Nat} (h : St f n) : St (comF f) n := by
  intro i hi; have := h i hi; unfold comF; split <;> (try split) <;> omega
/-- The used ones, rising. -/
def usedL (f : Nat → Int) (n : Nat) : List Nat := (List.range n).filter fun i => f i == 1 || f i == 2
theorem usedL_succ (f : Nat → Int) (n : Nat) : usedL f (n + 1) = usedL f n ++ if (f n == 1 || f n == 2) = true then [n] else [] := by
  unfold usedL; rw [List.range_succ, List.filter_append]; simp [List.filter_cons]
theorem usedL_len (f : Nat → Int) (n : Nat) : (usedL f n).length = cnt f 1 n + cnt f 2 n := by
  induction n with
  | zero => rfl
  | succ n ih =>
    rw [usedL_succ, List.length_append, ih]
    simp only [cnt]
    by_cases h1 : f n = 1
    · simp [h1]; omega
    · by_cases h2 : f n = 2
      · simp [h2]; omega
      · simp [h1, h2]
theorem usedL_le (f : Nat → Int) (n : Nat) : (usedL f n).length ≤ n := by
  have := List.length_filter_le (fun i => f i == 1 || f i == 2) (List.range n)
  simpa [usedL] using this
theorem cnt_all {f : Nat → Int} : ∀ n, St f n → cnt f 0 n + cnt f 1 n + cnt f 2 n + cnt f 3 n = n
  | 0, _ => rfl
  | n + 1, h => by
    have ih := cnt_all n (fun i hi => h i (by omega))
    have := h n (by omega)
    simp only [cnt]
    rcases (show f n = 0 ∨ f n = 1 ∨ f n = 2 ∨ f n = 3 by omega) with e | e | e | e <;> simp [e] <;> omega
theorem cnt_com (f : Nat → Int) : ∀ n, cnt (comF f) 0 n = cnt f 0 n + cnt f 3 n ∧ cnt (comF f) 1 n = 0 ∧ cnt (comF f) 2 n = cnt f 1 n + cnt f 2 n ∧ cnt (comF f) 3 n = 0
  | 0 => ⟨rfl, rfl, rfl, rfl⟩
  | n + 1 => by
    obtain ⟨h0, h1, h2, h3⟩ := cnt_com f n
    simp only [cnt]
    rw [h0, h1, h2, h3]
    by_cases e1 : f n = 1
    · simp [comF, e1]; omega
    · by_cases e3 : f n = 3
      · simp [comF, e3]; omega
      · by_cases e0 : f n = 0
        · simp [comF, e0]; omega
        · by_cases e2 : f n = 2
          · simp [comF, e2]; omega
          · simp [comF, e0, e1, e2, e3]
end Go.Proofs.Yteommjbbjdbhkaa
