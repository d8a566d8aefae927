import Derived.Test.YteommjbbjdbhkaaSlotsS
import Derived.Deep.CutBlock
set_option linter.unusedSimpArgs false
set_option linter.unusedVariables false
namespace Go.Proofs.Yteommjbbjdbhkaa
open Go Go.RowKit
def useB (f : Nat → Int) (j : Nat) : Bool := f j == 1 || f j == 2
def bndB (f : Nat → Int) (j : Nat) : Bool := f j == 2 || f j == 3
theorem upd_bool (f : Nat → Bool) (i : Nat) (v : Bool) : upd (fun j => Value.bool (f j)) i (.bool v) = fun j => Value.bool (upd f i v j) := by
  funext j; unfold upd; split <;> rfl
theorem use_take {f : Nat → Int} {j : Nat} (i : Nat) : upd (useB f) j true i = useB (upd f j 1) i := by
  unfold upd useB; by_cases e : i = j <;> simp [e, upd]
theorem bnd_take {f : Nat → Int} {j : Nat} (h : f j = 0) (i : Nat) : bndB f i = bndB (upd f j 1) i := by
  unfold bndB; by_cases e : i = j
  · subst e; simp [upd, h]
  · simp [upd, e]
theorem giveV_use {f : Nat → Int} {n j : Nat} (h : j < n) : giveV f n j = if useB f j = true then 0 else 7 := by
  unfold giveV useB; rw [if_pos (by omega), Int.toNat_natCast]; simp
theorem use_give {f : Nat → Int} {n j : Nat} (h : j < n) (i : Nat) : upd (useB f) j false i = useB (giveF f n j) i := by
  unfold giveF; rw [if_pos (by omega), Int.toNat_natCast]
  by_cases h1 : f j = 1
  · rw [if_pos h1]; unfold upd useB; by_cases e : i = j <;> simp [e, upd]
  · rw [if_neg h1]
    by_cases h2 : f j = 2
    · rw [if_pos h2]; unfold upd useB; by_cases e : i = j <;> simp [e, upd]
    · rw [if_neg h2]; unfold upd useB; by_cases e : i = j
      · subst e; simp [h1, h2]
      · simp [e]
theorem bnd_give {f : Nat → Int} {n j : Nat} (h : j < n) (i : Nat) : bndB f i = bndB (giveF f n j) i := by
  unfold giveF; rw [if_pos (by omega), Int.toNat_natCast]
  by_cases h1 : f j = 1
  · rw [if_pos h1]; unfold bndB; by_cases e : i = j
    · subst e; simp [upd, h1]
    · simp [upd, e]
  · rw [if_neg h1]
    by_cases h2 : f j = 2
    · rw [if_pos h2]; unfold bndB; by_cases e : i = j
      · subst e; simp [upd, h2]
      · simp [upd, e]
    · rw [if_neg h2]
theorem use_com (f : Nat → Int) (i : Nat) : useB f i = useB (comF f) i := by
  unfold useB comF
  by_cases h1 : f i = 1
  · simp [h1]
  · by_cases h3 : f i = 3
    · simp [h3]
    · simp [h1, h3]
theorem bnd_com (f : Nat → Int) (i : Nat) : useB f i = bndB (comF f) i := by
  unfold useB bndB comF
  by_cases h1 : f i = 1
  · simp [h1]
  · by_cases h3 : f i = 3
    · simp [h3]
    · have b1 : (f i == 1) = false := by rw [beq_eq_false_iff_ne]; exact h1
      have b3 : (f i == 3) = false := by rw [beq_eq_false_iff_ne]; exact h3
      simp [h1, h3, b1, b3]
theorem copy_step (u b : Nat → Bool) (z i : Nat) : upd (fun j => Value.bool (if j < z then u j else b j)) z (.bool (u z)) i = Value.bool (if i < z + 1 then u i else b i) := by
  show (if i = z then Value.bool (u z) else Value.bool (if i < z then u i else b i)) = Value.bool (if i < z + 1 then u i else b i)
  by_cases e : i = z
  · subst e; rw [if_pos rfl, if_pos (by omega)]
  · rw [if_neg e]; by_cases h : i < z
    · rw [if_pos h, if_pos (by omega)]
    · rw [if_neg h, if_neg (by omega)]
theorem used_len_succ (f : Nat → Int) (z : Nat) : (usedL f (z + 1)).length = (usedL f z).length + if useB f z = true then 1 else 0 := by
  rw [usedL_succ, List.length_append]; unfold useB; split <;> rfl
theorem SL.set_row {w : World} {P g n u : Nat} {f : Nat → Int} (h : SL w P g n f) (h1 : ¬ u = P) (h2 : ¬ u = g) {i : Nat} (v : Value) : SL (w.setCell ⟨u, i, none⟩ v) P g n f :=
  ⟨h.head.set_far h1 _, h.row.set_far h2 _, h.ne⟩
/-- What SlotsKeep keeps from round to round. -/
def KS (w w' : World) (P g bb bu n : Nat) (f : Nat → Int) : Prop := SL w' P g n f ∧ RowV w' bb n (fun j => .bool (bndB f j)) ∧ RowV w' bu n (fun j => .bool (useB f j)) ∧ Same w w'
end Go.Proofs.Yteommjbbjdbhkaa
