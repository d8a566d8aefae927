import Derived.Test.YteommjbbjdbhkaaRankP
import Derived.Test.YteommjbbjdbhkaaShelf
set_option linter.unusedSimpArgs false
set_option linter.unusedVariables false
namespace Go.Proofs.Yteommjbbjdbhkaa
open Go Go.RowKit
theorem len_low (x : Nat) (h : x < 64) : (Lib.bitLen x : Int) = lev x := by
  have : ∀ y : Fin 64, (Lib.bitLen y.val : Int) = lev (y.val : Int) := by decide +kernel
  exact this ⟨x, h⟩
theorem aux_step (f x : Nat) (h : x ≠ 0) : Lib.bitLenAux (f + 1) x = 1 + Lib.bitLenAux f (x / 2) := by rw [Lib.bitLenAux, if_neg h]
theorem len_high (x : Nat) (h : 64 ≤ x) : 7 ≤ Lib.bitLen x := by
  show 7 ≤ Lib.bitLenAux 64 x
  rw [aux_step 63 x (by omega), aux_step 62 _ (by omega), aux_step 61 _ (by omega), aux_step 60 _ (by omega), aux_step 59 _ (by omega), aux_step 58 _ (by omega), aux_step 57 _ (by omega)]
  omega
theorem lev_min (h : Int) (hh : h ≤ 9223372036854775807) : min (Lib.bitLen (max h 0).toNat : Int) 7 = lev h := by
  rcases Int.lt_or_le h 0 with h0 | h0
  · have hm : max h 0 = 0 := by omega
    rw [hm]; unfold lev; rw [if_pos (by omega)]; rfl
  · have hm : max h 0 = h := by omega
    rw [hm]
    by_cases h64 : h < 64
    · have := len_low h.toNat (by omega)
      rw [this, show ((h.toNat : Nat) : Int) = h from by omega]
      have := lev_bd h; omega
    · have := len_high h.toNat (by omega)
      have hl : lev h = 7 := by unfold lev; repeat rw [if_neg (by omega)]
      rw [hl]; omega
theorem level_any (h : Int) (w : World) (hh : h ≤ 9223372036854775807) : Calls Try.prog 27 #[.int .i64 h] w fun e w' => e = .returned (.int .i64 (lev h)) ∧ w = w' := by
  refine opq fun R HR => ?_
  have hl := lev_min h hh
  have HL := Lib.hid (Try.bits_Len (max h 0) w (by omega) (by omega))
  have HE := Lib.hid hl
  clear hl
  generalize hm : max h 0 = m at *
  have hmb : 0 ≤ m ∧ m ≤ 9223372036854775807 := by omega
  go_enter Try.func27, Try.ntmps27
  go_wp2_with fail
  try rw [hm]
  clear hm
  refine HL.out.mono ?_
  generalize Lib.bitLen m.toNat = b at *
  rintro e w1 ⟨rfl, rfl⟩
  go_wp2
  exact HR.out _ _ ⟨retI HE.out, rfl⟩
theorem rlevel_any (h : Int) (w : World) (hh : h ≤ 9223372036854775807) : Calls Try.prog 28 #[.int .i64 h] w fun e w' => e = .returned (.int .i64 (lev h)) ∧ w = w' := by
  refine opq fun R HR => ?_
  have hc : (h < 1 ∧ lev h = 0) ∨ (1 ≤ h ∧ h < 2 ∧ lev h = 1) ∨ (2 ≤ h ∧ h < 4 ∧ lev h = 2) ∨ (4 ≤ h ∧ h < 8 ∧ lev h = 3) ∨ (8 ≤ h ∧ h < 16 ∧ lev h = 4) ∨ (16 ≤ h ∧ h < 32 ∧ lev h = 5) ∨ (32 ≤ h ∧ h < 64 ∧ lev h = 6) ∨ (64 ≤ h ∧ lev h = 7) := by
    unfold lev; repeat' split <;> omega
  rcases hc with ⟨h1, e⟩ | ⟨h0, h1, e⟩ | ⟨h0, h1, e⟩ | ⟨h0, h1, e⟩ | ⟨h0, h1, e⟩ | ⟨h0, h1, e⟩ | ⟨h0, h1, e⟩ | ⟨h0, e⟩
  all_goals
    rw [e] at HR
    clear e
    go_enter Try.func28, Try.ntmps28
    go_wp2_with fail
    go_rounds 8
    exact HR.out _ _ ⟨rfl, rfl⟩
end Go.Proofs.Yteommjbbjdbhkaa
