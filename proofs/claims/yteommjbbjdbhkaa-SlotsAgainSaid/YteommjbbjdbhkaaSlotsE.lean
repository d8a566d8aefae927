import Derived.Test.YteommjbbjdbhkaaSlotsC
import Derived.Test.YteommjbbjdbhkaaSlotsD
set_option linter.unusedSimpArgs false
set_option linter.unusedVariables false
namespace Go.Proofs.Yteommjbbjdbhkaa
open Go Go.RowKit
def UsedPost (w : World) (f : Nat → Int) (n : Nat) (e : Ending) (w' : World) : Prop :=
  ∃ v, e = .returned v ∧ w'.ownsRow w.heap.size 3 1 v (usedL f n).length ((usedL f n).map fun i : Nat => Value.int .i64 (i : Int)) ∧ Same w w'
set_option maxHeartbeats 2000000 in
theorem used_any (P g n : Nat) (f : Nat → Int) (w : World) (h : SL w P g n f) (hn : n ≤ 1000) :
    Calls Try.prog 15 #[ptr P] w (UsedPost w f n) := by
  refine opq fun R HR => ?_
  have hc := h.head.cell
  have HRW := Lib.hid h.row
  clear h
  obtain ⟨i0, hi, hz0, hz1, hz2⟩ := info_parts info3
  have HI := Lib.hid hi
  have HZ0 := Lib.hid hz0
  have HZ1 := Lib.hid hz1
  have HZ2 := Lib.hid hz2
  clear hi hz0 hz1 hz2
  go_enter Try.func15, Try.ntmps15
  go_wp2_with fail
  clear hc
  go_loopw [12, 2, 3, 4] (fun i v _ _ wr => ∃ k : Nat, k ≤ n ∧ i = .int .i64 k ∧ wr.ownsRow w.heap.size 3 1 v (usedL f k).length ((usedL f k).map fun i : Nat => Value.int .i64 (i : Int)) ∧ Same w wr) (fun i _ _ _ _ => n - (intOf i).toNat)
  case atStart => exact ⟨0, by omega, rfl, World.ownsRow_nil _ _ _ _, Mod.refl _ _⟩
  case round =>
    obtain ⟨k, hk, rfl, hown, M⟩ := hrel
    by_cases hlt : k < n
    · have hck := (HRW.out.mod M (fun q => q)).cell k hlt
      have hus := usedL_succ f k
      have hle := usedL_le f k
      have hki : (k : Int) < (n : Int) := by omega
      have J1 := Lib.hid hown
      have J2 := Lib.hid M
      have hsz : w.heap.size ≤ wr.heap.size := M.size
      clear hown M
      by_cases hu : (f k == 1 || f k == 2) = true
      · rw [if_pos hu] at hus
        have HU := Lib.hid hus
        clear hus
        by_cases h1 : f k = 1
        · rw [h1] at hck
          clear hu h1
          go_wp2_with (at_builtin; refine wpList_append_own _ rfl (.tmp 23) (.tmp 25) 22 rfl w.heap.size 3 i0 (.int .i64 0) 1 8 Try.underlying22 HI.out HZ0.out HZ1.out HZ2.out rfl (by decide) _ _ _ rfl (J1.out.alloc _) ⟨wr.heap.size, 0, none⟩ 1 1 [.int .i64 (k : Int)] rfl rfl (one_new _ _ _) (fun u hu => (by simp at hu; subst hu; rfl)) (by unfold maxLen; omega) (by omega) (by simp only [World.size_alloc]; omega) ?_; intro v' w1 hown' hgrow _)
          have J3 := Lib.hid (same_append J2.out J1.out hgrow)
          have J4 := Lib.hid hown'
          clear hown' hgrow
          go_wp2
          go_roundw
          case rel => exact ⟨k + 1, by omega, by go_num, by rw [HU.out, List.length_append, List.map_append]; exact J4.out, J3.out⟩
          case measure => simp [intOf]; omega
        · have h2 : f k = 2 := by simp [h1] at hu; exact hu
          rw [h2] at hck
          clear hu h1 h2
          go_wp2_with (at_builtin; refine wpList_append_own _ rfl (.tmp 23) (.tmp 25) 22 rfl w.heap.size 3 i0 (.int .i64 0) 1 8 Try.underlying22 HI.out HZ0.out HZ1.out HZ2.out rfl (by decide) _ _ _ rfl (J1.out.alloc _) ⟨wr.heap.size, 0, none⟩ 1 1 [.int .i64 (k : Int)] rfl rfl (one_new _ _ _) (fun u hu => (by simp at hu; subst hu; rfl)) (by unfold maxLen; omega) (by omega) (by simp only [World.size_alloc]; omega) ?_; intro v' w1 hown' hgrow _)
          have J3 := Lib.hid (same_append J2.out J1.out hgrow)
          have J4 := Lib.hid hown'
          clear hown' hgrow
          go_wp2
          go_roundw
          case rel => exact ⟨k + 1, by omega, by go_num, by rw [HU.out, List.length_append, List.map_append]; exact J4.out, J3.out⟩
          case measure => simp [intOf]; omega
      · rw [if_neg hu, List.append_nil] at hus
        have HU := Lib.hid hus
        have b1 : (f k == 1) = false := by simp only [Bool.or_eq_true, not_or, Bool.not_eq_true] at hu; exact hu.1
        have b2 : (f k == 2) = false := by simp only [Bool.or_eq_true, not_or, Bool.not_eq_true] at hu; exact hu.2
        clear hus hu
        generalize f k = x at *
        go_wp2
        go_roundw
        case rel => exact ⟨k + 1, by omega, by go_num, by rw [HU.out]; exact J1.out, J2.out⟩
        case measure => simp [intOf]; omega
    · obtain rfl : k = n := by omega
      have J1 := Lib.hid hown
      have J2 := Lib.hid M
      clear hown M
      go_wp2
      exact HR.out _ _ ⟨_, rfl, J1.out, J2.out⟩
end Go.Proofs.Yteommjbbjdbhkaa
