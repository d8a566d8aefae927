import Derived.Test.YtifkdjecdmmegaaAlarmD
import Derived.Test.YtifkdjecdmmegaaAlarmB
set_option linter.unusedSimpArgs false
set_option linter.unusedVariables false
namespace Go.Proofs.Ytifkdjecdmmegaa
open Go Go.RowKit
abbrev ptr (b : Nat) : Value := .pointer (some ⟨b, 0, none⟩)
/-- It hands back a pointer to a new block of these cells. -/
def NewBlk (w : World) (cs : Array Value) (e : Ending) (w' : World) : Prop := ∃ g, e = .returned (ptr g) ∧ w.heap.size ≤ g ∧ Blk w' g cs ∧ Same w w'
theorem new_good (wm fm bk : Int) (w : World) (hg : goodB wm fm bk = true) :
    Calls Try.prog 23 #[.agg #[.int .i64 wm, .int .i64 fm, .int .i64 bk]] w (NewBlk w (alc wm fm bk 0 0)) := by
  refine opq fun R HR => ?_
  have HG := Lib.hid hg
  clear hg
  go_enter Try.func23, Try.ntmps23
  go_wp2_with fail
  refine (good_any _ _ _ _).mono ?_
  rintro e w1 ⟨rfl, hb⟩
  rw [HG.out]
  have k := hb.cell (b := w.heap.size) (by simp) (fun q => q)
  have z := hb.size
  simp only [World.size_alloc] at z
  have M := ((Mod.refl (fun _ => False) w).alloc _).same hb
  clear hb
  go_wp2
  refine HR.out _ _ ⟨w1.heap.size, rfl, by omega, Blk.new _ _ _, M.alloc _⟩
theorem new_bad (wm fm bk : Int) (w : World) (hg : goodB wm fm bk = false) :
    Calls Try.prog 23 #[.agg #[.int .i64 wm, .int .i64 fm, .int .i64 bk]] w fun e w' => e = .returned (.pointer none) ∧ Same w w' := by
  refine opq fun R HR => ?_
  have HG := Lib.hid hg
  clear hg
  go_enter Try.func23, Try.ntmps23
  go_wp2_with fail
  refine (good_any _ _ _ _).mono ?_
  rintro e w1 ⟨rfl, hb⟩
  rw [HG.out]
  have M := ((Mod.refl (fun _ => False) w).alloc _).same hb
  clear hb
  go_wp2
  exact HR.out _ _ ⟨rfl, M⟩
theorem state_any (A : Nat) (wm fm bk st rg : Int) (w : World) (h : Blk w A (alc wm fm bk st rg)) :
    Calls Try.prog 28 #[ptr A] w fun e w' => e = .returned (.int .i64 st) ∧ w = w' := by
  refine opq fun R HR => ?_
  have hc := h.cell
  clear h
  go_enter Try.func28, Try.ntmps28
  go_wp2
  exact HR.out _ _ ⟨rfl, rfl⟩
theorem state_nil (w : World) : Calls Try.prog 28 #[.pointer none] w fun e w' => e = .returned (.int .i64 0) ∧ w = w' := by
  refine opq fun R HR => ?_
  go_enter Try.func28, Try.ntmps28
  go_wp2
  exact HR.out _ _ ⟨rfl, rfl⟩
theorem rung_any (A : Nat) (wm fm bk st rg : Int) (w : World) (h : Blk w A (alc wm fm bk st rg)) :
    Calls Try.prog 26 #[ptr A] w fun e w' => e = .returned (.int .i64 rg) ∧ w = w' := by
  refine opq fun R HR => ?_
  have hc := h.cell
  clear h
  go_enter Try.func26, Try.ntmps26
  go_wp2
  exact HR.out _ _ ⟨rfl, rfl⟩
theorem rung_nil (w : World) : Calls Try.prog 26 #[.pointer none] w fun e w' => e = .returned (.int .i64 0) ∧ w = w' := by
  refine opq fun R HR => ?_
  go_enter Try.func26, Try.ntmps26
  go_wp2
  exact HR.out _ _ ⟨rfl, rfl⟩
theorem tell_nil (u a : Int) (w : World) : Calls Try.prog 25 #[.pointer none, .int .i64 u, .int .i64 a] w fun e w' => e = .returned (.tuple #[.int .i64 0, .bool false]) ∧ w = w' := by
  refine opq fun R HR => ?_
  go_enter Try.func25, Try.ntmps25
  go_wp2
  exact HR.out _ _ ⟨rfl, rfl⟩
def clF (n : Int) : Int := min (max n 0) 2147483647
theorem cl_cases (n : Int) : (n < 0 ∧ clF n = 0) ∨ (0 ≤ n ∧ n ≤ 2147483647 ∧ clF n = n) ∨ (2147483647 < n ∧ clF n = 2147483647) := by unfold clF; omega
theorem cl_bd (n : Int) : 0 ≤ clF n ∧ clF n ≤ 2147483647 := by unfold clF; omega
theorem rat_any (u a m : Int) (w : World) (hm : 0 ≤ m ∧ m ≤ 100) :
    Calls Try.prog 43 #[.int .i64 u, .int .i64 a, .int .i64 m] w fun e w' => e = .returned (.bool (atF (clF u) (clF a) m)) ∧ w = w' := by
  refine opq fun R HR => ?_
  have hb := mul_bd m (clF a) hm (cl_bd a)
  rcases cl_cases u with ⟨u1, hu⟩ | ⟨u1, u2, hu⟩ | ⟨u1, hu⟩
  all_goals rcases cl_cases a with ⟨a1, ha⟩ | ⟨a1, a2, ha⟩ | ⟨a1, ha⟩
  all_goals
    rw [ha] at hb
    have HU := Lib.hid hu
    have HA := Lib.hid ha
    clear hu ha
    go_enter Try.func43, Try.ntmps43
    go_wp2
    exact HR.out _ _ ⟨retB (by rw [HU.out, HA.out]; unfold atF; first | rfl | (rw [decide_eq_decide]; omega) | (rw [eq_comm, decide_eq_true_eq]; omega) | (rw [eq_comm, decide_eq_false_iff_not]; omega)), rfl⟩
end Go.Proofs.Ytifkdjecdmmegaa
