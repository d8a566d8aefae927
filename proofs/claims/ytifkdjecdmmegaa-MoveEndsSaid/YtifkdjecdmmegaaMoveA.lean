import Derived.Test.YtifkdjecdmmegaaChecked
import Derived.WalkKit
import Derived.Outline
import Derived.WalkSpells
import Derived.WalkLawsBesides
import Derived.Lib.Hide
import Derived.Below
import Derived.Deep.RegionHeld3
namespace Go.Proofs.Ytifkdjecdmmegaa
open Go Go.RowKit
theorem keepc {B : Nat} {W w1 : World} (hb : Below B W w1) (g : Nat) (cs : Array Value) (h : ∀ i, W.cell? ⟨g, i, none⟩ = cs[i]?) (hg : g < B) : ∀ i, w1.cell? ⟨g, i, none⟩ = cs[i]? :=
  fun i => (hb.cell (p := ⟨g, i, none⟩) hg).trans (h i)
theorem keepf {B : Nat} {W w1 : World} (hb : Below B W w1) (g : Nat) (h : ∀ i, W.frozen? ⟨g, i, none⟩ = false) (hg : g < B) : ∀ i, w1.frozen? ⟨g, i, none⟩ = false :=
  fun i => (hb.frozen (p := ⟨g, i, none⟩) hg).trans (h i)
/-- Six ints. -/
abbrev mv (c ft fs tt ts p : Int) : Value := .agg #[.int .i64 c, .int .i64 ft, .int .i64 fs, .int .i64 tt, .int .i64 ts, .int .i64 p]
abbrev mvc (c ft fs tt ts p : Int) : Array Value := #[.int .i64 c, .int .i64 ft, .int .i64 fs, .int .i64 tt, .int .i64 ts, .int .i64 p]
abbrev sp (t s : Int) : Value := .agg #[.int .i64 t, .int .i64 s]
def stepsF (p : Int) : Int := if p < 1 then 0 else if 4 < p then 0 else 4 - p
def busyF (p : Int) : Bool := decide (1 ≤ p ∧ p ≤ 3)
def nextF (p : Int) : Int := if 1 ≤ p ∧ p ≤ 3 then p + 1 else p
def staleF (p : Int) : Int := if 1 ≤ p ∧ p ≤ 3 then 1 else p
theorem steps_any (c ft fs tt ts p : Int) (w : World) (hp : p ≤ 9223372036854775807) :
    Calls Try.prog 20 #[mv c ft fs tt ts p] w fun e w' => e = .returned (.int .i64 (stepsF p)) ∧ Below w.heap.size w w' := by
  by_cases h1 : p < 1
  · go_enter Try.func20, Try.ntmps20
    go_wp2
    go_ret
    exact ⟨by simp [stepsF, h1], (Below.refl _ _).alloc (Nat.le_refl _) _⟩
  · by_cases h2 : 4 < p
    · go_enter Try.func20, Try.ntmps20
      go_wp2
      all_goals (go_ret; exact ⟨by simp [stepsF, h2], (Below.refl _ _).alloc (Nat.le_refl _) _⟩)
    · go_enter Try.func20, Try.ntmps20
      go_wp2
      all_goals (go_ret; exact ⟨by simp [stepsF]; omega, (Below.refl _ _).alloc (Nat.le_refl _) _⟩)
theorem busy_any (c ft fs tt ts p : Int) (w : World) (hp : p ≤ 9223372036854775807) :
    Calls Try.prog 21 #[mv c ft fs tt ts p] w fun e w' => e = .returned (.bool (busyF p)) ∧ Below w.heap.size w w' := by
  go_enter Try.func21, Try.ntmps21
  go_wp2_with (go_at_call 20; refine (steps_any c ft fs tt ts p _ hp).mono ?_; rintro e w1 ⟨rfl, hb⟩)
  go_ret
  refine ⟨?_, ((Below.refl _ _).alloc (Nat.le_refl _) _).trans (hb.mono (by simp))⟩
  have : (decide (0 < stepsF p)) = busyF p := by
    unfold busyF stepsF; rw [decide_eq_decide]; split <;> (try split) <;> omega
  simp [this]
set_option maxHeartbeats 400000 in
theorem next_any (c ft fs tt ts p : Int) (w : World) (hp : p ≤ 9223372036854775807) :
    Calls Try.prog 18 #[mv c ft fs tt ts p] w fun e w' => e = .returned (mv c ft fs tt ts (nextF p)) ∧ Below w.heap.size w w' := by
  by_cases h1 : p < 1
  · have hn : nextF p = p := by simp [nextF]; omega
    go_enter Try.func18, Try.ntmps18
    go_wp2
    all_goals refine bodyPost_ret (v := mv c ft fs tt ts (nextF p)) (by simp [results, Try.results18, go_sem, hn]) rfl ⟨by rw [hn], ?_⟩
    all_goals repeat (first | exact Below.refl _ _ | refine Below.alloc ?_ (by simp <;> omega) _)
  · by_cases h2 : 4 < p
    · have hn : nextF p = p := by simp [nextF]; omega
      go_enter Try.func18, Try.ntmps18
      go_wp2
      all_goals refine bodyPost_ret (v := mv c ft fs tt ts (nextF p)) (by simp [results, Try.results18, go_sem, hn]) rfl ⟨by rw [hn], ?_⟩
      all_goals repeat (first | exact Below.refl _ _ | refine Below.alloc ?_ (by simp <;> omega) _)
    · by_cases h3 : p = 4
      · subst h3
        go_enter Try.func18, Try.ntmps18
        go_wp2
        all_goals refine bodyPost_ret (v := mv c ft fs tt ts (nextF 4)) (by simp [results, Try.results18, go_sem, nextF]) rfl ⟨rfl, ?_⟩
        all_goals repeat (first | exact Below.refl _ _ | refine Below.alloc ?_ (by simp <;> omega) _)
      · have hn : nextF p = p + 1 := by simp [nextF]; omega
        have h4 : p ≤ 3 := by omega
        clear h2 h3
        go_enter Try.func18, Try.ntmps18
        go_wp2
        all_goals refine bodyPost_ret (v := mv c ft fs tt ts (nextF p)) (by simp [results, Try.results18, go_sem, hn]) rfl ⟨by rw [hn], ?_⟩
        all_goals repeat (first | exact Below.refl _ _ | refine Below.alloc ?_ (by simp <;> omega) _)
set_option maxHeartbeats 400000 in
theorem stale_any (c ft fs tt ts p : Int) (w : World) (hp : p ≤ 9223372036854775807) :
    Calls Try.prog 19 #[mv c ft fs tt ts p] w fun e w' => e = .returned (mv c ft fs tt ts (staleF p)) ∧ Below w.heap.size w w' := by
  by_cases h1 : p < 1
  · have hn : staleF p = p := by simp [staleF]; omega
    go_enter Try.func19, Try.ntmps19
    go_wp2
    all_goals refine bodyPost_ret (v := mv c ft fs tt ts (staleF p)) (by simp [results, Try.results19, go_sem, hn]) rfl ⟨by rw [hn], ?_⟩
    all_goals repeat (first | exact Below.refl _ _ | refine Below.alloc ?_ (by simp <;> omega) _)
  · by_cases h2 : 4 < p
    · have hn : staleF p = p := by simp [staleF]; omega
      go_enter Try.func19, Try.ntmps19
      go_wp2
      all_goals refine bodyPost_ret (v := mv c ft fs tt ts (staleF p)) (by simp [results, Try.results19, go_sem, hn]) rfl ⟨by rw [hn], ?_⟩
      all_goals repeat (first | exact Below.refl _ _ | refine Below.alloc ?_ (by simp <;> omega) _)
    · by_cases h3 : p = 4
      · subst h3
        go_enter Try.func19, Try.ntmps19
        go_wp2
        all_goals refine bodyPost_ret (v := mv c ft fs tt ts (staleF 4)) (by simp [results, Try.results19, go_sem, staleF]) rfl ⟨rfl, ?_⟩
        all_goals repeat (first | exact Below.refl _ _ | refine Below.alloc ?_ (by simp <;> omega) _)
      · have hn : staleF p = 1 := by simp [staleF]; omega
        have h4 : p ≤ 3 := by omega
        clear h2 h3
        go_enter Try.func19, Try.ntmps19
        go_wp2
        all_goals refine bodyPost_ret (v := mv c ft fs tt ts (staleF p)) (by simp [results, Try.results19, go_sem, hn]) rfl ⟨by rw [hn], ?_⟩
        all_goals repeat (first | exact Below.refl _ _ | refine Below.alloc ?_ (by simp <;> omega) _)
def spotB (t s : Int) : Bool := decide ((t = 0 ∨ t = 1) ∧ 0 ≤ s ∧ s < 256)
def canB (c ft fs tt ts : Int) : Bool := decide (1 ≤ c ∧ c ≤ 1023 ∧ (ft = 0 ∧ tt = 1 ∨ ft = 1 ∧ tt = 0) ∧ 0 ≤ fs ∧ fs < 256 ∧ 0 ≤ ts ∧ ts < 256)
end Go.Proofs.Ytifkdjecdmmegaa
