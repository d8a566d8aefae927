import Derived.Test.YtifkdjecdmmegaaMoveD
namespace Go.Proofs.Ytifkdjecdmmegaa
open Go Go.RowKit
theorem held3 {D : Nat} {w W w3 : World} {a b d : Nat} {ca cb cd : Array Value} (h : (∀ i, W.cell? ⟨a, i, none⟩ = ca[i]?) ∧ (∀ i, W.cell? ⟨b, i, none⟩ = cb[i]?) ∧ (∀ i, W.cell? ⟨d, i, none⟩ = cd[i]?) ∧ a < W.heap.size ∧ b < W.heap.size ∧ d < W.heap.size ∧ D ≤ W.heap.size ∧ Below D w W) (hb : Below W.heap.size W w3) :
    (∀ i, w3.cell? ⟨a, i, none⟩ = ca[i]?) ∧ (∀ i, w3.cell? ⟨b, i, none⟩ = cb[i]?) ∧ (∀ i, w3.cell? ⟨d, i, none⟩ = cd[i]?) ∧ a < w3.heap.size ∧ b < w3.heap.size ∧ d < w3.heap.size ∧ D ≤ w3.heap.size ∧ Below D w w3 :=
  ⟨keepc hb a _ h.1 h.2.2.2.1, keepc hb b _ h.2.1 h.2.2.2.2.1, keepc hb d _ h.2.2.1 h.2.2.2.2.2.1, Nat.lt_of_lt_of_le h.2.2.2.1 hb.size, Nat.lt_of_lt_of_le h.2.2.2.2.1 hb.size, Nat.lt_of_lt_of_le h.2.2.2.2.2.1 hb.size, Nat.le_trans h.2.2.2.2.2.2.1 hb.size, h.2.2.2.2.2.2.2.trans (hb.mono h.2.2.2.2.2.2.1)⟩
theorem retI {b b' : Int} (h : b = b') : Ending.returned (.int .i64 b) = .returned (.int .i64 b') := by rw [h]
theorem rnext_any (p : Int) (w : World) (hp : p ≤ 9223372036854775807) : Calls Try.prog 15 #[.int .i64 p] w fun e w' => e = .returned (.int .i64 (nextF p)) ∧ w = w' := by
  refine opq fun R HR => ?_
  go_enter Try.func15, Try.ntmps15
  go_wp2
  all_goals (first | go_ret | skip)
  all_goals refine HR.out _ _ ⟨retI (?_ : _ = nextF _), rfl⟩
  all_goals (clear HR; unfold nextF; split <;> omega)
theorem rstale_any (p : Int) (w : World) (hp : p ≤ 9223372036854775807) : Calls Try.prog 16 #[.int .i64 p] w fun e w' => e = .returned (.int .i64 (staleF p)) ∧ w = w' := by
  refine opq fun R HR => ?_
  go_enter Try.func16, Try.ntmps16
  go_wp2
  all_goals (first | go_ret | skip)
  all_goals refine HR.out _ _ ⟨retI (?_ : _ = staleF _), rfl⟩
  all_goals (clear HR; unfold staleF; split <;> (first | omega | (simp at *; omega)))
theorem rsteps_any (p : Int) (w : World) (hp : p ≤ 9223372036854775807) : Calls Try.prog 17 #[.int .i64 p] w fun e w' => e = .returned (.int .i64 (stepsF p)) ∧ w = w' := by
  refine opq fun R HR => ?_
  go_enter Try.func17, Try.ntmps17
  go_wp2
  all_goals (first | go_ret | skip)
  all_goals refine HR.out _ _ ⟨retI (?_ : _ = stepsF _), rfl⟩
  all_goals (clear HR; unfold stepsF; split <;> (try split) <;> omega)
/-- The rest of MoveExact: the last statement (a region that draws its order). -/
theorem busy_steps (p : Int) : busyF p = decide (0 < stepsF p) := by unfold busyF stepsF; rw [decide_eq_decide]; split <;> (try split) <;> omega
set_option maxHeartbeats 4000000 in
theorem moveExact_walk (c ft fs tt ts p : Int) (w : World) (hp : p ≤ 9223372036854775807) (b1 : -9223372036854775808 ≤ ft ∧ ft ≤ 9223372036854775807) (b2 : -9223372036854775808 ≤ tt ∧ tt ≤ 9223372036854775807) :
    Calls Try.prog 3 #[mv c ft fs tt ts p] w fun e w' => e = .returned (.bool true) ∧ Below w.heap.size w w' := by
  refine opq fun R HR => ?_
  have hbs := busy_steps p
  generalize hS : stepsF p = S at *
  generalize hN : nextF p = N at *
  generalize hT : staleF p = T at *
  rcases hn : newB c ft fs tt ts with _ | _
  all_goals
    first
    | have hv : newV c ft fs tt ts = #[mv 0 0 0 0 0 0, .int .i64 1] := by simp [newV, hn]
      have HQ := Lib.hid (show ∃ q, q = mvc 0 0 0 0 0 0 from ⟨_, rfl⟩)
    | have hv : newV c ft fs tt ts = #[mv c ft fs tt ts 1, .int .i64 0] := by simp [newV, hn]
      have HQ := Lib.hid (show ∃ q, q = mvc c ft fs tt ts 1 from ⟨_, rfl⟩)
    have HN := Lib.hid hn
    have HV := Lib.hid hv
    have HS := Lib.hid hS
    have HNx := Lib.hid hN
    have HT := Lib.hid hT
    have HBS := Lib.hid hbs
    clear hn hv hS hN hT hbs
    go_enter Try.func3, Try.ntmps3
    go_wp2_with fail
    refine (awake_any _).mono ?_
    rintro e w1 ⟨rfl, hb⟩
    have k1 := keepc hb w.heap.size (mvc c ft fs tt ts p) (by intro i; simp [go_sem]) (by simp <;> omega)
    have y1 : w.heap.size < w1.heap.size := by have := hb.size; simp at this; omega
    have B : Below w.heap.size w w1 := ((Below.refl _ _).alloc (Nat.le_refl _) _).trans (hb.mono (by simp))
    clear hb
    go_wp2_with fail
    refine (new_any _ _ _ _ _ _).mono ?_
    rintro e w2 ⟨rfl, hb⟩
    rw [HV.out]
    replace k1 := keepc hb _ _ k1 y1
    replace y1 := Nat.lt_of_lt_of_le y1 hb.size
    replace B := bstep B hb
    clear hb
    go_wp2_with fail
    refine (can_any _ _ _ _ _ _ b1 b2).mono ?_
    rintro e w3 ⟨rfl, hb⟩
    rw [HN.out]
    have k2 := keepc hb w2.heap.size _ (fun i => World.cell?_alloc_new _ _ _ _) (by simp <;> omega)
    replace k1 := keepc hb w.heap.size (mvc c ft fs tt ts p) (by intro i; simp [go_sem, k1, y1]) (by simp <;> omega)
    replace y1 : w.heap.size < w3.heap.size := by have := hb.size; simp at this; omega
    have y2 : w2.heap.size < w3.heap.size := by have := hb.size; simp at this; omega
    replace B := bstep (B.alloc B.size _) hb
    clear hb
    go_wp2_with fail
    refine (rnext_any _ _ hp).mono ?_
    rintro e w' ⟨rfl, rfl⟩
    rw [HNx.out]
    go_wp2_with fail
    refine (rstale_any _ _ hp).mono ?_
    rintro e w' ⟨rfl, rfl⟩
    rw [HT.out]
    go_wp2_with fail
    refine (rsteps_any _ _ hp).mono ?_
    rintro e w' ⟨rfl, rfl⟩
    rw [HS.out]
    go_wp2_with fail
    generalize hW : (w3.alloc _).alloc _ = W
    have k3 : ∀ i, W.cell? ⟨w3.heap.size, i, none⟩ = (mvc c ft fs tt ts N)[i]? := by intro i; rw [← hW]; simp [go_sem]
    have k4 : ∀ i, W.cell? ⟨w3.heap.size+1, i, none⟩ = (mvc c ft fs tt ts T)[i]? := by intro i; rw [← hW]; simp [go_sem]
    replace k1 : ∀ i, W.cell? ⟨w.heap.size, i, none⟩ = (mvc c ft fs tt ts p)[i]? := by intro i; rw [← hW]; simp [go_sem, k1, y1]
    have y3 : w3.heap.size < W.heap.size ∧ w3.heap.size + 1 < W.heap.size ∧ w.heap.size < W.heap.size := by rw [← hW]; simp; omega
    replace B : Below w.heap.size w W := by rw [← hW]; exact (B.alloc B.size _).alloc (by have := B.size; simp; omega) _
    generalize w3.heap.size = a at *
    obtain ⟨ya, yb, yc⟩ := y3
    clear y1 y2 k2 hW
    generalize hb1 : a + 1 = b at *
    generalize hc1 : w.heap.size = d at *
    clear hb1
    clear hc1
    have e1 := HNx.out
    have e2 := HT.out
    have e3 := HBS.out
    have e4 := HS.out
    go_region_held3 (fun w' => (∀ i, w'.cell? ⟨a, i, none⟩ = (mvc c ft fs tt ts N)[i]?) ∧ (∀ i, w'.cell? ⟨b, i, none⟩ = (mvc c ft fs tt ts T)[i]?) ∧ (∀ i, w'.cell? ⟨d, i, none⟩ = (mvc c ft fs tt ts p)[i]?) ∧ a < w'.heap.size ∧ b < w'.heap.size ∧ d < w'.heap.size ∧ d ≤ w'.heap.size ∧ Below d w w') (first | assumption | exact ⟨by assumption, by assumption, by assumption, by assumption, by assumption, by assumption, Nat.le_of_lt yc, B.drew⟩ | go_keep) ((
      (first
      | (go_at_call 20; refine (steps_any _ _ _ _ _ _ _ hp).mono ?_)
      | (go_at_call 21; refine (busy_any _ _ _ _ _ _ _ hp).mono ?_)
      | (go_at_call 18; refine (next_any _ _ _ _ _ _ _ hp).mono ?_)
      | (go_at_call 19; refine (stale_any _ _ _ _ _ _ _ hp).mono ?_))
      rintro e w3 ⟨rfl, hb3⟩
      have q1 := held3 ‹_› hb3))
    obtain ⟨-, -, -, -, -, -, -, hfin⟩ := q1
    go_wp2
    exact HR.out _ _ ⟨rfl, hfin⟩
end Go.Proofs.Ytifkdjecdmmegaa
