import Derived.Test.YtifkdjecdmmegaaMoveB
namespace Go.Proofs.Ytifkdjecdmmegaa
open Go Go.RowKit
theorem Below.keeps {W w1 : World} (hb : Below W.heap.size W w1) : (∀ b o, b < W.heap.size → w1.cell? ⟨b, o, none⟩ = W.cell? ⟨b, o, none⟩) ∧ (∀ b o, b < W.heap.size → w1.frozen? ⟨b, o, none⟩ = W.frozen? ⟨b, o, none⟩) ∧ W.heap.size ≤ w1.heap.size :=
  ⟨fun b o h => hb.cell (p := ⟨b, o, none⟩) h, fun b o h => hb.frozen (p := ⟨b, o, none⟩) h, hb.size⟩
theorem bstep {w W w3 : World} (h1 : Below w.heap.size w W) (h2 : Below W.heap.size W w3) : Below w.heap.size w w3 := h1.trans (h2.mono h1.size)
theorem held2 {w W w3 : World} {a b : Nat} {ca cb : Array Value} (h : (∀ i, W.cell? ⟨a, i, none⟩ = ca[i]?) ∧ (∀ i, W.cell? ⟨b, i, none⟩ = cb[i]?) ∧ a < W.heap.size ∧ b < W.heap.size ∧ Below w.heap.size w W) (hb : Below W.heap.size W w3) :
    (∀ i, w3.cell? ⟨a, i, none⟩ = ca[i]?) ∧ (∀ i, w3.cell? ⟨b, i, none⟩ = cb[i]?) ∧ a < w3.heap.size ∧ b < w3.heap.size ∧ Below w.heap.size w w3 :=
  ⟨keepc hb a _ h.1 h.2.2.1, keepc hb b _ h.2.1 h.2.2.2.1, Nat.lt_of_lt_of_le h.2.2.1 hb.size, Nat.lt_of_lt_of_le h.2.2.2.1 hb.size, bstep h.2.2.2.2 hb⟩
set_option maxHeartbeats 2000000 in
theorem awake_any (w : World) : Calls Try.prog 12 #[] w fun e w' => e = .returned (.bool true) ∧ Below w.heap.size w w' := by
  refine opq fun R HR => ?_
  go_enter Try.func12, Try.ntmps12
  go_wp2_with fail
  refine (new_any _ _ _ _ _ _).mono ?_
  rintro e w1 ⟨rfl, hb1⟩
  rw [show newV 5 0 1 1 2 = #[mv 5 0 1 1 2 1, .int .i64 0] from by simp [newV, newB, spotB]]
  go_wp2_with fail
  refine (next_any _ _ _ _ _ _ _ (by omega)).mono ?_
  rintro e w2 ⟨rfl, hb2⟩
  have k2 := keepc hb2 w1.heap.size (mvc 5 0 1 1 2 1) (by intro i; simp [go_sem]) (by simp <;> omega)
  have f2 := keepf hb2 w1.heap.size (by intro i; simp [go_sem]) (by simp <;> omega)
  have z2 := hb2.size
  simp at z2
  rw [show nextF 1 = 2 from rfl]
  go_wp2_with fail
  obtain ⟨a, ha⟩ : ∃ a, a = w1.heap.size := ⟨_, rfl⟩
  obtain ⟨b, hbb⟩ : ∃ b, b = w2.heap.size := ⟨_, rfl⟩
  obtain ⟨W3, hW3⟩ : ∃ W3, W3 = w2.alloc (.cells (mvc 5 0 1 1 2 2) 25) := ⟨_, rfl⟩
  rw [← hW3, ← ha, ← hbb]
  rw [← ha] at k2 f2 z2
  have z1 := hb1.size
  have hw : w.heap.size ≤ a := by omega
  have k3 : ∀ i, W3.cell? ⟨a, i, none⟩ = (mvc 5 0 1 1 2 1)[i]? := by intro i; rw [hW3, World.cell?_alloc_past _ _ _ (by omega), k2]
  have k4 : ∀ i, W3.cell? ⟨b, i, none⟩ = (mvc 5 0 1 1 2 2)[i]? := by intro i; rw [hW3, hbb]; simp [go_sem]
  have hab : a < W3.heap.size ∧ b < W3.heap.size := by rw [hW3]; simp; omega
  have hB : Below w.heap.size w W3 := by
    rw [hW3]
    exact ((hb1.alloc (by omega) _).trans (hb2.mono (by simp; omega))).alloc (by simp at *; omega) _
  clear k2 f2 z2 hW3 hb2 hb1 ha hbb z1 hw
  obtain ⟨ha, hb⟩ := hab
  have e1 : stepsF 1 = 3 := rfl
  have e2 : staleF 2 = 1 := rfl
  have e3 : busyF 1 = true := rfl
  have e4 : nextF 2 = 3 := rfl
  have e5 : nextF 3 = 4 := rfl
  have e6 : stepsF 4 = 0 := rfl
  go_region_held3 (fun w' => (∀ i, w'.cell? ⟨a, i, none⟩ = (mvc 5 0 1 1 2 1)[i]?) ∧ (∀ i, w'.cell? ⟨b, i, none⟩ = (mvc 5 0 1 1 2 2)[i]?) ∧ a < w'.heap.size ∧ b < w'.heap.size ∧ Below w.heap.size w w') (first | assumption | exact ⟨by assumption, by assumption, by assumption, by assumption, hB.drew⟩ | go_keep) ((
    (first
    | (go_at_call 20; refine (steps_any _ _ _ _ _ _ _ (by omega)).mono ?_)
    | (go_at_call 21; refine (busy_any _ _ _ _ _ _ _ (by omega)).mono ?_)
    | (go_at_call 18; refine (next_any _ _ _ _ _ _ _ (by omega)).mono ?_)
    | (go_at_call 19; refine (stale_any _ _ _ _ _ _ _ (by omega)).mono ?_))
    rintro e w3 ⟨rfl, hb3⟩
    have q1 := held2 ‹_› hb3))
  obtain ⟨-, -, -, -, hfin⟩ := q1
  go_wp2
  exact HR.out _ _ ⟨rfl, hfin⟩
end Go.Proofs.Ytifkdjecdmmegaa
