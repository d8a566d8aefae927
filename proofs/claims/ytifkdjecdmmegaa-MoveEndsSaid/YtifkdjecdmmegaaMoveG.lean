import Derived.Test.YtifkdjecdmmegaaMoveE
set_option linter.unusedSimpArgs false
set_option linter.unusedVariables false
namespace Go.Proofs.Ytifkdjecdmmegaa
open Go Go.RowKit
theorem u64wrap_nonneg (n : Int) : 0 ≤ IntKind.u64.wrap n ∧ IntKind.u64.wrap n ≤ 18446744073709551615 := by
  unfold IntKind.wrap; simp [IntKind.bits, IntKind.signed]; omega
theorem utmod (n k : Int) (hk : 0 < k) (hk2 : k ≤ 9223372036854775807) : 0 ≤ wrap64 ((IntKind.u64.wrap n).tmod k) ∧ wrap64 ((IntKind.u64.wrap n).tmod k) < k := by
  have h := u64wrap_nonneg n
  rw [Int.tmod_eq_emod_of_nonneg h.1]
  have h1 := Int.emod_nonneg (IntKind.u64.wrap n) (by omega : k ≠ 0)
  have h2 := Int.emod_lt_of_pos (IntKind.u64.wrap n) hk
  unfold wrap64; omega
theorem stepsF_le (p : Int) (h : 1 ≤ p) : stepsF p ≤ 3 := by unfold stepsF; split <;> (try split) <;> omega
set_option maxHeartbeats 4000000 in
theorem moveEnds_walk (a : Option Addr) (len cap : Nat) (chunk : Int) (w : World) (hl : len ≤ 9223372036854775807) (hch : -9223372036854775808 ≤ chunk ∧ chunk ≤ 9223372036854775807)
    (h : 0 < len → ∃ b o, a = some ⟨b, o, none⟩ ∧ b < w.heap.size ∧ ∀ i, i < len → ∃ x, w.cell? ⟨b, o + i, none⟩ = some (.bool x)) :
    Calls Try.prog 4 #[.slice a len cap, .int .i64 chunk] w fun e w' => e = .returned (.bool true) ∧ Below w.heap.size w w' := by
  refine opq fun R HR => ?_
  by_cases hlen : 100 < len
  · go_enter Try.func4, Try.ntmps4
    go_wp2_with fail
    refine (awake_any _).mono ?_
    rintro e w1 ⟨rfl, hb⟩
    go_wp2
    all_goals (first | go_ret | skip)
    exact HR.out _ _ ⟨rfl, hb⟩
  · go_enter Try.func4, Try.ntmps4
    go_wp2_with fail
    refine (awake_any _).mono ?_
    rintro e w1 ⟨rfl, B⟩
    go_wp2_with fail
    have hu := utmod chunk 1023 (by omega) (by omega)
    have hc1 : wrap64 (1 + wrap64 ((IntKind.u64.wrap chunk).tmod 1023)) = 1 + wrap64 ((IntKind.u64.wrap chunk).tmod 1023) := by
      unfold wrap64 at *; omega
    rw [hc1]
    generalize wrap64 ((IntKind.u64.wrap chunk).tmod 1023) = m at *
    clear hc1
    generalize hch' : (1 + m) = ch
    have hc2 : 1 ≤ ch ∧ ch ≤ 1023 := by omega
    clear hch'
    refine (new_any _ _ _ _ _ _).mono ?_
    rintro e w2 ⟨rfl, hb⟩
    rw [show newV ch 1 0 0 0 = #[mv ch 1 0 0 0 1, .int .i64 0] from by simp [newV, newB, spotB, hc2]]
    replace B := bstep B hb
    clear hb
    clear hu
    go_wp2_with fail
    generalize hW : w2.alloc _ = W
    generalize hA : w2.heap.size = A at *
    have k1 : ∀ i, W.cell? ⟨A, i, none⟩ = (mvc ch 1 0 0 0 1)[i]? := by intro i; rw [← hW, ← hA]; simp [go_sem]
    have f1 : ∀ i, W.frozen? ⟨A, i, none⟩ = false := by intro i; rw [← hW, ← hA]; simp [go_sem]
    have y1 : A < W.heap.size := by rw [← hW, ← hA]; simp
    have yA : w.heap.size ≤ A := by rw [← hA]; exact B.size
    replace B : Below w.heap.size w W := by rw [← hW]; exact B.alloc B.size _
    clear hW hA
    go_loopw [7, 8] (fun row i wr => ∃ (p : Int) (k r : Nat), k ≤ len ∧ i = .int .i64 k ∧ row = .int .i64 r ∧ r ≤ k ∧ 1 ≤ p ∧ p ≤ 4 ∧ (p ≤ 3 → (r : Int) = p - 1) ∧ (∀ i, wr.cell? ⟨A, i, none⟩ = (mvc ch 1 0 0 0 p)[i]?) ∧ (∀ i, wr.frozen? ⟨A, i, none⟩ = false) ∧ A < wr.heap.size ∧ Below w.heap.size w wr) (fun _ i _ => len - (intOf i).toNat)
    case atStart => exact ⟨1, 0, 0, by omega, rfl, rfl, by omega, by omega, by omega, by omega, k1, f1, y1, B⟩
    case round =>
      clear k1 f1 y1 B
      obtain ⟨p, k, r, hk, rfl, rfl, hr, hp1, hp4, hpr, k1, f1, y1, B⟩ := hrel
      by_cases hlt : k < len
      · obtain ⟨b, o, rfl, hbw, hcell⟩ := h (by omega)
        obtain ⟨x, hx⟩ := hcell k hlt
        have hx2 : wr.cell? ⟨b, o + k, none⟩ = some (.bool x) := by rw [B.cell (p := ⟨b, o+k, none⟩) hbw]; exact hx
        have hbr : b < wr.heap.size := Nat.lt_of_lt_of_le hbw B.size
        have hbA : b ≠ A := by omega
        have hAb : A ≠ b := by omega
        clear hcell hx h
        have hCA : A ≠ wr.heap.size := by omega
        have hAC : wr.heap.size ≠ A := by omega
        have hp : (p = 1 ∧ r = 0) ∨ (p = 2 ∧ r = 1) ∨ (p = 3 ∧ r = 2) ∨ p = 4 := by omega
        clear hpr hp1 hp4
        rcases hp with ⟨rfl, rfl⟩ | ⟨rfl, rfl⟩ | ⟨rfl, rfl⟩ | rfl
        · cases x
          · go_wp2_with fail
            refine (stale_any _ _ _ _ _ _ _ (by omega)).mono ?_
            rintro e w3 ⟨rfl, hb⟩
            have z := hb.size
            try simp only [World.size_alloc, World.size_setCell] at z
            have k1' := keepc hb A (mvc ch 1 0 0 0 1) (by intro i; simp [go_sem, k1, f1, y1]) (by first | omega | (simp <;> omega))
            have f1' := keepf hb A (by intro i; simp [go_sem, k1, f1, y1]) (by first | omega | (simp <;> omega))
            have y1' : A < w3.heap.size := by omega
            have k2' := keepc hb wr.heap.size (mvc ch 1 0 0 0 1) (by intro i; simp [go_sem, k1, f1, y1]) (by first | omega | (simp <;> omega))
            have f2' := keepf hb wr.heap.size (by intro i; simp [go_sem, k1, f1, y1]) (by first | omega | (simp <;> omega))
            have y2' : wr.heap.size < w3.heap.size := by omega
            have B' := (B.alloc B.size _).trans (hb.mono (by first | omega | (simp <;> omega)))
            clear hb z B k1 f1 y1
            have k1 := k1'; have f1 := f1'; have y1 := y1'; clear k1' f1' y1'
            have k2 := k2'; have f2 := f2'; have y2 := y2'; clear k2' f2' y2'
            have B := B'; clear B'
            rw [show staleF 1 = 1 from rfl]
            go_wp2_with fail
            refine (busy_any _ _ _ _ _ _ _ (by omega)).mono ?_
            rintro e w4 ⟨rfl, hb⟩
            have z := hb.size
            try simp only [World.size_alloc, World.size_setCell] at z
            have k1' := keepc hb A (mvc ch 1 0 0 0 1) (by intro i; rcases i with _|_|_|_|_|_|i <;> simp [go_sem, k1, f1, y1, k2, f2, y2, hCA, hAC]) (by first | omega | (simp <;> omega))
            have f1' := keepf hb A (by intro i; simp [go_sem, k1, f1, y1, k2, f2, y2, hCA, hAC]) (by first | omega | (simp <;> omega))
            have y1' : A < w4.heap.size := by omega
            have k2' := keepc hb wr.heap.size (mvc ch 1 0 0 0 1) (by intro i; rcases i with _|_|_|_|_|_|i <;> simp [go_sem, k1, f1, y1, k2, f2, y2, hCA, hAC]) (by first | omega | (simp <;> omega))
            have f2' := keepf hb wr.heap.size (by intro i; simp [go_sem, k1, f1, y1, k2, f2, y2, hCA, hAC]) (by first | omega | (simp <;> omega))
            have y2' : wr.heap.size < w4.heap.size := by omega
            have B' := ((((((B.setCell yA _).setCell yA _).setCell yA _).setCell yA _).setCell yA _).setCell yA _).trans (hb.mono (by first | omega | (simp <;> omega)))
            clear hb z B k1 f1 y1 k2 f2 y2
            have k1 := k1'; have f1 := f1'; have y1 := y1'; clear k1' f1' y1'
            have k2 := k2'; have f2 := f2'; have y2 := y2'; clear k2' f2' y2'
            have B := B'; clear B'
            rw [show busyF 1 = true from rfl]
            have e1 : busyF 1 = true := rfl
            have e2 : busyF 2 = true := rfl
            have e3 : busyF 3 = true := rfl
            have e4 : busyF 4 = false := rfl
            have s1 : stepsF 1 = 3 := rfl
            have s4 : stepsF 4 = 0 := rfl
            go_wp2_with (first | (go_at_call 21; refine (busy_any _ _ _ _ _ _ _ (by omega)).mono ?_; rintro e w5 ⟨rfl, hb⟩; replace k1 := keepc hb _ _ k1 y1; replace f1 := keepf hb _ f1 y1; replace k2 := keepc hb _ _ k2 y2; replace f2 := keepf hb _ f2 y2; replace y1 := Nat.lt_of_lt_of_le y1 hb.size; replace y2 := Nat.lt_of_lt_of_le y2 hb.size; replace B := bstep B hb; clear hb) | (go_at_call 20; refine (steps_any _ _ _ _ _ _ _ (by omega)).mono ?_; rintro e w5 ⟨rfl, hb⟩; replace k1 := keepc hb _ _ k1 y1; replace f1 := keepf hb _ f1 y1; replace k2 := keepc hb _ _ k2 y2; replace f2 := keepf hb _ f2 y2; replace y1 := Nat.lt_of_lt_of_le y1 hb.size; replace y2 := Nat.lt_of_lt_of_le y2 hb.size; replace B := bstep B hb; clear hb))
            all_goals exact ⟨⟨1, k+1, 0, by omega, by simp, by simp, by omega, by omega, by omega, by omega, k1, f1, y1, B⟩, by simp [intOf]; omega⟩
          · go_wp2_with fail
            refine (next_any _ _ _ _ _ _ _ (by omega)).mono ?_
            rintro e w3 ⟨rfl, hb⟩
            have z := hb.size
            try simp only [World.size_alloc, World.size_setCell] at z
            have k1' := keepc hb A (mvc ch 1 0 0 0 1) (by intro i; simp [go_sem, k1, f1, y1]) (by first | omega | (simp <;> omega))
            have f1' := keepf hb A (by intro i; simp [go_sem, k1, f1, y1]) (by first | omega | (simp <;> omega))
            have y1' : A < w3.heap.size := by omega
            have k2' := keepc hb wr.heap.size (mvc ch 1 0 0 0 1) (by intro i; simp [go_sem, k1, f1, y1]) (by first | omega | (simp <;> omega))
            have f2' := keepf hb wr.heap.size (by intro i; simp [go_sem, k1, f1, y1]) (by first | omega | (simp <;> omega))
            have y2' : wr.heap.size < w3.heap.size := by omega
            have B' := (B.alloc B.size _).trans (hb.mono (by first | omega | (simp <;> omega)))
            clear hb z B k1 f1 y1
            have k1 := k1'; have f1 := f1'; have y1 := y1'; clear k1' f1' y1'
            have k2 := k2'; have f2 := f2'; have y2 := y2'; clear k2' f2' y2'
            have B := B'; clear B'
            rw [show nextF 1 = 2 from rfl]
            go_wp2_with fail
            refine (steps_any _ _ _ _ _ _ _ (by omega)).mono ?_
            rintro e w4 ⟨rfl, hb⟩
            have z := hb.size
            try simp only [World.size_alloc, World.size_setCell] at z
            have k1' := keepc hb A (mvc ch 1 0 0 0 2) (by intro i; rcases i with _|_|_|_|_|_|i <;> simp [go_sem, k1, f1, y1, k2, f2, y2, hCA, hAC]) (by first | omega | (simp <;> omega))
            have f1' := keepf hb A (by intro i; simp [go_sem, k1, f1, y1, k2, f2, y2, hCA, hAC]) (by first | omega | (simp <;> omega))
            have y1' : A < w4.heap.size := by omega
            have k2' := keepc hb wr.heap.size (mvc ch 1 0 0 0 1) (by intro i; rcases i with _|_|_|_|_|_|i <;> simp [go_sem, k1, f1, y1, k2, f2, y2, hCA, hAC]) (by first | omega | (simp <;> omega))
            have f2' := keepf hb wr.heap.size (by intro i; simp [go_sem, k1, f1, y1, k2, f2, y2, hCA, hAC]) (by first | omega | (simp <;> omega))
            have y2' : wr.heap.size < w4.heap.size := by omega
            have B' := ((((((B.setCell yA _).setCell yA _).setCell yA _).setCell yA _).setCell yA _).setCell yA _).trans (hb.mono (by first | omega | (simp <;> omega)))
            clear hb z B k1 f1 y1 k2 f2 y2
            have k1 := k1'; have f1 := f1'; have y1 := y1'; clear k1' f1' y1'
            have k2 := k2'; have f2 := f2'; have y2 := y2'; clear k2' f2' y2'
            have B := B'; clear B'
            rw [show stepsF 2 = 2 from rfl]
            have e1 : busyF 1 = true := rfl
            have e2 : busyF 2 = true := rfl
            have e3 : busyF 3 = true := rfl
            have e4 : busyF 4 = false := rfl
            have s1 : stepsF 1 = 3 := rfl
            have s4 : stepsF 4 = 0 := rfl
            go_wp2_with (first | (go_at_call 21; refine (busy_any _ _ _ _ _ _ _ (by omega)).mono ?_; rintro e w5 ⟨rfl, hb⟩; replace k1 := keepc hb _ _ k1 y1; replace f1 := keepf hb _ f1 y1; replace k2 := keepc hb _ _ k2 y2; replace f2 := keepf hb _ f2 y2; replace y1 := Nat.lt_of_lt_of_le y1 hb.size; replace y2 := Nat.lt_of_lt_of_le y2 hb.size; replace B := bstep B hb; clear hb) | (go_at_call 20; refine (steps_any _ _ _ _ _ _ _ (by omega)).mono ?_; rintro e w5 ⟨rfl, hb⟩; replace k1 := keepc hb _ _ k1 y1; replace f1 := keepf hb _ f1 y1; replace k2 := keepc hb _ _ k2 y2; replace f2 := keepf hb _ f2 y2; replace y1 := Nat.lt_of_lt_of_le y1 hb.size; replace y2 := Nat.lt_of_lt_of_le y2 hb.size; replace B := bstep B hb; clear hb))
            all_goals exact ⟨⟨2, k+1, 1, by omega, by simp, by simp, by omega, by omega, by omega, by omega, k1, f1, y1, B⟩, by simp [intOf]; omega⟩
        · cases x
          · go_wp2_with fail
            refine (stale_any _ _ _ _ _ _ _ (by omega)).mono ?_
            rintro e w3 ⟨rfl, hb⟩
            have z := hb.size
            try simp only [World.size_alloc, World.size_setCell] at z
            have k1' := keepc hb A (mvc ch 1 0 0 0 2) (by intro i; simp [go_sem, k1, f1, y1]) (by first | omega | (simp <;> omega))
            have f1' := keepf hb A (by intro i; simp [go_sem, k1, f1, y1]) (by first | omega | (simp <;> omega))
            have y1' : A < w3.heap.size := by omega
            have k2' := keepc hb wr.heap.size (mvc ch 1 0 0 0 2) (by intro i; simp [go_sem, k1, f1, y1]) (by first | omega | (simp <;> omega))
            have f2' := keepf hb wr.heap.size (by intro i; simp [go_sem, k1, f1, y1]) (by first | omega | (simp <;> omega))
            have y2' : wr.heap.size < w3.heap.size := by omega
            have B' := (B.alloc B.size _).trans (hb.mono (by first | omega | (simp <;> omega)))
            clear hb z B k1 f1 y1
            have k1 := k1'; have f1 := f1'; have y1 := y1'; clear k1' f1' y1'
            have k2 := k2'; have f2 := f2'; have y2 := y2'; clear k2' f2' y2'
            have B := B'; clear B'
            rw [show staleF 2 = 1 from rfl]
            go_wp2_with fail
            refine (busy_any _ _ _ _ _ _ _ (by omega)).mono ?_
            rintro e w4 ⟨rfl, hb⟩
            have z := hb.size
            try simp only [World.size_alloc, World.size_setCell] at z
            have k1' := keepc hb A (mvc ch 1 0 0 0 1) (by intro i; rcases i with _|_|_|_|_|_|i <;> simp [go_sem, k1, f1, y1, k2, f2, y2, hCA, hAC]) (by first | omega | (simp <;> omega))
            have f1' := keepf hb A (by intro i; simp [go_sem, k1, f1, y1, k2, f2, y2, hCA, hAC]) (by first | omega | (simp <;> omega))
            have y1' : A < w4.heap.size := by omega
            have k2' := keepc hb wr.heap.size (mvc ch 1 0 0 0 2) (by intro i; rcases i with _|_|_|_|_|_|i <;> simp [go_sem, k1, f1, y1, k2, f2, y2, hCA, hAC]) (by first | omega | (simp <;> omega))
            have f2' := keepf hb wr.heap.size (by intro i; simp [go_sem, k1, f1, y1, k2, f2, y2, hCA, hAC]) (by first | omega | (simp <;> omega))
            have y2' : wr.heap.size < w4.heap.size := by omega
            have B' := ((((((B.setCell yA _).setCell yA _).setCell yA _).setCell yA _).setCell yA _).setCell yA _).trans (hb.mono (by first | omega | (simp <;> omega)))
            clear hb z B k1 f1 y1 k2 f2 y2
            have k1 := k1'; have f1 := f1'; have y1 := y1'; clear k1' f1' y1'
            have k2 := k2'; have f2 := f2'; have y2 := y2'; clear k2' f2' y2'
            have B := B'; clear B'
            rw [show busyF 2 = true from rfl]
            have e1 : busyF 1 = true := rfl
            have e2 : busyF 2 = true := rfl
            have e3 : busyF 3 = true := rfl
            have e4 : busyF 4 = false := rfl
            have s1 : stepsF 1 = 3 := rfl
            have s4 : stepsF 4 = 0 := rfl
            go_wp2_with (first | (go_at_call 21; refine (busy_any _ _ _ _ _ _ _ (by omega)).mono ?_; rintro e w5 ⟨rfl, hb⟩; replace k1 := keepc hb _ _ k1 y1; replace f1 := keepf hb _ f1 y1; replace k2 := keepc hb _ _ k2 y2; replace f2 := keepf hb _ f2 y2; replace y1 := Nat.lt_of_lt_of_le y1 hb.size; replace y2 := Nat.lt_of_lt_of_le y2 hb.size; replace B := bstep B hb; clear hb) | (go_at_call 20; refine (steps_any _ _ _ _ _ _ _ (by omega)).mono ?_; rintro e w5 ⟨rfl, hb⟩; replace k1 := keepc hb _ _ k1 y1; replace f1 := keepf hb _ f1 y1; replace k2 := keepc hb _ _ k2 y2; replace f2 := keepf hb _ f2 y2; replace y1 := Nat.lt_of_lt_of_le y1 hb.size; replace y2 := Nat.lt_of_lt_of_le y2 hb.size; replace B := bstep B hb; clear hb))
            all_goals exact ⟨⟨1, k+1, 0, by omega, by simp, by simp, by omega, by omega, by omega, by omega, k1, f1, y1, B⟩, by simp [intOf]; omega⟩
          · go_wp2_with fail
            refine (next_any _ _ _ _ _ _ _ (by omega)).mono ?_
            rintro e w3 ⟨rfl, hb⟩
            have z := hb.size
            try simp only [World.size_alloc, World.size_setCell] at z
            have k1' := keepc hb A (mvc ch 1 0 0 0 2) (by intro i; simp [go_sem, k1, f1, y1]) (by first | omega | (simp <;> omega))
            have f1' := keepf hb A (by intro i; simp [go_sem, k1, f1, y1]) (by first | omega | (simp <;> omega))
            have y1' : A < w3.heap.size := by omega
            have k2' := keepc hb wr.heap.size (mvc ch 1 0 0 0 2) (by intro i; simp [go_sem, k1, f1, y1]) (by first | omega | (simp <;> omega))
            have f2' := keepf hb wr.heap.size (by intro i; simp [go_sem, k1, f1, y1]) (by first | omega | (simp <;> omega))
            have y2' : wr.heap.size < w3.heap.size := by omega
            have B' := (B.alloc B.size _).trans (hb.mono (by first | omega | (simp <;> omega)))
            clear hb z B k1 f1 y1
            have k1 := k1'; have f1 := f1'; have y1 := y1'; clear k1' f1' y1'
            have k2 := k2'; have f2 := f2'; have y2 := y2'; clear k2' f2' y2'
            have B := B'; clear B'
            rw [show nextF 2 = 3 from rfl]
            go_wp2_with fail
            refine (steps_any _ _ _ _ _ _ _ (by omega)).mono ?_
            rintro e w4 ⟨rfl, hb⟩
            have z := hb.size
            try simp only [World.size_alloc, World.size_setCell] at z
            have k1' := keepc hb A (mvc ch 1 0 0 0 3) (by intro i; rcases i with _|_|_|_|_|_|i <;> simp [go_sem, k1, f1, y1, k2, f2, y2, hCA, hAC]) (by first | omega | (simp <;> omega))
            have f1' := keepf hb A (by intro i; simp [go_sem, k1, f1, y1, k2, f2, y2, hCA, hAC]) (by first | omega | (simp <;> omega))
            have y1' : A < w4.heap.size := by omega
            have k2' := keepc hb wr.heap.size (mvc ch 1 0 0 0 2) (by intro i; rcases i with _|_|_|_|_|_|i <;> simp [go_sem, k1, f1, y1, k2, f2, y2, hCA, hAC]) (by first | omega | (simp <;> omega))
            have f2' := keepf hb wr.heap.size (by intro i; simp [go_sem, k1, f1, y1, k2, f2, y2, hCA, hAC]) (by first | omega | (simp <;> omega))
            have y2' : wr.heap.size < w4.heap.size := by omega
            have B' := ((((((B.setCell yA _).setCell yA _).setCell yA _).setCell yA _).setCell yA _).setCell yA _).trans (hb.mono (by first | omega | (simp <;> omega)))
            clear hb z B k1 f1 y1 k2 f2 y2
            have k1 := k1'; have f1 := f1'; have y1 := y1'; clear k1' f1' y1'
            have k2 := k2'; have f2 := f2'; have y2 := y2'; clear k2' f2' y2'
            have B := B'; clear B'
            rw [show stepsF 3 = 1 from rfl]
            have e1 : busyF 1 = true := rfl
            have e2 : busyF 2 = true := rfl
            have e3 : busyF 3 = true := rfl
            have e4 : busyF 4 = false := rfl
            have s1 : stepsF 1 = 3 := rfl
            have s4 : stepsF 4 = 0 := rfl
            go_wp2_with (first | (go_at_call 21; refine (busy_any _ _ _ _ _ _ _ (by omega)).mono ?_; rintro e w5 ⟨rfl, hb⟩; replace k1 := keepc hb _ _ k1 y1; replace f1 := keepf hb _ f1 y1; replace k2 := keepc hb _ _ k2 y2; replace f2 := keepf hb _ f2 y2; replace y1 := Nat.lt_of_lt_of_le y1 hb.size; replace y2 := Nat.lt_of_lt_of_le y2 hb.size; replace B := bstep B hb; clear hb) | (go_at_call 20; refine (steps_any _ _ _ _ _ _ _ (by omega)).mono ?_; rintro e w5 ⟨rfl, hb⟩; replace k1 := keepc hb _ _ k1 y1; replace f1 := keepf hb _ f1 y1; replace k2 := keepc hb _ _ k2 y2; replace f2 := keepf hb _ f2 y2; replace y1 := Nat.lt_of_lt_of_le y1 hb.size; replace y2 := Nat.lt_of_lt_of_le y2 hb.size; replace B := bstep B hb; clear hb))
            all_goals exact ⟨⟨3, k+1, 2, by omega, by simp, by simp, by omega, by omega, by omega, by omega, k1, f1, y1, B⟩, by simp [intOf]; omega⟩
        · cases x
          · go_wp2_with fail
            refine (stale_any _ _ _ _ _ _ _ (by omega)).mono ?_
            rintro e w3 ⟨rfl, hb⟩
            have z := hb.size
            try simp only [World.size_alloc, World.size_setCell] at z
            have k1' := keepc hb A (mvc ch 1 0 0 0 3) (by intro i; simp [go_sem, k1, f1, y1]) (by first | omega | (simp <;> omega))
            have f1' := keepf hb A (by intro i; simp [go_sem, k1, f1, y1]) (by first | omega | (simp <;> omega))
            have y1' : A < w3.heap.size := by omega
            have k2' := keepc hb wr.heap.size (mvc ch 1 0 0 0 3) (by intro i; simp [go_sem, k1, f1, y1]) (by first | omega | (simp <;> omega))
            have f2' := keepf hb wr.heap.size (by intro i; simp [go_sem, k1, f1, y1]) (by first | omega | (simp <;> omega))
            have y2' : wr.heap.size < w3.heap.size := by omega
            have B' := (B.alloc B.size _).trans (hb.mono (by first | omega | (simp <;> omega)))
            clear hb z B k1 f1 y1
            have k1 := k1'; have f1 := f1'; have y1 := y1'; clear k1' f1' y1'
            have k2 := k2'; have f2 := f2'; have y2 := y2'; clear k2' f2' y2'
            have B := B'; clear B'
            rw [show staleF 3 = 1 from rfl]
            go_wp2_with fail
            refine (busy_any _ _ _ _ _ _ _ (by omega)).mono ?_
            rintro e w4 ⟨rfl, hb⟩
            have z := hb.size
            try simp only [World.size_alloc, World.size_setCell] at z
            have k1' := keepc hb A (mvc ch 1 0 0 0 1) (by intro i; rcases i with _|_|_|_|_|_|i <;> simp [go_sem, k1, f1, y1, k2, f2, y2, hCA, hAC]) (by first | omega | (simp <;> omega))
            have f1' := keepf hb A (by intro i; simp [go_sem, k1, f1, y1, k2, f2, y2, hCA, hAC]) (by first | omega | (simp <;> omega))
            have y1' : A < w4.heap.size := by omega
            have k2' := keepc hb wr.heap.size (mvc ch 1 0 0 0 3) (by intro i; rcases i with _|_|_|_|_|_|i <;> simp [go_sem, k1, f1, y1, k2, f2, y2, hCA, hAC]) (by first | omega | (simp <;> omega))
            have f2' := keepf hb wr.heap.size (by intro i; simp [go_sem, k1, f1, y1, k2, f2, y2, hCA, hAC]) (by first | omega | (simp <;> omega))
            have y2' : wr.heap.size < w4.heap.size := by omega
            have B' := ((((((B.setCell yA _).setCell yA _).setCell yA _).setCell yA _).setCell yA _).setCell yA _).trans (hb.mono (by first | omega | (simp <;> omega)))
            clear hb z B k1 f1 y1 k2 f2 y2
            have k1 := k1'; have f1 := f1'; have y1 := y1'; clear k1' f1' y1'
            have k2 := k2'; have f2 := f2'; have y2 := y2'; clear k2' f2' y2'
            have B := B'; clear B'
            rw [show busyF 3 = true from rfl]
            have e1 : busyF 1 = true := rfl
            have e2 : busyF 2 = true := rfl
            have e3 : busyF 3 = true := rfl
            have e4 : busyF 4 = false := rfl
            have s1 : stepsF 1 = 3 := rfl
            have s4 : stepsF 4 = 0 := rfl
            go_wp2_with (first | (go_at_call 21; refine (busy_any _ _ _ _ _ _ _ (by omega)).mono ?_; rintro e w5 ⟨rfl, hb⟩; replace k1 := keepc hb _ _ k1 y1; replace f1 := keepf hb _ f1 y1; replace k2 := keepc hb _ _ k2 y2; replace f2 := keepf hb _ f2 y2; replace y1 := Nat.lt_of_lt_of_le y1 hb.size; replace y2 := Nat.lt_of_lt_of_le y2 hb.size; replace B := bstep B hb; clear hb) | (go_at_call 20; refine (steps_any _ _ _ _ _ _ _ (by omega)).mono ?_; rintro e w5 ⟨rfl, hb⟩; replace k1 := keepc hb _ _ k1 y1; replace f1 := keepf hb _ f1 y1; replace k2 := keepc hb _ _ k2 y2; replace f2 := keepf hb _ f2 y2; replace y1 := Nat.lt_of_lt_of_le y1 hb.size; replace y2 := Nat.lt_of_lt_of_le y2 hb.size; replace B := bstep B hb; clear hb))
            all_goals exact ⟨⟨1, k+1, 0, by omega, by simp, by simp, by omega, by omega, by omega, by omega, k1, f1, y1, B⟩, by simp [intOf]; omega⟩
          · go_wp2_with fail
            refine (next_any _ _ _ _ _ _ _ (by omega)).mono ?_
            rintro e w3 ⟨rfl, hb⟩
            have z := hb.size
            try simp only [World.size_alloc, World.size_setCell] at z
            have k1' := keepc hb A (mvc ch 1 0 0 0 3) (by intro i; simp [go_sem, k1, f1, y1]) (by first | omega | (simp <;> omega))
            have f1' := keepf hb A (by intro i; simp [go_sem, k1, f1, y1]) (by first | omega | (simp <;> omega))
            have y1' : A < w3.heap.size := by omega
            have k2' := keepc hb wr.heap.size (mvc ch 1 0 0 0 3) (by intro i; simp [go_sem, k1, f1, y1]) (by first | omega | (simp <;> omega))
            have f2' := keepf hb wr.heap.size (by intro i; simp [go_sem, k1, f1, y1]) (by first | omega | (simp <;> omega))
            have y2' : wr.heap.size < w3.heap.size := by omega
            have B' := (B.alloc B.size _).trans (hb.mono (by first | omega | (simp <;> omega)))
            clear hb z B k1 f1 y1
            have k1 := k1'; have f1 := f1'; have y1 := y1'; clear k1' f1' y1'
            have k2 := k2'; have f2 := f2'; have y2 := y2'; clear k2' f2' y2'
            have B := B'; clear B'
            rw [show nextF 3 = 4 from rfl]
            go_wp2_with fail
            refine (steps_any _ _ _ _ _ _ _ (by omega)).mono ?_
            rintro e w4 ⟨rfl, hb⟩
            have z := hb.size
            try simp only [World.size_alloc, World.size_setCell] at z
            have k1' := keepc hb A (mvc ch 1 0 0 0 4) (by intro i; rcases i with _|_|_|_|_|_|i <;> simp [go_sem, k1, f1, y1, k2, f2, y2, hCA, hAC]) (by first | omega | (simp <;> omega))
            have f1' := keepf hb A (by intro i; simp [go_sem, k1, f1, y1, k2, f2, y2, hCA, hAC]) (by first | omega | (simp <;> omega))
            have y1' : A < w4.heap.size := by omega
            have k2' := keepc hb wr.heap.size (mvc ch 1 0 0 0 3) (by intro i; rcases i with _|_|_|_|_|_|i <;> simp [go_sem, k1, f1, y1, k2, f2, y2, hCA, hAC]) (by first | omega | (simp <;> omega))
            have f2' := keepf hb wr.heap.size (by intro i; simp [go_sem, k1, f1, y1, k2, f2, y2, hCA, hAC]) (by first | omega | (simp <;> omega))
            have y2' : wr.heap.size < w4.heap.size := by omega
            have B' := ((((((B.setCell yA _).setCell yA _).setCell yA _).setCell yA _).setCell yA _).setCell yA _).trans (hb.mono (by first | omega | (simp <;> omega)))
            clear hb z B k1 f1 y1 k2 f2 y2
            have k1 := k1'; have f1 := f1'; have y1 := y1'; clear k1' f1' y1'
            have k2 := k2'; have f2 := f2'; have y2 := y2'; clear k2' f2' y2'
            have B := B'; clear B'
            rw [show stepsF 4 = 0 from rfl]
            have e1 : busyF 1 = true := rfl
            have e2 : busyF 2 = true := rfl
            have e3 : busyF 3 = true := rfl
            have e4 : busyF 4 = false := rfl
            have s1 : stepsF 1 = 3 := rfl
            have s4 : stepsF 4 = 0 := rfl
            go_wp2_with (first | (go_at_call 21; refine (busy_any _ _ _ _ _ _ _ (by omega)).mono ?_; rintro e w5 ⟨rfl, hb⟩; replace k1 := keepc hb _ _ k1 y1; replace f1 := keepf hb _ f1 y1; replace k2 := keepc hb _ _ k2 y2; replace f2 := keepf hb _ f2 y2; replace y1 := Nat.lt_of_lt_of_le y1 hb.size; replace y2 := Nat.lt_of_lt_of_le y2 hb.size; replace B := bstep B hb; clear hb) | (go_at_call 20; refine (steps_any _ _ _ _ _ _ _ (by omega)).mono ?_; rintro e w5 ⟨rfl, hb⟩; replace k1 := keepc hb _ _ k1 y1; replace f1 := keepf hb _ f1 y1; replace k2 := keepc hb _ _ k2 y2; replace f2 := keepf hb _ f2 y2; replace y1 := Nat.lt_of_lt_of_le y1 hb.size; replace y2 := Nat.lt_of_lt_of_le y2 hb.size; replace B := bstep B hb; clear hb))
            all_goals exact ⟨⟨4, k+1, 3, by omega, by simp, by simp, by omega, by omega, by omega, by omega, k1, f1, y1, B⟩, by simp [intOf]; omega⟩
        · cases x
          · go_wp2_with fail
            refine (stale_any _ _ _ _ _ _ _ (by omega)).mono ?_
            rintro e w3 ⟨rfl, hb⟩
            have z := hb.size
            try simp only [World.size_alloc, World.size_setCell] at z
            have k1' := keepc hb A (mvc ch 1 0 0 0 4) (by intro i; simp [go_sem, k1, f1, y1]) (by first | omega | (simp <;> omega))
            have f1' := keepf hb A (by intro i; simp [go_sem, k1, f1, y1]) (by first | omega | (simp <;> omega))
            have y1' : A < w3.heap.size := by omega
            have k2' := keepc hb wr.heap.size (mvc ch 1 0 0 0 4) (by intro i; simp [go_sem, k1, f1, y1]) (by first | omega | (simp <;> omega))
            have f2' := keepf hb wr.heap.size (by intro i; simp [go_sem, k1, f1, y1]) (by first | omega | (simp <;> omega))
            have y2' : wr.heap.size < w3.heap.size := by omega
            have B' := (B.alloc B.size _).trans (hb.mono (by first | omega | (simp <;> omega)))
            clear hb z B k1 f1 y1
            have k1 := k1'; have f1 := f1'; have y1 := y1'; clear k1' f1' y1'
            have k2 := k2'; have f2 := f2'; have y2 := y2'; clear k2' f2' y2'
            have B := B'; clear B'
            rw [show staleF 4 = 4 from rfl]
            go_wp2_with fail
            refine (busy_any _ _ _ _ _ _ _ (by omega)).mono ?_
            rintro e w4 ⟨rfl, hb⟩
            have z := hb.size
            try simp only [World.size_alloc, World.size_setCell] at z
            have k1' := keepc hb A (mvc ch 1 0 0 0 4) (by intro i; rcases i with _|_|_|_|_|_|i <;> simp [go_sem, k1, f1, y1, k2, f2, y2, hCA, hAC]) (by first | omega | (simp <;> omega))
            have f1' := keepf hb A (by intro i; simp [go_sem, k1, f1, y1, k2, f2, y2, hCA, hAC]) (by first | omega | (simp <;> omega))
            have y1' : A < w4.heap.size := by omega
            have k2' := keepc hb wr.heap.size (mvc ch 1 0 0 0 4) (by intro i; rcases i with _|_|_|_|_|_|i <;> simp [go_sem, k1, f1, y1, k2, f2, y2, hCA, hAC]) (by first | omega | (simp <;> omega))
            have f2' := keepf hb wr.heap.size (by intro i; simp [go_sem, k1, f1, y1, k2, f2, y2, hCA, hAC]) (by first | omega | (simp <;> omega))
            have y2' : wr.heap.size < w4.heap.size := by omega
            have B' := ((((((B.setCell yA _).setCell yA _).setCell yA _).setCell yA _).setCell yA _).setCell yA _).trans (hb.mono (by first | omega | (simp <;> omega)))
            clear hb z B k1 f1 y1 k2 f2 y2
            have k1 := k1'; have f1 := f1'; have y1 := y1'; clear k1' f1' y1'
            have k2 := k2'; have f2 := f2'; have y2 := y2'; clear k2' f2' y2'
            have B := B'; clear B'
            rw [show busyF 4 = false from rfl]
            have e1 : busyF 1 = true := rfl
            have e2 : busyF 2 = true := rfl
            have e3 : busyF 3 = true := rfl
            have e4 : busyF 4 = false := rfl
            have s1 : stepsF 1 = 3 := rfl
            have s4 : stepsF 4 = 0 := rfl
            go_wp2_with (first | (go_at_call 21; refine (busy_any _ _ _ _ _ _ _ (by omega)).mono ?_; rintro e w5 ⟨rfl, hb⟩; replace k1 := keepc hb _ _ k1 y1; replace f1 := keepf hb _ f1 y1; replace k2 := keepc hb _ _ k2 y2; replace f2 := keepf hb _ f2 y2; replace y1 := Nat.lt_of_lt_of_le y1 hb.size; replace y2 := Nat.lt_of_lt_of_le y2 hb.size; replace B := bstep B hb; clear hb) | (go_at_call 20; refine (steps_any _ _ _ _ _ _ _ (by omega)).mono ?_; rintro e w5 ⟨rfl, hb⟩; replace k1 := keepc hb _ _ k1 y1; replace f1 := keepf hb _ f1 y1; replace k2 := keepc hb _ _ k2 y2; replace f2 := keepf hb _ f2 y2; replace y1 := Nat.lt_of_lt_of_le y1 hb.size; replace y2 := Nat.lt_of_lt_of_le y2 hb.size; replace B := bstep B hb; clear hb))
            all_goals exact ⟨⟨4, k+1, r, by omega, by simp, by simp, by omega, by omega, by omega, by omega, k1, f1, y1, B⟩, by simp [intOf]; omega⟩
          · go_wp2_with fail
            refine (next_any _ _ _ _ _ _ _ (by omega)).mono ?_
            rintro e w3 ⟨rfl, hb⟩
            have z := hb.size
            try simp only [World.size_alloc, World.size_setCell] at z
            have k1' := keepc hb A (mvc ch 1 0 0 0 4) (by intro i; simp [go_sem, k1, f1, y1]) (by first | omega | (simp <;> omega))
            have f1' := keepf hb A (by intro i; simp [go_sem, k1, f1, y1]) (by first | omega | (simp <;> omega))
            have y1' : A < w3.heap.size := by omega
            have k2' := keepc hb wr.heap.size (mvc ch 1 0 0 0 4) (by intro i; simp [go_sem, k1, f1, y1]) (by first | omega | (simp <;> omega))
            have f2' := keepf hb wr.heap.size (by intro i; simp [go_sem, k1, f1, y1]) (by first | omega | (simp <;> omega))
            have y2' : wr.heap.size < w3.heap.size := by omega
            have B' := (B.alloc B.size _).trans (hb.mono (by first | omega | (simp <;> omega)))
            clear hb z B k1 f1 y1
            have k1 := k1'; have f1 := f1'; have y1 := y1'; clear k1' f1' y1'
            have k2 := k2'; have f2 := f2'; have y2 := y2'; clear k2' f2' y2'
            have B := B'; clear B'
            rw [show nextF 4 = 4 from rfl]
            go_wp2_with fail
            refine (steps_any _ _ _ _ _ _ _ (by omega)).mono ?_
            rintro e w4 ⟨rfl, hb⟩
            have z := hb.size
            try simp only [World.size_alloc, World.size_setCell] at z
            have k1' := keepc hb A (mvc ch 1 0 0 0 4) (by intro i; rcases i with _|_|_|_|_|_|i <;> simp [go_sem, k1, f1, y1, k2, f2, y2, hCA, hAC]) (by first | omega | (simp <;> omega))
            have f1' := keepf hb A (by intro i; simp [go_sem, k1, f1, y1, k2, f2, y2, hCA, hAC]) (by first | omega | (simp <;> omega))
            have y1' : A < w4.heap.size := by omega
            have k2' := keepc hb wr.heap.size (mvc ch 1 0 0 0 4) (by intro i; rcases i with _|_|_|_|_|_|i <;> simp [go_sem, k1, f1, y1, k2, f2, y2, hCA, hAC]) (by first | omega | (simp <;> omega))
            have f2' := keepf hb wr.heap.size (by intro i; simp [go_sem, k1, f1, y1, k2, f2, y2, hCA, hAC]) (by first | omega | (simp <;> omega))
            have y2' : wr.heap.size < w4.heap.size := by omega
            have B' := ((((((B.setCell yA _).setCell yA _).setCell yA _).setCell yA _).setCell yA _).setCell yA _).trans (hb.mono (by first | omega | (simp <;> omega)))
            clear hb z B k1 f1 y1 k2 f2 y2
            have k1 := k1'; have f1 := f1'; have y1 := y1'; clear k1' f1' y1'
            have k2 := k2'; have f2 := f2'; have y2 := y2'; clear k2' f2' y2'
            have B := B'; clear B'
            rw [show stepsF 4 = 0 from rfl]
            have e1 : busyF 1 = true := rfl
            have e2 : busyF 2 = true := rfl
            have e3 : busyF 3 = true := rfl
            have e4 : busyF 4 = false := rfl
            have s1 : stepsF 1 = 3 := rfl
            have s4 : stepsF 4 = 0 := rfl
            go_wp2_with (first | (go_at_call 21; refine (busy_any _ _ _ _ _ _ _ (by omega)).mono ?_; rintro e w5 ⟨rfl, hb⟩; replace k1 := keepc hb _ _ k1 y1; replace f1 := keepf hb _ f1 y1; replace k2 := keepc hb _ _ k2 y2; replace f2 := keepf hb _ f2 y2; replace y1 := Nat.lt_of_lt_of_le y1 hb.size; replace y2 := Nat.lt_of_lt_of_le y2 hb.size; replace B := bstep B hb; clear hb) | (go_at_call 20; refine (steps_any _ _ _ _ _ _ _ (by omega)).mono ?_; rintro e w5 ⟨rfl, hb⟩; replace k1 := keepc hb _ _ k1 y1; replace f1 := keepf hb _ f1 y1; replace k2 := keepc hb _ _ k2 y2; replace f2 := keepf hb _ f2 y2; replace y1 := Nat.lt_of_lt_of_le y1 hb.size; replace y2 := Nat.lt_of_lt_of_le y2 hb.size; replace B := bstep B hb; clear hb))
            all_goals exact ⟨⟨4, k+1, r+1, by omega, by simp, by simp, by omega, by omega, by omega, by omega, k1, f1, y1, B⟩, by simp [intOf]; omega⟩
      · obtain ⟨q1, q2, e1, e2, e3, g1, g2⟩ : ∃ q1 q2, nextF p = q1 ∧ nextF q1 = q2 ∧ nextF q2 = 4 ∧ q1 ≤ 4 ∧ q2 ≤ 4 := by
          refine ⟨_, _, rfl, rfl, ?_, ?_, ?_⟩
          all_goals (simp only [nextF]; repeat' split)
          all_goals omega
        have E1 := Lib.hid e1
        have E2 := Lib.hid e2
        have E3 := Lib.hid e3
        clear e1 e2 e3 hpr
        go_wp2_with fail
        refine (next_any _ _ _ _ _ _ _ (by omega)).mono ?_
        rintro e w3 ⟨rfl, hb⟩
        replace B := bstep B hb
        clear hb
        rw [E1.out]
        go_wp2_with fail
        refine (next_any _ _ _ _ _ _ _ (by omega)).mono ?_
        rintro e w4 ⟨rfl, hb⟩
        replace B := bstep B hb
        clear hb
        rw [E2.out]
        go_wp2_with fail
        refine (next_any _ _ _ _ _ _ _ (by omega)).mono ?_
        rintro e w5 ⟨rfl, hb⟩
        replace B := bstep B hb
        clear hb
        rw [E3.out]
        have hfl : ∀ W : World, (Instr.field 25 (mv ch 1 0 0 0 4) 3).run Try.prog W = .ok (.int .i64 4) W := fun _ => by kernel_rfl
        go_wp2
        all_goals (first | go_ret | skip)
        exact HR.out _ _ ⟨rfl, B⟩
end Go.Proofs.Ytifkdjecdmmegaa
