import Derived.Test.YtjkndfenniongaaGreatDoorAuR
set_option linter.unusedSimpArgs false
set_option linter.unusedVariables false
set_option maxRecDepth 100000
/- The document's heads: which can be. -/
namespace Go.Proofs.YtjkndfenniongaaGreatDoor
open Go Go.RowKit
set_option maxHeartbeats 4000000 in
theorem rgood6_any (h : Hd) (w : World) : Calls Tryz.prog 64 #[hdV h] w fun e w' => e = .returned (.bool (goodH h)) ∧ Same w w' := by
  refine opq fun R HR => ?_
  obtain ⟨gen, root, s0, s1, ch⟩ := h
  unfold hdV hdC
  dsimp only
  have A0 := Lib.hid (show Same w (w.alloc (.cells #[.int .u64 gen, .int .i64 root, .int .i64 s0, .int .i64 s1, .int .i64 ch] 53)) from (Mod.refl _ _).alloc _)
  by_cases c0 : 1 ≤ gen
  · have n0 : ¬ gen < 1 := by omega
    by_cases c1 : gen ≤ 4294967295
    · have n1 : ¬ 4294967295 < gen := by omega
      by_cases c2 : 0 ≤ root
      · have n2 : ¬ root < 0 := by omega
        by_cases c3 : root < 512
        · have n3 : ¬ 511 < root := by omega
          by_cases c4 : 1 ≤ ch
          · have n4 : ¬ ch < 1 := by omega
            by_cases c5 : ch ≤ 8
            · have n5 : ¬ 8 < ch := by omega
              by_cases c6 : 1 ≤ s0
              · have n6 : ¬ s0 < 1 := by omega
                by_cases c7 : s0 ≤ 256
                · have n7 : ¬ 256 < s0 := by omega
                  by_cases c8 : 1 ≤ s1
                  · have n8 : ¬ s1 < 1 := by omega
                    by_cases c9 : s1 ≤ 256
                    · have n9 : ¬ 256 < s1 := by omega
                      have hb : goodH ⟨gen, root, s0, s1, ch⟩ = true := by
                        unfold goodH slotOk restOk
                        simp
                        omega
                      rw [hb] at HR
                      go_enter Tryz.func64, Tryz.ntmps64
                      go_wp2
                      exact HR.out _ _ ⟨rfl, A0.out⟩
                    · have n9 : 256 < s1 := by omega
                      have hb : goodH ⟨gen, root, s0, s1, ch⟩ = false := by
                        unfold goodH slotOk restOk
                        simp
                        omega
                      rw [hb] at HR
                      go_enter Tryz.func64, Tryz.ntmps64
                      go_wp2
                      exact HR.out _ _ ⟨rfl, A0.out⟩
                  · have n8 : s1 < 1 := by omega
                    have hb : goodH ⟨gen, root, s0, s1, ch⟩ = false := by
                      unfold goodH slotOk restOk
                      simp
                      omega
                    rw [hb] at HR
                    go_enter Tryz.func64, Tryz.ntmps64
                    go_wp2
                    exact HR.out _ _ ⟨rfl, A0.out⟩
                · have n7 : 256 < s0 := by omega
                  have hb : goodH ⟨gen, root, s0, s1, ch⟩ = false := by
                    unfold goodH slotOk restOk
                    simp
                    omega
                  rw [hb] at HR
                  go_enter Tryz.func64, Tryz.ntmps64
                  go_wp2
                  exact HR.out _ _ ⟨rfl, A0.out⟩
              · have n6 : s0 < 1 := by omega
                have hb : goodH ⟨gen, root, s0, s1, ch⟩ = false := by
                  unfold goodH slotOk restOk
                  simp
                  omega
                rw [hb] at HR
                go_enter Tryz.func64, Tryz.ntmps64
                go_wp2
                exact HR.out _ _ ⟨rfl, A0.out⟩
            · have n5 : 8 < ch := by omega
              have hb : goodH ⟨gen, root, s0, s1, ch⟩ = false := by
                unfold goodH slotOk restOk
                simp
                omega
              rw [hb] at HR
              go_enter Tryz.func64, Tryz.ntmps64
              go_wp2
              exact HR.out _ _ ⟨rfl, A0.out⟩
          · have n4 : ch < 1 := by omega
            have hb : goodH ⟨gen, root, s0, s1, ch⟩ = false := by
              unfold goodH slotOk restOk
              simp
              omega
            rw [hb] at HR
            go_enter Tryz.func64, Tryz.ntmps64
            go_wp2
            exact HR.out _ _ ⟨rfl, A0.out⟩
        · have n3 : 511 < root := by omega
          have hb : goodH ⟨gen, root, s0, s1, ch⟩ = false := by
            unfold goodH slotOk restOk
            simp
            omega
          rw [hb] at HR
          go_enter Tryz.func64, Tryz.ntmps64
          go_wp2
          exact HR.out _ _ ⟨rfl, A0.out⟩
      · have n2 : root < 0 := by omega
        have hb : goodH ⟨gen, root, s0, s1, ch⟩ = false := by
          unfold goodH slotOk restOk
          simp
          omega
        rw [hb] at HR
        go_enter Tryz.func64, Tryz.ntmps64
        go_wp2
        exact HR.out _ _ ⟨rfl, A0.out⟩
    · have n1 : 4294967295 < gen := by omega
      have hb : goodH ⟨gen, root, s0, s1, ch⟩ = false := by
        unfold goodH slotOk restOk
        simp
        omega
      rw [hb] at HR
      go_enter Tryz.func64, Tryz.ntmps64
      go_wp2
      exact HR.out _ _ ⟨rfl, A0.out⟩
  · have n0 : gen < 1 := by omega
    have hb : goodH ⟨gen, root, s0, s1, ch⟩ = false := by
      unfold goodH slotOk restOk
      simp
      omega
    rw [hb] at HR
    go_enter Tryz.func64, Tryz.ntmps64
    go_wp2
    exact HR.out _ _ ⟨rfl, A0.out⟩
end Go.Proofs.YtjkndfenniongaaGreatDoor
