import Derived.Test.YtjkndfenniongaaGreatDoorAtB
set_option linter.unusedSimpArgs false
set_option linter.unusedVariables false
set_option maxRecDepth 10000
/- Heads: which can be. -/
namespace Go.Proofs.YtjkndfenniongaaGreatDoor
open Go Go.RowKit
structure Hd where
  gen : Int
  root : Int
  s0 : Int
  s1 : Int
  ch : Int
structure Hd.Ok (h : Hd) : Prop where
  gen : U64 h.gen
  root : -9223372036854775808 ≤ h.root ∧ h.root ≤ 9223372036854775807
  s0 : -9223372036854775808 ≤ h.s0 ∧ h.s0 ≤ 9223372036854775807
  s1 : -9223372036854775808 ≤ h.s1 ∧ h.s1 ≤ 9223372036854775807
  ch : -9223372036854775808 ≤ h.ch ∧ h.ch ≤ 9223372036854775807
abbrev hdC (h : Hd) : Array Value := #[.int .u64 h.gen, .int .i64 h.root, .int .i64 h.s0, .int .i64 h.s1, .int .i64 h.ch]
abbrev hdV (h : Hd) : Value := .agg (hdC h)
def slotOk (n : Int) : Bool := decide (1 ≤ n) && decide (n ≤ 256)
def restOk (h : Hd) : Bool := decide (1 ≤ h.gen) && decide (h.gen ≤ 4294967295) && decide (0 ≤ h.root) && decide (h.root < 512) && decide (1 ≤ h.ch) && decide (h.ch ≤ 8)
def goodH (h : Hd) : Bool := slotOk h.s0 && slotOk h.s1 && restOk h
theorem slot_bad {n : Int} (h : slotOk n = false) : n < 1 ∨ (¬ n < 1 ∧ 256 < n) := by
  unfold slotOk at h
  simp at h
  omega
theorem slot_ok {n : Int} (h : slotOk n = true) : ¬ n < 1 ∧ ¬ 256 < n := by
  unfold slotOk at h
  simp at h
  omega
@[go_sem] theorem idx45_0 (a b : Int) (w : World) : (Instr.index 45 (.agg #[.int .i64 a, .int .i64 b]) (.int .i64 0)).run Tryz.prog w = .ok (.int .i64 a) w := by
  simp [Instr.index, run_underlying Tryz.underlying45, asIntOf, go_sem, Tryz.sizeOf3, part, Tryz.isAgg3]
@[go_sem] theorem idx45_1 (a b : Int) (w : World) : (Instr.index 45 (.agg #[.int .i64 a, .int .i64 b]) (.int .i64 1)).run Tryz.prog w = .ok (.int .i64 b) w := by
  simp [Instr.index, run_underlying Tryz.underlying45, asIntOf, go_sem, Tryz.sizeOf3, part, Tryz.isAgg3]
set_option maxHeartbeats 2000000 in
theorem goodh_any (h : Hd) (w : World) : Calls Tryz.prog 45 #[hdV h] w fun e w' => e = .returned (.bool (goodH h)) ∧ Same w w' := by
  refine opq fun R HR => ?_
  obtain ⟨gen, root, s0, s1, ch⟩ := h
  unfold hdV hdC goodH at *
  dsimp only at *
  have A0 := Lib.hid (show Same w (w.alloc (.cells #[.int .u64 gen, .int .i64 root, .int .i64 s0, .int .i64 s1, .int .i64 ch] 53)) from (Mod.refl _ _).alloc _)
  have B0 := Lib.hid (Blk.new w #[.int .u64 gen, .int .i64 root, .int .i64 s0, .int .i64 s1, .int .i64 ch] 53)
  go_enter Tryz.func45, Tryz.ntmps45
  go_wp2_with fail
  go_loopw [7, 4] (fun vi _ wr => ∃ k : Nat, k ≤ 2 ∧ vi = .int .i64 (k : Int) ∧ (0 < k → slotOk s0 = true) ∧ (1 < k → slotOk s1 = true) ∧ wr = w.alloc (.cells #[.int .u64 gen, .int .i64 root, .int .i64 s0, .int .i64 s1, .int .i64 ch] 53)) (fun vi _ _ => 2 - (intOf vi).toNat)
  case atStart => exact ⟨0, by omega, rfl, fun q => by omega, fun q => by omega, rfl⟩
  case round =>
    obtain ⟨k, hk, rfl, h0, h1, rfl⟩ := hrel
    have H0 := Lib.hid h0
    have H1 := Lib.hid h1
    clear h0 h1
    rcases (show k = 0 ∨ k = 1 ∨ k = 2 by omega) with rfl | rfl | rfl
    · cases hs : slotOk s0 with
      | false =>
        rw [hs] at HR
        rcases slot_bad hs with q | ⟨q1, q2⟩
        · go_wp2
          exact HR.out _ _ ⟨by simp, A0.out⟩
        · go_wp2
          exact HR.out _ _ ⟨by simp, A0.out⟩
      | true =>
        obtain ⟨q1, q2⟩ := slot_ok hs
        go_wp2_with fail
        go_roundw
        case rel => exact ⟨1, by omega, by first | rfl | go_num, by simp [hs]⟩
        case measure => simp [intOf]
    · cases hs : slotOk s1 with
      | false =>
        rw [hs] at HR
        rcases slot_bad hs with q | ⟨q1, q2⟩
        · go_wp2
          exact HR.out _ _ ⟨by simp, A0.out⟩
        · go_wp2
          exact HR.out _ _ ⟨by simp, A0.out⟩
      | true =>
        obtain ⟨q1, q2⟩ := slot_ok hs
        go_wp2_with fail
        go_roundw
        case rel => exact ⟨2, by omega, by first | rfl | go_num, by have := H0.out (by omega); simp [hs, this]⟩
        case measure => simp [intOf]
    · rw [H0.out (by omega), H1.out (by omega)] at HR
      unfold restOk at HR
      dsimp only at HR
      by_cases c0 : 1 ≤ gen
      · by_cases c1 : gen ≤ 4294967295
        · by_cases c2 : 0 ≤ root
          · by_cases c3 : root < 512
            · by_cases c4 : 1 ≤ ch
              · by_cases c5 : ch ≤ 8
                · go_wp2
                  exact HR.out _ _ ⟨by simp [*] <;> omega, A0.out⟩
                · go_wp2
                  exact HR.out _ _ ⟨by simp [*] <;> omega, A0.out⟩
              · go_wp2
                exact HR.out _ _ ⟨by simp [*] <;> omega, A0.out⟩
            · go_wp2
              exact HR.out _ _ ⟨by simp [*] <;> omega, A0.out⟩
          · go_wp2
            exact HR.out _ _ ⟨by simp [*] <;> omega, A0.out⟩
        · go_wp2
          exact HR.out _ _ ⟨by simp [*] <;> omega, A0.out⟩
      · go_wp2
        exact HR.out _ _ ⟨by simp [*] <;> omega, A0.out⟩
end Go.Proofs.YtjkndfenniongaaGreatDoor
