import Derived.Test.YthkcdoneghcglaaDoorBndP
import Derived.Test.YthkcdoneghcglaaDoorBndG
set_option linter.unusedSimpArgs false
set_option linter.unusedVariables false
/- Layer 32 is awake. -/
namespace Go.Proofs.YthkcdoneghcglaaDoor
open Go Go.RowKit
theorem ins_new4 (w : World) (t : TypeId) : Ins (w.alloc (.cells #[.int .i64 0, .int .i64 1, .int .i64 2, .int .i64 5] t)) (some ⟨w.heap.size, 0, none⟩) [0, 1, 2, 5] := by
  intro _
  refine ⟨_, _, rfl, by simp, fun i x hx => ?_⟩
  rw [Nat.zero_add]
  refine ((Blk.new w _ t).cell i).trans ?_
  match i, hx with
  | 0, hx => simp at hx ⊢; exact hx
  | 1, hx => simp at hx ⊢; exact hx
  | 2, hx => simp at hx ⊢; exact hx
  | 3, hx => simp at hx ⊢; exact hx
  | i + 4, hx => simp at hx
theorem ins_new3 (w : World) (t : TypeId) : Ins (w.alloc (.cells #[.int .i64 0, .int .i64 2, .int .i64 5] t)) (some ⟨w.heap.size, 0, none⟩) [0, 2, 5] := by
  intro _
  refine ⟨_, _, rfl, by simp, fun i x hx => ?_⟩
  rw [Nat.zero_add]
  refine ((Blk.new w _ t).cell i).trans ?_
  match i, hx with
  | 0, hx => simp at hx ⊢; exact hx
  | 1, hx => simp at hx ⊢; exact hx
  | 2, hx => simp at hx ⊢; exact hx
  | i + 3, hx => simp at hx
theorem ins_new1 (w : World) (t : TypeId) : Ins (w.alloc (.cells #[.int .i64 1] t)) (some ⟨w.heap.size, 0, none⟩) [1] := by
  intro _
  refine ⟨_, _, rfl, by simp, fun i x hx => ?_⟩
  rw [Nat.zero_add]
  refine ((Blk.new w _ t).cell i).trans ?_
  match i, hx with
  | 0, hx => simp at hx ⊢; exact hx
  | i + 1, hx => simp at hx
theorem wakeT : textB [0, 1, 2, 5] = [48, 226, 128, 166, 50, 216, 140, 53] := by
  have h0 : Lib.itoa 0 = [48] := by decide +kernel
  have h2 : Lib.itoa 2 = [50] := by decide +kernel
  have h5 : Lib.itoa 5 = [53] := by decide +kernel
  rw [textB_ne (by decide)]
  rw [show runs [0, 1, 2, 5] = [(0, 2), (5, 5)] by decide]
  rw [textR_cons, restT, textR_cons, restT]
  unfold runT
  simp [h0, h2, h5, thru, comma]
set_option maxRecDepth 100000 in
@[go_sem] theorem eq62 (a b c d : Int) (w : World) : (Op.equalIn 10000 62 (.agg #[.int .i64 a, .int .i64 b]) (.agg #[.int .i64 c, .int .i64 d])).run Tryd.prog w = .ok (a == c && b == d) w := by
  have u3 := Tryd.underlying3
  have a3 := Tryd.isAgg3
  have z3 := Tryd.sizeOf3
  rw [show (10000 : Nat) = 9999 + 1 from rfl, Op.equalIn]
  simp only [Sem.run_bind, run_underlying Tryd.underlying62, Result.andThen_ok]
  simp only [Std.Legacy.Range.forIn_eq_forIn_range', Std.Legacy.Range.size, Nat.sub_zero, Nat.add_sub_cancel, Nat.div_one, List.range'_succ, List.range'_zero, List.forIn_cons, List.forIn_nil]
  go_simp
  by_cases h1 : a = c <;> by_cases h2 : b = d <;> simp [h1, h2]
theorem wakeG : gapsL [0, 1, 2, 5] 8 = [(3, 2), (6, 2)] := by decide
set_option maxRecDepth 10000 in
set_option maxHeartbeats 4000000 in
theorem awake_any (w : World) (hL : LibOK w) : Calls Tryd.prog 18 #[] w fun e w' => e = .returned (.bool true) ∧ Same w w' := by
  refine opq fun R HR => ?_
  have HL := Lib.hid hL
  clear hL
  have M0 := Lib.hid (show Same w (w.alloc (.cells #[.int .i64 0, .int .i64 1, .int .i64 2, .int .i64 5] 3)) from (Mod.refl _ _).alloc _)
  have I0 := Lib.hid (ins_new4 w 3)
  go_enter Tryd.func18, Tryd.ntmps18
  go_wp2_with fail
  generalize w.alloc _ = W0 at *
  refine (btext_any _ 4 [0, 1, 2, 5] _ (by decide) I0.out (HL.out.same M0.out)).mono ?_
  rintro e w1 ⟨rfl, M⟩
  have K1 := Lib.hid (M0.out.same M)
  have I1 := Lib.hid (I0.out.same M)
  clear M M0 I0
  rw [show btextV [0, 1, 2, 5] = .tuple #[strV [48, 226, 128, 166, 50, 216, 140, 53], .int .i64 0] by unfold btextV; rw [if_pos (by decide), wakeT]]
  unfold strV
  go_wp2_with fail
  have HP := Lib.hid (bparse_any [48, 226, 128, 166, 50, 216, 140, 53] (by decide) w1 (HL.out.same K1.out))
  rw [← wakeT, pPar_text (by decide), wakeT] at HP
  unfold PaB strV at HP
  refine HP.out.mono ?_
  rintro e w2 ⟨⟨a2, c2, rfl, hI2⟩, M⟩
  have K2 := Lib.hid (K1.out.same M)
  have I2 := Lib.hid (I1.out.same M)
  have J2 := Lib.hid hI2
  clear M K1 I1 hI2 HP
  go_wp2_with fail
  refine (btext_any none 0 [] _ (by decide) (fun h => by simp at h) (HL.out.same K2.out)).mono ?_
  rintro e w3 ⟨rfl, M⟩
  have K3 := Lib.hid (K2.out.same M)
  have I3 := Lib.hid (I2.out.same M)
  have J3 := Lib.hid (J2.out.same M)
  clear M K2 I2 J2
  rw [show btextV [] = .tuple #[strV [226, 136, 133], .int .i64 0] from rfl]
  unfold strV
  go_wp2_with fail
  refine (gaps_any _ 4 [0, 1, 2, 5] 8 (by unfold I64; decide) _ (by decide) I3.out).mono ?_
  rintro e w4 ⟨⟨a4, c4, rfl, hF⟩, M⟩
  rw [wakeG] at hF ⊢
  obtain ⟨b4, o4, rfl, hb4, hc4⟩ := hF (by decide)
  have e0 := (hc4 1 (6, 2) rfl).1
  have e1 := (hc4 1 (6, 2) rfl).2
  have K4 := Lib.hid (K3.out.same M)
  have I4 := Lib.hid (I3.out.same M)
  have J4 := Lib.hid (J3.out.same M)
  clear M K3 I3 J3 hc4 hF
  go_wp2_with fail
  refine (ints_any a2 _ c2 4 [0, 1, 2, 5] _ (by decide) J4.out I4.out).mono ?_
  rintro e w5 ⟨rfl, M⟩
  have K5 := Lib.hid (K4.out.same M)
  have I5 := Lib.hid (I4.out.same M)
  have f0 := (M.cell hb4 (fun q => q) _).trans e0
  have f1 := (M.cell hb4 (fun q => q) _).trans e1
  rw [show o4 + 1 * 2 = o4 + 2 by omega] at f0
  rw [show o4 + 1 * 2 + 1 = o4 + 2 + 1 by omega] at f1
  have f1' : w5.cell? ⟨b4, o4 + 3, none⟩ = some (.int .i64 2) := f1
  clear M K4 I4 J4 e0 e1
  go_wp2_with fail
  have M6 := Lib.hid (show Same w5 (w5.alloc (.cells #[.int .i64 1] 3)) from (Mod.refl _ _).alloc _)
  refine (less_any _ _ 4 1 [0, 1, 2, 5] [1] _ (by decide) (by decide) (I5.out.same M6.out) (ins_new1 w5 3) (by simp)).mono ?_
  rintro e w6 ⟨⟨a6, c6, rfl, hI6, _⟩, M⟩
  have hless : someL fLe [0, 1, 2, 5] [1] = [0, 2, 5] := less_wake
  rw [hless] at hI6 ⊢
  have K6 := Lib.hid (K5.out.same (M6.out.same M))
  have I6 := Lib.hid hI6
  clear M K5 I5 M6 hI6 f0 f1 f1' hless
  go_wp2_with fail
  have M7 := Lib.hid (show Same w6 (w6.alloc (.cells #[.int .i64 0, .int .i64 2, .int .i64 5] 3)) from (Mod.refl _ _).alloc _)
  refine (ints_any a6 _ c6 3 [0, 2, 5] _ (by decide) (I6.out.same M7.out) (ins_new3 w6 3)).mono ?_
  rintro e w7 ⟨rfl, M⟩
  have K7 := Lib.hid (K6.out.same (M7.out.same M))
  clear M K6 I6 M7
  go_wp2
  exact HR.out _ _ ⟨rfl, K7.out⟩
end Go.Proofs.YthkcdoneghcglaaDoor
