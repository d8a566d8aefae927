import Derived.Test.YteommjbbjdbhkaaRankI
set_option linter.unusedSimpArgs false
set_option linter.unusedVariables false
namespace Go.Proofs.Yteommjbbjdbhkaa
open Go Go.RowKit
def aw : List It := [⟨1, 3, 0, false, false⟩, ⟨2, 0, 1, false, false⟩, ⟨3, 0, 0, true, false⟩]
theorem aw_up : upC aw 5 = 3 := by decide
theorem aw_down : downC aw 0 = 2 := by decide
theorem aw_w1 : wantsC aw 1 0 = (3, 1, true) := by decide
theorem aw_w0 : wantsC aw 0 0 = (2, 0, true) := by decide
theorem aw_wf : Wf aw := by
  intro x hx
  simp [aw] at hx
  rcases hx with rfl | rfl | rfl <;> decide
theorem aw_its (w : World) : Its (w.alloc (.cells #[.int .i64 1, .int .i64 3, .int .i64 0, .bool false, .bool false, .int .i64 2, .int .i64 0, .int .i64 1, .bool false, .bool false, .int .i64 3, .int .i64 0, .int .i64 0, .bool true, .bool false] 53)) (some ⟨w.heap.size, 0, none⟩) aw := by
  intro _
  refine ⟨w.heap.size, 0, rfl, by simp, fun i x hx => ?_⟩
  have B := Blk.new w #[.int .i64 1, .int .i64 3, .int .i64 0, .bool false, .bool false, .int .i64 2, .int .i64 0, .int .i64 1, .bool false, .bool false, .int .i64 3, .int .i64 0, .int .i64 0, .bool true, .bool false] 53
  have hi : i < 3 := (List.getElem?_eq_some_iff.1 hx).1
  rcases i with _ | _ | _ | i
  · simp [aw] at hx; subst hx; exact ⟨B.cell 0, B.cell 1, B.cell 2, B.cell 3, B.cell 4⟩
  · simp [aw] at hx; subst hx; exact ⟨B.cell 5, B.cell 6, B.cell 7, B.cell 8, B.cell 9⟩
  · simp [aw] at hx; subst hx; exact ⟨B.cell 10, B.cell 11, B.cell 12, B.cell 13, B.cell 14⟩
  · omega
set_option maxHeartbeats 4000000 in
theorem awake_any (w : World) : Calls Try.prog 25 #[] w fun e w' => e = .returned (.bool true) ∧ Same w w' := by
  refine opq fun R HR => ?_
  have HIt := aw_its w
  have M0 := (Mod.refl (fun _ => False) w).alloc (.cells #[.int .i64 1, .int .i64 3, .int .i64 0, .bool false, .bool false, .int .i64 2, .int .i64 0, .int .i64 1, .bool false, .bool false, .int .i64 3, .int .i64 0, .int .i64 0, .bool true, .bool false] 53)
  have JI := Lib.hid HIt
  have J0 := Lib.hid M0
  clear HIt M0
  have HA := Lib.hid (fun (wz : World) (hz : Its wz (some ⟨w.heap.size, 0, none⟩) aw) => wants_any (some ⟨w.heap.size, 0, none⟩) 3 aw 1 0 wz (by decide) hz aw_wf)
  have HB := Lib.hid (fun (wz : World) (hz : Its wz (some ⟨w.heap.size, 0, none⟩) aw) => wants_any (some ⟨w.heap.size, 0, none⟩) 3 aw 0 0 wz (by decide) hz aw_wf)
  have HC := Lib.hid (fun (wz : World) (hz : Its wz (some ⟨w.heap.size, 0, none⟩) aw) => up_any (some ⟨w.heap.size, 0, none⟩) 3 aw 5 wz (by decide) hz aw_wf)
  have HD := Lib.hid (fun (wz : World) (hz : Its wz (some ⟨w.heap.size, 0, none⟩) aw) => down_any (some ⟨w.heap.size, 0, none⟩) 3 aw 0 wz (by decide) hz aw_wf)
  rw [aw_w1] at HA
  rw [aw_w0] at HB
  rw [aw_up] at HC
  rw [aw_down] at HD
  have h64 : lev 64 = 7 := by decide
  have h3 : lev 3 = 2 := by decide
  have h0 : lev 0 = 0 := by decide
  have H64 := Lib.hid (fun wz => level_any 64 wz (by decide))
  have H3 := Lib.hid (fun wz => level_any 3 wz (by decide))
  have H0 := Lib.hid (fun wz => level_any 0 wz (by decide))
  rw [h64] at H64
  rw [h3] at H3
  rw [h0] at H0
  clear h64 h3 h0
  go_enter Try.func25, Try.ntmps25
  go_wp2_with fail
  refine (HA.out _ JI.out).mono ?_
  rintro e w1 ⟨rfl, M1⟩
  have J1 := Lib.hid (J0.out.same M1)
  have K1 := Lib.hid (JI.out.same M1)
  clear M1 JI J0
  go_wp2_with fail
  refine (HB.out _ K1.out).mono ?_
  rintro e w2 ⟨rfl, M2⟩
  have J2 := Lib.hid (J1.out.same M2)
  have K2 := Lib.hid (K1.out.same M2)
  clear M2 J1 K1
  go_wp2_with fail
  refine (H64.out _).mono ?_
  rintro e w3 ⟨rfl, rfl⟩
  go_wp2_with fail
  refine (H3.out _).mono ?_
  rintro e w3 ⟨rfl, rfl⟩
  go_wp2_with fail
  refine (H0.out _).mono ?_
  rintro e w3 ⟨rfl, rfl⟩
  go_wp2_with fail
  refine (HC.out _ K2.out).mono ?_
  rintro e w4 ⟨rfl, M4⟩
  have J4 := Lib.hid (J2.out.same M4)
  have K4 := Lib.hid (K2.out.same M4)
  clear M4 J2 K2
  go_wp2_with fail
  refine (HD.out _ K4.out).mono ?_
  rintro e w5 ⟨rfl, M5⟩
  have J5 := Lib.hid (J4.out.same M5)
  clear M5 J4 K4
  go_wp2
  exact HR.out _ _ ⟨rfl, J5.out⟩
end Go.Proofs.Yteommjbbjdbhkaa
