import Derived.Test.YtlcepoagpocadaaGreatDoorMgA
import Derived.Test.YtlcepoagpocadaaGreatDoorMeZ
set_option linter.unusedSimpArgs false
set_option linter.unusedVariables false
set_option maxRecDepth 100000
/- A copy of a row of texts. -/
namespace Go.Proofs.YtlcepoagpocadaaGreatDoor
open Go Go.RowKit
theorem txF_map (xs : List (List UInt8)) (i : Nat) (hi : i < xs.length) : (xs.map strV).getD i undef = txF xs i := by
  unfold txF strV
  rw [List.getD_eq_getElem?_getD, List.getElem?_map, List.getElem?_eq_getElem hi, List.getD_eq_getElem?_getD, List.getElem?_eq_getElem hi]; rfl
theorem nil32 (W : World) (a : Addr) (n c : Nat) : (binOp BinOp.eql 32 (.slice (some a) n c) (.slice none 0 0)).run Tryz.prog W = .ok (.bool false) W := by kernel_rfl
set_option maxHeartbeats 4000000 in
theorem clone70 (w : World) (g cap : Nat) (xs : List (List UInt8)) (hn : 0 < xs.length) (h64 : xs.length ≤ 100000) (hr : RowV w g xs.length (txF xs)) :
    Calls Tryz.prog 70 #[.slice (some ⟨g, 0, none⟩) xs.length cap] w fun e w' => ∃ g' cap', e = .returned (.slice (some ⟨g', 0, none⟩) xs.length cap') ∧ RowV w' g' xs.length (txF xs) ∧ w.heap.size ≤ g' ∧ Same w w' := by
  refine opq fun R HR => ?_
  have HRw := Lib.hid hr
  obtain ⟨i0, hi, hz0, hz1, hz2⟩ := info_parts info9
  have I0 := Lib.hid hi
  have Z0 := Lib.hid hz0
  have Z1 := Lib.hid hz1
  have Z2 := Lib.hid hz2
  obtain ⟨n, hnn⟩ : ∃ n, xs.length = n := ⟨_, rfl⟩
  rw [hnn] at hn h64 HRw HR ⊢
  have HN := Lib.hid hnn
  clear hr hi hz0 hz1 hz2 hnn
  have M0 := Lib.hid (show Same w (w.alloc (.cells #[] 9)) from (Mod.refl _ _).alloc _)
  have O0 := Lib.hid (show (w.alloc (.cells #[] 9)).ownsRow w.heap.size 9 1 (.slice (some ⟨w.heap.size, 0, none⟩) 0 0) 0 [] from ⟨rfl, .inr ⟨_, 0, #[], rfl, Nat.le_refl _, heap_new _ _, Nat.le_refl _, by unfold maxLen; omega, rfl, rfl⟩⟩)
  have HA := Lib.hid (HRw.out.mod M0.out (fun q => q))
  have HL := Lib.hid (show (xs.map strV).length = n * 1 by rw [List.length_map, HN.out, Nat.mul_one])
  have HNW := Lib.hid (show ∀ j u, (xs.map strV)[j]? = some u → (w.alloc (.cells #[] 9)).cell? (Addr.add ⟨g, 0, none⟩ j) = some u from fun j u hj => by
    have hjl : j < xs.length := by have := (List.getElem?_eq_some_iff.1 hj).1; simpa using this
    have e : Addr.add ⟨g, 0, none⟩ j = ⟨g, j, none⟩ := by simp [Addr.add]; intro q; exact q.symm
    rw [e]
    refine (HA.out.cell j (by rw [← HN.out]; exact hjl)).trans ?_
    rw [← txF_map xs j hjl, List.getD_eq_getElem?_getD, hj]; rfl)
  have H1 := Lib.hid (show ∀ u ∈ xs.map strV, u.oneCell' = true from fun u hu => by obtain ⟨s, _, rfl⟩ := List.mem_map.1 hu; rfl)
  have hnil := fun W => nil32 W ⟨g, 0, none⟩ n cap
  go_enter Tryz.func70, Tryz.ntmps70
  go_wp2_with (at_builtin; refine wpList_append_own _ rfl (.tmp 5) (.tmp 6) 32 rfl w.heap.size 9 i0 (.string ⟨#[]⟩) 1 16 Tryz.underlying32 I0.out Z0.out Z1.out Z2.out rfl (by decide) _ _ _ rfl O0.out ⟨g, 0, none⟩ n cap (xs.map strV) rfl HL.out HNW.out H1.out (by unfold maxLen; omega) (by omega) (by simp only [World.size_alloc]; omega) ?_; intro v3 w3 hown' hgrow _; have OW := Lib.hid hown'; have MG := Lib.hid (show Same w w3 from M0.out.grown hgrow (fun k hk hlt => by cases hk; exact absurd hlt (Nat.lt_irrefl _))); clear hown' hgrow)
  go_wp2
  have hO := OW.out
  rw [Nat.zero_add, List.nil_append] at hO
  obtain ⟨g', c', rfl, hb, hc, hrow⟩ := RowV.of_owns hO hn
  rw [Nat.mul_one] at hrow
  exact HR.out _ _ ⟨g', c', rfl, hrow.congr (fun i hi => txF_map xs i (by rw [HN.out]; exact hi)), hb, MG.out⟩
end Go.Proofs.YtlcepoagpocadaaGreatDoor
