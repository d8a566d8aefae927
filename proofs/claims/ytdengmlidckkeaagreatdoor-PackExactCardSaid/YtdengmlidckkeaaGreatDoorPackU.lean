import Derived.Test.YtdengmlidckkeaaGreatDoorPackT
set_option linter.unusedSimpArgs false
set_option linter.unusedVariables false
namespace Go.Proofs.YtdengmlidckkeaaGreatDoor
open Go Go.RowKit
theorem numbers_of (v : Value) (ns ts : List Value) (w : World) (h : ∀ wz, Calls Tryz.prog 37 #[v] wz (PartsV wz ns ts)) : Calls Tryz.prog 15 #[v] w fun e w' => ∃ a c, e = .returned (.slice a ns.length c) ∧ RowNew w w' a ns ∧ Same w w' := by
  refine opq fun R HR => ?_
  have H := Lib.hid h
  clear h
  obtain ⟨n, hn⟩ : ∃ n, ns.length = n := ⟨_, rfl⟩
  go_enter Tryz.func15, Tryz.ntmps15
  go_wp2_with fail
  refine (H.out _).mono ?_
  rintro e w1 ⟨a1, c1, a2, c2, rfl, h1, h2, M⟩
  have J1 := Lib.hid h1
  have J2 := Lib.hid M
  clear h1 h2 M
  go_wp2
  exact HR.out _ _ ⟨_, _, by rw [hn]; rfl, J1.out, J2.out⟩
theorem data_of (v : Value) (ns ts : List Value) (w : World) (h : ∀ wz, Calls Tryz.prog 37 #[v] wz (PartsV wz ns ts)) : Calls Tryz.prog 16 #[v] w fun e w' => ∃ a c, e = .returned (.slice a ts.length c) ∧ RowNew w w' a ts ∧ Same w w' := by
  refine opq fun R HR => ?_
  have H := Lib.hid h
  clear h
  obtain ⟨n, hn⟩ : ∃ n, ts.length = n := ⟨_, rfl⟩
  go_enter Tryz.func16, Tryz.ntmps16
  go_wp2_with fail
  refine (H.out _).mono ?_
  rintro e w1 ⟨a1, c1, a2, c2, rfl, h1, h2, M⟩
  have J1 := Lib.hid h2
  have J2 := Lib.hid M
  clear h1 h2 M
  go_wp2
  exact HR.out _ _ ⟨_, _, by rw [hn]; rfl, J1.out, J2.out⟩
def words15 : List ByteArray := (List.range 15).map fun k => ⟨(wordL k).toArray⟩
set_option maxRecDepth 10000 in
theorem words_any (w : World) : Calls Tryz.prog 76 #[] w fun e w' => ∃ g, e = .returned (.slice (some ⟨g, 0, none⟩) 15 15) ∧ Blk w' g (words15.map Value.string).toArray ∧ Same w w' := by
  refine opq fun R HR => ?_
  go_enter Tryz.func76, Tryz.ntmps76
  go_wp2_with fail
  exact HR.out _ _ ⟨w.heap.size, rfl, Blk.new w _ _, (Mod.refl _ _).alloc _⟩
/-- The word's place. -/
theorem index_any (j : Nat) (hj : j < 15) (g : Nat) (w : World) (h : Blk w g (words15.map Value.string).toArray) : Calls Tryz.prog 75 #[.slice (some ⟨g, 0, none⟩) 15 15, .string ⟨(wordL j).toArray⟩] w fun e w' => e = .returned (.int .i64 j) ∧ w' = w := by
  have hx : Lib.idxOfS (words15.take 15) ⟨(wordL j).toArray⟩ = (j : Int) := by
    have h : j = 0 ∨ j = 1 ∨ j = 2 ∨ j = 3 ∨ j = 4 ∨ j = 5 ∨ j = 6 ∨ j = 7 ∨ j = 8 ∨ j = 9 ∨ j = 10 ∨ j = 11 ∨ j = 12 ∨ j = 13 ∨ j = 14 := by omega
    rcases h with rfl | rfl | rfl | rfl | rfl | rfl | rfl | rfl | rfl | rfl | rfl | rfl | rfl | rfl | rfl <;> decide
  have := Tryz.slices_Index_string g 0 15 15 words15 ⟨(wordL j).toArray⟩ w (by decide) (by decide) (fun i hi => by
    rw [Nat.zero_add]
    refine (h.cell i).trans ?_
    rw [List.getElem?_toArray, List.getElem?_map, List.getD_eq_getElem?_getD, List.getElem?_eq_getElem hi]; rfl)
  rwa [hx] at this
end Go.Proofs.YtdengmlidckkeaaGreatDoor
