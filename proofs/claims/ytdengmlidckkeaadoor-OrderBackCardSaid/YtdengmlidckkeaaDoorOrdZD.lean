import Derived.Test.YtdengmlidckkeaaDoorOrdZC
import Derived.Test.YtdengmlidckkeaaDoorOrdX
set_option linter.unusedSimpArgs false
set_option linter.unusedVariables false
namespace Go.Proofs.YtdengmlidckkeaaDoor
open Go Go.ChangeShapes Go.WideShapes Go.ChangeAt Go.RowKit
theorem arr2_open {H : Type} {enc : TypeId × Value → H} {W : World} {base : Nat} {spare : Nat → Bool} {held : Bool} {v : Value} {d : DataW H} {p : List MemPlace} (h : DataW.Trod enc Tryd.prog W base spare held 46 v d p) :
    ∃ n m : Int, v = .agg #[.int .i64 n, .int .i64 m] := by
  obtain ⟨f, h⟩ := h
  obtain ⟨xs, m, _, _, hl, hxl, hel⟩ := DataW.trod_array Tryd.underlying46 h
  have c46 : Tryd.prog.cellsOf 46 = 2 := by kernel_rfl
  have c3 : Tryd.prog.cellsOf 3 = 1 := by kernel_rfl
  rw [c46] at hl
  rw [c3] at hel
  have h0 := hel 0 (by omega)
  have h1 := hel 1 (by omega)
  rw [List.getElem?_eq_getElem (by omega)] at h0 h1
  obtain ⟨z0, e0, _⟩ := DataW.trod_int Tryd.underlying3 h0
  obtain ⟨z1, e1, _⟩ := DataW.trod_int Tryd.underlying3 h1
  cases v with
  | agg cs =>
    simp only [Value.cells] at hl e0 e1
    obtain ⟨x, y, hxy⟩ := len2 hl
    rw [hxy] at e0 e1
    simp at e0 e1
    subst e0
    subst e1
    have he : cs = #[Value.int .i64 z0, Value.int .i64 z1] := Array.ext' hxy
    exact ⟨z0, z1, by rw [he]⟩
  | _ => simp [Value.cells] at hl
end Go.Proofs.YtdengmlidckkeaaDoor
