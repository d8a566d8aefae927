import Derived.Test.YthkpmmkddgjhmaaMillG
import Derived.Test.YthkpmmkddgjhmaaOpen
set_option linter.unusedVariables false
namespace Go.Proofs.Ythkpmmkddgjhmaa
open Go Go.RowKit Go.ChangeShapes Go.WideShapes
/-- The number that a value holds. -/
def numOf : Option Value → Int
  | some (.int _ z) => z
  | _ => 0
set_option maxRecDepth 10000 in
theorem array15_open {H : Type} {enc : TypeId × Value → H} {w : World} {base b0 : Nat} {spare : Nat → Bool} {held : Bool} {v : Value} {d : DataW H} {p : List MemPlace} (hv : Value.okWide Try.prog w .any b0 29 v) (h : DataW.Trod enc Try.prog w base spare held 29 v d p) :
    ∃ zs : Nat → Int, v = .agg (a15 zs) := by
  have hu : Try.prog.underlying 29 = some (.array 15 3) := Try.underlying29
  have hC : Try.prog.cellsOf 3 = 1 := by kernel_rfl
  have hA : ∃ cs : Array Value, v = .agg cs ∧ cs.size = 15 := by
    simp only [Value.okWide, hu] at hv
    obtain ⟨cs, h1, h2, _⟩ := hv
    exact ⟨cs, h1, by rw [h2]; kernel_rfl⟩
  obtain ⟨cs, rfl, hsz⟩ := hA
  obtain ⟨n, h⟩ := h
  obtain ⟨xs, m, _, _, hl, hxl, hi⟩ := DataW.trod_array hu h
  have hat : ∀ i, i < 15 → ∃ z, cs[i]? = some (.int .i64 z) := by
    intro i hi15
    have h1 := hi i hi15
    rw [hC, Nat.mul_one, List.getElem?_eq_getElem (by omega)] at h1
    obtain ⟨z, hz, _⟩ := int_of_trod Try.underlying3 h1
    have h2 : ((cs.toList.drop i).take 1)[0]? = some (.int .i64 z) := by
      have e : (Value.agg cs).cells = cs := rfl
      rw [e] at hz; rw [hz]; rfl
    rw [List.getElem?_take, if_pos (by omega), List.getElem?_drop, Nat.add_zero] at h2
    exact ⟨z, by simpa using h2⟩
  suffices q : cs = a15 fun i => numOf cs[i]? from ⟨fun i => numOf cs[i]?, congrArg Value.agg q⟩
  apply Array.ext
  · rw [hsz]; rfl
  · intro i h1 h2
    have hi15 : i < 15 := by omega
    obtain ⟨z, hz⟩ := hat i hi15
    have e1 : cs[i]? = some (.int .i64 (numOf cs[i]?)) := by rw [hz]; rfl
    have e2 : (a15 fun i => numOf cs[i]?)[i]? = some (.int .i64 (numOf cs[i]?)) := by
      have h : i = 0 ∨ i = 1 ∨ i = 2 ∨ i = 3 ∨ i = 4 ∨ i = 5 ∨ i = 6 ∨ i = 7 ∨ i = 8 ∨ i = 9 ∨ i = 10 ∨ i = 11 ∨ i = 12 ∨ i = 13 ∨ i = 14 := by omega
      rcases h with rfl | rfl | rfl | rfl | rfl | rfl | rfl | rfl | rfl | rfl | rfl | rfl | rfl | rfl | rfl <;> rfl
    have e3 := e1.trans e2.symm
    rw [Array.getElem?_eq_getElem h1, Array.getElem?_eq_getElem h2] at e3
    exact Option.some.inj e3
end Go.Proofs.Ythkpmmkddgjhmaa
