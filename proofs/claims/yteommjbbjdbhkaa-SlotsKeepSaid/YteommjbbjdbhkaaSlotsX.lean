import Derived.Test.YteommjbbjdbhkaaSlotsU
import Derived.Test.YteommjbbjdbhkaaOpen
set_option linter.unusedVariables false
namespace Go.Proofs.Yteommjbbjdbhkaa
open Go Go.RowKit Go.ChangeShapes Go.WideShapes
theorem slotsKeep_open {H : Type} {enc : TypeId × Value → H} (w : World) (b0 : Nat) {base : Nat} {spare : Nat → Bool} {held : Bool} {v0 v1 : Value} {d0 d1 : DataW H} {p0 p1 : List MemPlace} (h0 : DataW.Trod enc Try.prog w base spare held 3 v0 d0 p0) (h1 : DataW.Trod enc Try.prog w base spare held 22 v1 d1 p1)
    (hv0 : Value.okWide Try.prog w .any b0 3 v0) (hv1 : Value.okWide Try.prog w .any b0 22 v1) :
    Calls Try.prog 5 #[v0, v1] w fun e w' => e = .returned (.bool true) ∧ Below w.heap.size w w' := by
  obtain ⟨n', rfl, _⟩ := int_open Try.underlying3 hv0 h0
  obtain ⟨a1, l1, c1, rfl, hl1, hm1, hi1⟩ := ints_open Try.underlying22 Try.underlying3 (by kernel_rfl) hv1 h1
  unfold maxLen at hm1
  exact slotsKeep_walk n' a1 l1 c1 w (by omega) hi1
end Go.Proofs.Yteommjbbjdbhkaa
