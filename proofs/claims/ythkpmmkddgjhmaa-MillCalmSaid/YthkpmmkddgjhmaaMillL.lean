import Derived.Test.YthkpmmkddgjhmaaMillK
import Derived.Test.YthkpmmkddgjhmaaOpen
set_option linter.unusedVariables false
namespace Go.Proofs.Ythkpmmkddgjhmaa
open Go Go.RowKit Go.ChangeShapes Go.WideShapes
set_option maxRecDepth 100000 in
theorem millCalm_open {H : Type} {enc : TypeId × Value → H} (w : World) (b0 : Nat) {base : Nat} {spare : Nat → Bool} {held : Bool} {v0 v1 v2 : Value} {d0 d1 d2 : DataW H} {p0 p1 p2 : List MemPlace} (h0 : DataW.Trod enc Try.prog w base spare held 22 v0 d0 p0) (h1 : DataW.Trod enc Try.prog w base spare held 3 v1 d1 p1) (h2 : DataW.Trod enc Try.prog w base spare held 3 v2 d2 p2)
    (hv0 : Value.okWide Try.prog w .any b0 22 v0) (hv1 : Value.okWide Try.prog w .any b0 3 v1) (hv2 : Value.okWide Try.prog w .any b0 3 v2) :
    Calls Try.prog 3 #[v0, v1, v2] w fun e w' => e = .returned (.bool true) ∧ Below w.heap.size w w' := by
  obtain ⟨s, rfl, hs⟩ := int_open Try.underlying22 hv0 h0
  obtain ⟨n, rfl, _⟩ := int_open Try.underlying3 hv1 h1
  obtain ⟨k, rfl, _⟩ := int_open Try.underlying3 hv2 h2
  exact millCalm_walk s n k w (bounds_u64 hs)
end Go.Proofs.Ythkpmmkddgjhmaa
