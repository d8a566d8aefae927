import Derived.Test.YthkpmmkddgjhmaaMillEB
import Derived.Test.YthkpmmkddgjhmaaMillEE
set_option linter.unusedVariables false
namespace Go.Proofs.Ythkpmmkddgjhmaa
open Go Go.RowKit Go.ChangeShapes Go.WideShapes
set_option maxRecDepth 100000 in
theorem millExact_open {H : Type} {enc : TypeId × Value → H} (w : World) (b0 : Nat) {base : Nat} {spare : Nat → Bool} {held : Bool} {v0 v1 v2 v3 : Value} {d0 d1 d2 d3 : DataW H} {p0 p1 p2 p3 : List MemPlace} (h0 : DataW.Trod enc Try.prog w base spare held 22 v0 d0 p0) (h1 : DataW.Trod enc Try.prog w base spare held 3 v1 d1 p1) (h2 : DataW.Trod enc Try.prog w base spare held 29 v2 d2 p2) (h3 : DataW.Trod enc Try.prog w base spare held 3 v3 d3 p3)
    (hv0 : Value.okWide Try.prog w .any b0 22 v0) (hv1 : Value.okWide Try.prog w .any b0 3 v1) (hv2 : Value.okWide Try.prog w .any b0 29 v2) (hv3 : Value.okWide Try.prog w .any b0 3 v3) :
    Calls Try.prog 4 #[v0, v1, v2, v3] w fun e w' => e = .returned (.bool true) ∧ Below w.heap.size w w' := by
  obtain ⟨s, rfl, hs⟩ := int_open Try.underlying22 hv0 h0
  obtain ⟨n, rfl, _⟩ := int_open Try.underlying3 hv1 h1
  obtain ⟨zs, rfl⟩ := array15_open hv2 h2
  obtain ⟨k, rfl, _⟩ := int_open Try.underlying3 hv3 h3
  exact millExact_walk s n k zs w (bounds_u64 hs)
end Go.Proofs.Ythkpmmkddgjhmaa
