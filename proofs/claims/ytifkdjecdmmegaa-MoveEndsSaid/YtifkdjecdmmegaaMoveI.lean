import Derived.Test.YtifkdjecdmmegaaMoveG
import Derived.Test.YtifkdjecdmmegaaOpen
set_option linter.unusedVariables false
namespace Go.Proofs.Ytifkdjecdmmegaa
open Go Go.RowKit Go.ChangeShapes Go.WideShapes
theorem moveEnds_open {H : Type} {enc : TypeId × Value → H} (w : World) (b0 : Nat) {base : Nat} {spare : Nat → Bool} {held : Bool} {v0 v1 : Value} {d0 d1 : DataW H} {p0 p1 : List MemPlace} (h0 : DataW.Trod enc Try.prog w base spare held 35 v0 d0 p0) (h1 : DataW.Trod enc Try.prog w base spare held 3 v1 d1 p1)
    (hv0 : Value.okWide Try.prog w .any b0 35 v0) (hv1 : Value.okWide Try.prog w .any b0 3 v1) :
    Calls Try.prog 4 #[v0, v1] w fun e w' => e = .returned (.bool true) ∧ Below w.heap.size w w' := by
  obtain ⟨c, rfl, hc⟩ := int_open Try.underlying3 hv1 h1
  obtain ⟨a, len, cap, rfl, hl, hm, hi⟩ := bools_open Try.underlying35 Try.underlying4 (by kernel_rfl) hv0 h0
  unfold maxLen at hm
  exact moveEnds_walk a len cap c w (by omega) (bounds_i64 hc) hi
end Go.Proofs.Ytifkdjecdmmegaa
