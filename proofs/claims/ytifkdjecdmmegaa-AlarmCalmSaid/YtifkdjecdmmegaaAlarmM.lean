import Derived.Test.YtifkdjecdmmegaaAlarmK
import Derived.Test.YtifkdjecdmmegaaOpen
set_option linter.unusedVariables false
namespace Go.Proofs.Ytifkdjecdmmegaa
open Go Go.RowKit Go.ChangeShapes Go.WideShapes
theorem alarmCalm_open {H : Type} {enc : TypeId × Value → H} (w : World) (b0 : Nat) {base : Nat} {spare : Nat → Bool} {held : Bool} {v0 v1 v2 : Value} {d0 d1 d2 : DataW H} {p0 p1 p2 : List MemPlace} (h0 : DataW.Trod enc Try.prog w base spare held 3 v0 d0 p0) (h1 : DataW.Trod enc Try.prog w base spare held 3 v1 d1 p1) (h2 : DataW.Trod enc Try.prog w base spare held 40 v2 d2 p2)
    (hv0 : Value.okWide Try.prog w .any b0 3 v0) (hv1 : Value.okWide Try.prog w .any b0 3 v1) (hv2 : Value.okWide Try.prog w .any b0 40 v2) :
    Calls Try.prog 8 #[v0, v1, v2] w fun e w' => e = .returned (.bool true) ∧ Below w.heap.size w w' := by
  obtain ⟨x, rfl, _⟩ := int_open Try.underlying3 hv0 h0
  obtain ⟨y, rfl, _⟩ := int_open Try.underlying3 hv1 h1
  obtain ⟨a1, l1, c1, rfl, hl1, hm1, hi1⟩ := ints_open Try.underlying40 Try.underlying3 (by kernel_rfl) hv2 h2
  unfold maxLen at hm1
  exact alarmCalm_walk x y a1 l1 c1 w (by omega) hi1
end Go.Proofs.Ytifkdjecdmmegaa
