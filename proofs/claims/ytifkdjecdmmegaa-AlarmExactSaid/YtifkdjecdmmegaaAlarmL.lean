import Derived.Test.YtifkdjecdmmegaaAlarmI
import Derived.Test.YtifkdjecdmmegaaAlarmJ
import Derived.Test.YtifkdjecdmmegaaOpen
set_option linter.unusedVariables false
namespace Go.Proofs.Ytifkdjecdmmegaa
open Go Go.RowKit Go.ChangeShapes Go.WideShapes
theorem cells3' : Try.prog.cellsOf 3 = 1 := by kernel_rfl
theorem cells39 : Try.prog.cellsOf 39 = 3 := by kernel_rfl
theorem marks_open {H : Type} {enc : TypeId × Value → H} {w : World} {base b0 : Nat} {spare : Nat → Bool} {held : Bool} {v : Value} {d : DataW H} {p : List MemPlace} (hv : Value.okWide Try.prog w .any b0 39 v) (h : DataW.Trod enc Try.prog w base spare held 39 v d p) :
    ∃ a b c, v = .agg #[.int .i64 a, .int .i64 b, .int .i64 c] := by
  obtain ⟨cs, rfl, hs⟩ := okWide_struct Try.underlying39 hv
  rw [cells39] at hs
  clear hv
  obtain ⟨n, h⟩ := h
  obtain ⟨l⟩ := cs
  obtain ⟨m, _, hf⟩ := fields_of_trod Try.underlying39 h
  clear h
  match l, hs with
  | [a0, a1, a2], _ =>
    obtain ⟨y0, h0⟩ := hf 0 _ rfl
    obtain ⟨y1, h1⟩ := hf 1 _ rfl
    obtain ⟨y2, h2⟩ := hf 2 _ rfl
    obtain ⟨z0, g0, _⟩ := int_of_trod Try.underlying3 (cs := [a0]) (by rw [show [a0] = ([a0, a1, a2].drop 0).take (Try.prog.cellsOf 3) by rw [cells3']; rfl]; exact h0)
    obtain ⟨z1, g1, _⟩ := int_of_trod Try.underlying3 (cs := [a1]) (by rw [show [a1] = ([a0, a1, a2].drop 1).take (Try.prog.cellsOf 3) by rw [cells3']; rfl]; exact h1)
    obtain ⟨z2, g2, _⟩ := int_of_trod Try.underlying3 (cs := [a2]) (by rw [show [a2] = ([a0, a1, a2].drop 2).take (Try.prog.cellsOf 3) by rw [cells3']; rfl]; exact h2)
    simp only [List.cons.injEq, and_true] at g0 g1 g2
    subst g0 g1 g2
    exact ⟨_, _, _, rfl⟩
theorem alarmExact_open {H : Type} {enc : TypeId × Value → H} (w : World) (b0 : Nat) {base : Nat} {spare : Nat → Bool} {held : Bool} {v0 v1 v2 : Value} {d0 d1 d2 : DataW H} {p0 p1 p2 : List MemPlace} (h0 : DataW.Trod enc Try.prog w base spare held 39 v0 d0 p0) (h1 : DataW.Trod enc Try.prog w base spare held 40 v1 d1 p1) (h2 : DataW.Trod enc Try.prog w base spare held 40 v2 d2 p2)
    (hv0 : Value.okWide Try.prog w .any b0 39 v0) (hv1 : Value.okWide Try.prog w .any b0 40 v1) (hv2 : Value.okWide Try.prog w .any b0 40 v2) :
    Calls Try.prog 7 #[v0, v1, v2] w fun e w' => e = .returned (.bool true) ∧ Below w.heap.size w w' := by
  obtain ⟨a, b, c, rfl⟩ := marks_open hv0 h0
  obtain ⟨a1, l1, c1, rfl, hl1, hm1, hi1⟩ := ints_open Try.underlying40 Try.underlying3 cells3' hv1 h1
  obtain ⟨a2, l2, c2, rfl, hl2, hm2, hi2⟩ := ints_open Try.underlying40 Try.underlying3 cells3' hv2 h2
  unfold maxLen at hm1 hm2
  rcases hg : goodB a b c with _ | _
  · exact alarmExact_bad a b c a1 a2 l1 c1 l2 c2 w (by omega) (by omega) hi1 hi2 hg
  · exact alarmExact_good a b c a1 a2 l1 c1 l2 c2 w (by omega) (by omega) hi1 hi2 hg
theorem alarmOrder_open {H : Type} {enc : TypeId × Value → H} (w : World) (b0 : Nat) {base : Nat} {spare : Nat → Bool} {held : Bool} {v0 v1 v2 v3 v4 : Value} {d0 d1 d2 d3 d4 : DataW H} {p0 p1 p2 p3 p4 : List MemPlace} (h0 : DataW.Trod enc Try.prog w base spare held 39 v0 d0 p0) (h1 : DataW.Trod enc Try.prog w base spare held 40 v1 d1 p1) (h2 : DataW.Trod enc Try.prog w base spare held 3 v2 d2 p2) (h3 : DataW.Trod enc Try.prog w base spare held 3 v3 d3 p3) (h4 : DataW.Trod enc Try.prog w base spare held 3 v4 d4 p4)
    (hv0 : Value.okWide Try.prog w .any b0 39 v0) (hv1 : Value.okWide Try.prog w .any b0 40 v1) (hv2 : Value.okWide Try.prog w .any b0 3 v2) (hv3 : Value.okWide Try.prog w .any b0 3 v3) (hv4 : Value.okWide Try.prog w .any b0 3 v4) :
    Calls Try.prog 6 #[v0, v1, v2, v3, v4] w fun e w' => e = .returned (.bool true) ∧ Below w.heap.size w w' := by
  obtain ⟨a, b, c, rfl⟩ := marks_open hv0 h0
  obtain ⟨a1, l1, c1, rfl, hl1, hm1, hi1⟩ := ints_open Try.underlying40 Try.underlying3 cells3' hv1 h1
  obtain ⟨x, rfl, _⟩ := int_open Try.underlying3 hv2 h2
  obtain ⟨y, rfl, _⟩ := int_open Try.underlying3 hv3 h3
  obtain ⟨z, rfl, _⟩ := int_open Try.underlying3 hv4 h4
  unfold maxLen at hm1
  rcases hg : goodB a b c with _ | _
  · exact alarmOrder_bad a b c a1 l1 c1 x y z w hg
  · exact alarmOrder_good a b c a1 l1 c1 x y z w (by omega) hi1 hg
end Go.Proofs.Ytifkdjecdmmegaa
