import Derived.Test.YtifkdjecdmmegaaMoveE
import Derived.Test.YtifkdjecdmmegaaMoveF
import Derived.OpenShut
import Derived.WideShapes
import Derived.Lib.SmallJoins
namespace Go.Proofs.Ytifkdjecdmmegaa
open Go Go.RowKit Go.ChangeShapes Go.WideShapes
section
variable {H : Type} {enc : TypeId × Value → H} {P : Program} {w : World} {base : Nat} {spare : Nat → Bool} {held : Bool}
theorem int_of_trod {t : TypeId} {k : IntKind} {n : Nat} {cs : List Value} {x : DataW H × List MemPlace} (ht : P.underlying t = some (.int k)) (h : DataW.trod enc P w base spare held n t cs = some x) :
    ∃ z, cs = [.int k z] ∧ (Lit.int k z).wf = true := by
  obtain ⟨z, hz, _, hw⟩ := DataW.trod_int ht h; exact ⟨z, hz, hw⟩
theorem int_open {b0 : Nat} {t : TypeId} {k : IntKind} {v : Value} {d : DataW H} {p : List MemPlace} (ht : P.underlying t = some (.int k)) (hv : Value.okWide P w .any b0 t v) (h : DataW.Trod enc P w base spare held t v d p) :
    ∃ z, v = .int k z ∧ (Lit.int k z).wf = true := by
  obtain ⟨m, rfl⟩ := okWide_int ht hv
  obtain ⟨n, h⟩ := h
  obtain ⟨z, hz, hw⟩ := int_of_trod ht h
  simp [Value.cells] at hz
  subst hz
  exact ⟨_, rfl, hw⟩
theorem fields_of_trod {t : TypeId} {fs : Array Field} {n : Nat} {cs : List Value} {x : DataW H × List MemPlace} (ht : P.underlying t = some (.struct fs)) (h : DataW.trod enc P w base spare held n t cs = some x) :
    ∃ m, cs.length = P.cellsOf t ∧ ∀ (i : Nat) (f : Field), fs[i]? = some f → ∃ y, DataW.trod enc P w base spare held m f.type ((cs.drop f.offset).take (P.cellsOf f.type)) = some y := by
  obtain ⟨xs, m, _, _, hl, hxl, hf⟩ := DataW.trod_struct ht h
  refine ⟨m, hl, fun i f hi => ?_⟩
  have : i < xs.length := by rw [hxl]; exact (Array.getElem?_eq_some_iff.1 hi).1
  exact ⟨xs[i], (hf i f hi).trans (List.getElem?_eq_getElem this)⟩
end
theorem cells3 : Try.prog.cellsOf 3 = 1 := by kernel_rfl
theorem cells23 : Try.prog.cellsOf 23 = 2 := by kernel_rfl
theorem cells25 : Try.prog.cellsOf 25 = 6 := by kernel_rfl
theorem spot_of_trod {H : Type} {enc : TypeId × Value → H} {w : World} {base : Nat} {spare : Nat → Bool} {held : Bool} {n : Nat} {cs : List Value} {x : DataW H × List MemPlace} (h : DataW.trod enc Try.prog w base spare held n 23 cs = some x) :
    ∃ t s, cs = [.int .i64 t, .int .i64 s] ∧ (-9223372036854775808 ≤ t ∧ t ≤ 9223372036854775807) := by
  obtain ⟨m, hl, hf⟩ := fields_of_trod Try.underlying23 h
  rw [cells23] at hl
  match cs, hl with
  | [a, b], _ =>
    obtain ⟨y0, h0⟩ := hf 0 _ rfl
    obtain ⟨y1, h1⟩ := hf 1 _ rfl
    obtain ⟨z0, g0, w0⟩ := int_of_trod Try.underlying3 (cs := [a]) (by rw [show [a] = ([a, b].drop 0).take (Try.prog.cellsOf 3) by rw [cells3]; rfl]; exact h0)
    obtain ⟨z1, g1, _⟩ := int_of_trod Try.underlying3 (cs := [b]) (by rw [show [b] = ([a, b].drop 1).take (Try.prog.cellsOf 3) by rw [cells3]; rfl]; exact h1)
    simp only [List.cons.injEq, and_true] at g0 g1
    subst g0 g1
    exact ⟨_, _, rfl, bounds_i64 w0⟩
theorem spot_open {H : Type} {enc : TypeId × Value → H} {w : World} {base b0 : Nat} {spare : Nat → Bool} {held : Bool} {v : Value} {d : DataW H} {p : List MemPlace} (hv : Value.okWide Try.prog w .any b0 23 v) (h : DataW.Trod enc Try.prog w base spare held 23 v d p) :
    ∃ t s, v = sp t s ∧ (-9223372036854775808 ≤ t ∧ t ≤ 9223372036854775807) := by
  obtain ⟨cs, rfl, _⟩ := okWide_struct Try.underlying23 hv
  obtain ⟨n, h⟩ := h
  obtain ⟨t, s, e, b⟩ := spot_of_trod h
  obtain ⟨l⟩ := cs
  simp [Value.cells] at e
  subst e
  exact ⟨t, s, rfl, b⟩
theorem mv_open {H : Type} {enc : TypeId × Value → H} {w : World} {base b0 : Nat} {spare : Nat → Bool} {held : Bool} {v : Value} {d : DataW H} {p : List MemPlace} (hv : Value.okWide Try.prog w .any b0 25 v) (h : DataW.Trod enc Try.prog w base spare held 25 v d p) :
    ∃ c ft fs tt ts ph, v = mv c ft fs tt ts ph ∧ ph ≤ 9223372036854775807 ∧ (-9223372036854775808 ≤ ft ∧ ft ≤ 9223372036854775807) ∧ (-9223372036854775808 ≤ tt ∧ tt ≤ 9223372036854775807) := by
  obtain ⟨cs, rfl, hs⟩ := okWide_struct Try.underlying25 hv
  rw [cells25] at hs
  clear hv
  obtain ⟨n, h⟩ := h
  obtain ⟨l⟩ := cs
  obtain ⟨m, _, hf⟩ := fields_of_trod Try.underlying25 h
  clear h
  match l, hs with
  | [a0, a1, a2, a3, a4, a5], _ =>
    obtain ⟨y0, h0⟩ := hf 0 _ rfl
    obtain ⟨y1, h1⟩ := hf 1 _ rfl
    obtain ⟨y2, h2⟩ := hf 2 _ rfl
    obtain ⟨y3, h3⟩ := hf 3 _ rfl
    obtain ⟨z0, g0, _⟩ := int_of_trod Try.underlying3 (cs := [a0]) (by rw [show [a0] = ([a0, a1, a2, a3, a4, a5].drop 0).take (Try.prog.cellsOf 3) by rw [cells3]; rfl]; exact h0)
    obtain ⟨t1, s1, g1, b1⟩ := spot_of_trod (cs := [a1, a2]) (by rw [show [a1, a2] = ([a0, a1, a2, a3, a4, a5].drop 1).take (Try.prog.cellsOf 23) by rw [cells23]; rfl]; exact h1)
    obtain ⟨t2, s2, g2, b2⟩ := spot_of_trod (cs := [a3, a4]) (by rw [show [a3, a4] = ([a0, a1, a2, a3, a4, a5].drop 3).take (Try.prog.cellsOf 23) by rw [cells23]; rfl]; exact h2)
    obtain ⟨z3, g3, w3⟩ := int_of_trod Try.underlying3 (cs := [a5]) (by rw [show [a5] = ([a0, a1, a2, a3, a4, a5].drop 5).take (Try.prog.cellsOf 3) by rw [cells3]; rfl]; exact h3)
    simp only [List.cons.injEq, and_true] at g0 g1 g2 g3
    obtain ⟨rfl, rfl⟩ := g1
    obtain ⟨rfl, rfl⟩ := g2
    subst g0 g3
    exact ⟨_, _, _, _, _, _, rfl, (bounds_i64 w3).2, b1, b2⟩
theorem moveExact_open {H : Type} {enc : TypeId × Value → H} (w : World) (b0 : Nat) {base : Nat} {spare : Nat → Bool} {held : Bool} {v : Value} {d : DataW H} {p : List MemPlace} (h : DataW.Trod enc Try.prog w base spare held 25 v d p) (hv : Value.okWide Try.prog w .any b0 25 v) :
    Calls Try.prog 3 #[v] w fun e w' => e = .returned (.bool true) ∧ Below w.heap.size w w' := by
  obtain ⟨c, ft, fs, tt, ts, ph, rfl, hp, b1, b2⟩ := mv_open hv h
  exact moveExact_walk c ft fs tt ts ph w hp b1 b2
theorem moveBack_open {H : Type} {enc : TypeId × Value → H} (w : World) (b0 : Nat) {base : Nat} {spare : Nat → Bool} {held : Bool} {v0 v1 v2 : Value} {d0 d1 d2 : DataW H} {p0 p1 p2 : List MemPlace} (h0 : DataW.Trod enc Try.prog w base spare held 3 v0 d0 p0) (h1 : DataW.Trod enc Try.prog w base spare held 23 v1 d1 p1) (h2 : DataW.Trod enc Try.prog w base spare held 23 v2 d2 p2)
    (hv0 : Value.okWide Try.prog w .any b0 3 v0) (hv1 : Value.okWide Try.prog w .any b0 23 v1) (hv2 : Value.okWide Try.prog w .any b0 23 v2) :
    Calls Try.prog 5 #[v0, v1, v2] w fun e w' => e = .returned (.bool true) ∧ Below w.heap.size w w' := by
  obtain ⟨c, rfl, _⟩ := int_open Try.underlying3 hv0 h0
  obtain ⟨a, b, rfl, _⟩ := spot_open hv1 h1
  obtain ⟨a', b', rfl, _⟩ := spot_open hv2 h2
  exact moveBack_walk c a b a' b' w
end Go.Proofs.Ytifkdjecdmmegaa
