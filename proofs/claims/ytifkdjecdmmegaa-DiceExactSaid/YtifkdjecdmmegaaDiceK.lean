import Derived.Test.YtifkdjecdmmegaaDiceI
import Derived.Test.YtifkdjecdmmegaaOpen
set_option linter.unusedVariables false
namespace Go.Proofs.Ytifkdjecdmmegaa
open Go Go.RowKit Go.ChangeShapes Go.WideShapes
theorem zs_of {w : World} {a : Option Addr} {len : Nat} (h : 0 < len → ∃ b o, a = some ⟨b, o, none⟩ ∧ b < w.heap.size ∧ ∀ i, i < len → ∃ z, w.cell? ⟨b, o + i, none⟩ = some (.int .i64 z) ∧ (Lit.int .i64 z).wf = true) : ∃ zs, IntsZ w a len zs := by
  by_cases hp : 0 < len
  · obtain ⟨b, o, ha, hb, hc⟩ := h hp
    obtain ⟨f, hf⟩ := Go.Deep.choose_lt (p := fun i z => w.cell? ⟨b, o + i, none⟩ = some (.int .i64 z)) (fun i hi => let ⟨z, hz, _⟩ := hc i hi; ⟨z, hz⟩)
    exact ⟨f, fun _ => ⟨b, o, ha, hb, hf⟩⟩
  · exact ⟨fun _ => 0, fun h => absurd h hp⟩
theorem diceBounds_open {H : Type} {enc : TypeId × Value → H} (w : World) (b0 : Nat) {base : Nat} {spare : Nat → Bool} {held : Bool} {v0 v1 v2 : Value} {d0 d1 d2 : DataW H} {p0 p1 p2 : List MemPlace} (h0 : DataW.Trod enc Try.prog w base spare held 51 v0 d0 p0) (h1 : DataW.Trod enc Try.prog w base spare held 3 v1 d1 p1) (h2 : DataW.Trod enc Try.prog w base spare held 40 v2 d2 p2)
    (hv0 : Value.okWide Try.prog w .any b0 51 v0) (hv1 : Value.okWide Try.prog w .any b0 3 v1) (hv2 : Value.okWide Try.prog w .any b0 40 v2) :
    Calls Try.prog 10 #[v0, v1, v2] w fun e w' => e = .returned (.bool true) ∧ Below w.heap.size w w' := by
  obtain ⟨s, rfl, hs⟩ := int_open Try.underlying51 hv0 h0
  obtain ⟨n, rfl, _⟩ := int_open Try.underlying3 hv1 h1
  obtain ⟨a1, l1, c1, rfl, hl1, hm1, hi1⟩ := ints_open Try.underlying40 Try.underlying3 (by kernel_rfl) hv2 h2
  unfold maxLen at hm1
  obtain ⟨zs, hz⟩ := zs_of hi1
  exact diceBounds_walk s n a1 l1 c1 zs w (bounds_u64 hs) (by omega) hz
theorem cells3d : Try.prog.cellsOf 3 = 1 := by kernel_rfl
theorem cells40d : Try.prog.cellsOf 40 = 1 := by kernel_rfl
theorem cells59d : Try.prog.cellsOf 59 = 4 := by kernel_rfl
theorem diceExact_open {H : Type} {enc : TypeId × Value → H} (w : World) (b0 : Nat) {base : Nat} {spare : Nat → Bool} {held : Bool} {v0 v1 : Value} {d0 d1 : DataW H} {p0 p1 : List MemPlace} (h0 : DataW.Trod enc Try.prog w base spare held 51 v0 d0 p0) (h1 : DataW.Trod enc Try.prog w base spare held 52 v1 d1 p1)
    (hv0 : Value.okWide Try.prog w .any b0 51 v0) (hv1 : Value.okWide Try.prog w .any b0 52 v1) :
    Calls Try.prog 9 #[v0, v1] w fun e w' => e = .returned (.bool true) ∧ Below w.heap.size w w' := by
  obtain ⟨s, rfl, hs⟩ := int_open Try.underlying51 hv0 h0
  obtain ⟨a1, l1, c1, rfl, hl1, hm1, hi1⟩ := slice_opens Try.underlying52 cells59d (by omega) hv1 h1
  unfold maxLen at hm1
  refine diceExact_walk s a1 l1 c1 w (bounds_u64 hs) (by omega) fun hp => ?_
  obtain ⟨b, o, ha, hb, hi⟩ := hi1 hp
  refine ⟨b, o, ha, hb, fun i hil => ?_⟩
  obtain ⟨m, ds, y, hd, hc, ht⟩ := hi i hil
  obtain ⟨m', _, hf⟩ := fields_of_trod Try.underlying59 ht
  clear ht
  match ds, hd with
  | [a0, a1, a2, a3], _ =>
    have c0 := hc 0 (by omega)
    have c1 := hc 1 (by omega)
    have c2 := hc 2 (by omega)
    have c3 := hc 3 (by omega)
    simp only [List.getElem?_cons_zero, List.getElem?_cons_succ, Nat.add_zero] at c0 c1 c2 c3
    clear hc
    obtain ⟨y0, h0⟩ := hf 0 _ rfl
    obtain ⟨y1, h1⟩ := hf 1 _ rfl
    obtain ⟨y2, h2⟩ := hf 2 _ rfl
    obtain ⟨y3, h3⟩ := hf 3 _ rfl
    obtain ⟨z0, g0, _⟩ := int_of_trod Try.underlying3 (cs := [a0]) (by rw [show [a0] = ([a0, a1, a2, a3].drop 0).take (Try.prog.cellsOf 3) by rw [cells3d]; rfl]; exact h0)
    obtain ⟨z1, g1, w1⟩ := int_of_trod Try.underlying3 (cs := [a1]) (by rw [show [a1] = ([a0, a1, a2, a3].drop 1).take (Try.prog.cellsOf 3) by rw [cells3d]; rfl]; exact h1)
    obtain ⟨z2, g2, w2⟩ := int_of_trod Try.underlying3 (cs := [a2]) (by rw [show [a2] = ([a0, a1, a2, a3].drop 2).take (Try.prog.cellsOf 3) by rw [cells3d]; rfl]; exact h2)
    obtain ⟨la, ll, lc, g3, hll, hlm, hli⟩ := slice_of_trod Try.underlying40 cells3d (by omega) (cs := [a3]) (by rw [show [a3] = ([a0, a1, a2, a3].drop 3).take (Try.prog.cellsOf 40) by rw [cells40d]; rfl]; exact h3)
    simp only [List.cons.injEq, and_true] at g0 g1 g2 g3
    subst g0 g1 g2 g3
    unfold maxLen at hlm
    obtain ⟨zs, hz⟩ := zs_of (w := w) (a := la) (len := ll) (fun hp => by
      obtain ⟨b', o', ha', hb', hi'⟩ := hli hp
      refine ⟨b', o', ha', hb', fun i hil => ?_⟩
      obtain ⟨m, ds, y, hd, hc, ht⟩ := hi' i hil
      obtain ⟨z, rfl, hw⟩ := int_of_trod Try.underlying3 ht
      exact ⟨z, by have := hc 0 (by omega); simpa using this, hw⟩)
    exact ⟨z0, z1, z2, la, ll, lc, zs, c0, c1, c2, c3, hz, by omega, bounds_i64 w1, bounds_i64 w2⟩
end Go.Proofs.Ytifkdjecdmmegaa
