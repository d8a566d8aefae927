import Derived.Test.YteommjbbjdbhkaaSlotsH
import Derived.Test.YteommjbbjdbhkaaOpen
set_option linter.unusedVariables false
namespace Go.Proofs.Yteommjbbjdbhkaa
open Go Go.RowKit Go.ChangeShapes Go.WideShapes
theorem cells3v : Try.prog.cellsOf 3 = 1 := by kernel_rfl
theorem cells36v : Try.prog.cellsOf 36 = 2 := by kernel_rfl
set_option maxRecDepth 100000 in
theorem slotsExact_big (n' : Int) (a1 : Option Addr) (l1 c1 : Nat) (w : World) (h20 : 20 < n') :
    Calls Try.prog 4 #[.int .i64 n', .slice a1 l1 c1] w fun e w' => e = .returned (.bool true) ∧ Below w.heap.size w w' := by
  refine opq fun R HR => ?_
  go_enter Try.func4, Try.ntmps4
  go_wp2_with fail
  refine (sawake_any _).mono ?_
  rintro e w1 ⟨rfl, M⟩
  have L := Lib.hid M
  clear M
  go_wp2
  exact HR.out _ _ ⟨rfl, Same.below L.out⟩
theorem slotsExact_open {H : Type} {enc : TypeId × Value → H} (w : World) (b0 : Nat) {base : Nat} {spare : Nat → Bool} {held : Bool} {v0 v1 : Value} {d0 d1 : DataW H} {p0 p1 : List MemPlace} (h0 : DataW.Trod enc Try.prog w base spare held 3 v0 d0 p0) (h1 : DataW.Trod enc Try.prog w base spare held 34 v1 d1 p1)
    (hv0 : Value.okWide Try.prog w .any b0 3 v0) (hv1 : Value.okWide Try.prog w .any b0 34 v1) :
    Calls Try.prog 4 #[v0, v1] w fun e w' => e = .returned (.bool true) ∧ Below w.heap.size w w' := by
  obtain ⟨n', rfl, _⟩ := int_open Try.underlying3 hv0 h0
  obtain ⟨a1, l1, c1, rfl, hl1, hm1, hi1⟩ := slice_opens Try.underlying34 cells36v (by omega) hv1 h1
  unfold maxLen at hm1
  have hA : ActsAt w a1 l1 := by
    intro hp
    obtain ⟨b, o, ha, hb, hi⟩ := hi1 hp
    refine ⟨b, o, ha, hb, fun i hil => ?_⟩
    obtain ⟨m, ds, y, hd, hc, ht⟩ := hi i hil
    obtain ⟨m', _, hf⟩ := fields_of_trod Try.underlying36 ht
    clear ht
    match ds, hd with
    | [x0, x1], _ =>
      have c0 := hc 0 (by omega)
      have c1 := hc 1 (by omega)
      simp only [List.getElem?_cons_zero, List.getElem?_cons_succ, Nat.add_zero] at c0 c1
      clear hc
      obtain ⟨y0, h0⟩ := hf 0 _ rfl
      obtain ⟨y1, h1⟩ := hf 1 _ rfl
      obtain ⟨z0, g0, _⟩ := int_of_trod Try.underlying3 (cs := [x0]) (by rw [show [x0] = ([x0, x1].drop 0).take (Try.prog.cellsOf 3) by rw [cells3v]; rfl]; exact h0)
      obtain ⟨z1, g1, _⟩ := int_of_trod Try.underlying3 (cs := [x1]) (by rw [show [x1] = ([x0, x1].drop 1).take (Try.prog.cellsOf 3) by rw [cells3v]; rfl]; exact h1)
      simp only [List.cons.injEq, and_true] at g0 g1
      subst g0 g1
      exact ⟨z0, z1, c0, c1⟩
  by_cases h20 : 20 < n'
  · exact slotsExact_big n' a1 l1 c1 w h20
  · rcases Int.lt_or_le n' 0 with h | h
    · exact slotsExact_of n' 0 a1 l1 c1 w (by omega) hA (by omega) (fun w => new_neg n' w h) (.inl ⟨h, rfl⟩)
    · obtain ⟨m, rfl⟩ : ∃ m : Nat, n' = m := ⟨n'.toNat, by omega⟩
      exact slotsExact_of m m a1 l1 c1 w (by omega) hA (by omega) (fun w => new_any m w (by omega)) (.inr rfl)
end Go.Proofs.Yteommjbbjdbhkaa
