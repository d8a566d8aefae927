import Derived.Test.YteommjbbjdbhkaaSlotsG
import Derived.Test.YteommjbbjdbhkaaSlotsF
import Derived.Test.YteommjbbjdbhkaaSlotsE
set_option linter.unusedSimpArgs false
set_option linter.unusedVariables false
namespace Go.Proofs.Yteommjbbjdbhkaa
open Go Go.RowKit
theorem takeV_no {f : Nat → Int} {n : Nat} {least : Int} (h : (cnt f 0 n : Int) < least) : takeV f n least = #[.int .i64 0, .int .i64 5] ∧ takeF f n least = f := ⟨if_pos h, if_pos h⟩
theorem takeV_ok {f : Nat → Int} {n : Nat} {least : Int} (h : ¬ (cnt f 0 n : Int) < least) (hl : 1 ≤ least) :
    ∃ j : Nat, j < n ∧ low f 0 0 n = j ∧ f j = 0 ∧ takeV f n least = #[.int .i64 j, .int .i64 0] ∧ takeF f n least = upd f j 1 := by
  obtain ⟨j, hj, hlow, hfj⟩ := low_of_pos (f := f) (x := 0) (n := n) (by omega)
  exact ⟨j, hj, hlow, hfj, by unfold takeV; rw [if_neg h, hlow], by unfold takeF; rw [if_neg h, hlow, Int.toNat_natCast]⟩
theorem usedL_get {f : Nat → Int} {z n : Nat} (hz : z < n) (hu : (f z == 1 || f z == 2) = true) : (usedL f n)[(usedL f z).length]? = some z := by
  induction n with
  | zero => omega
  | succ n ih =>
    by_cases e : z = n
    · subst e
      rw [usedL_succ, if_pos hu, List.getElem?_append_right (Nat.le_refl _), Nat.sub_self]; rfl
    · have := ih (by omega)
      rw [usedL_succ, List.getElem?_append_left]
      · exact this
      · exact (List.getElem?_eq_some_iff.1 this).1
/-- A slice that owns n ints: its form, and its row. -/
theorem owns_ints {w : World} {base : Nat} {v : Value} {l : List Nat} (h : w.ownsRow base 3 1 v l.length (l.map fun i : Nat => Value.int .i64 (i : Int))) :
    ∃ a c, v = .slice a l.length c ∧ (0 < l.length → ∃ g, a = some ⟨g, 0, none⟩ ∧ base ≤ g ∧ RowI w g l.length (fun i => (l.getD i 0 : Nat))) := by
  by_cases hp : 0 < l.length
  · obtain ⟨g, cap, hv, hb, hc, hr⟩ := RowV.of_owns h hp
    refine ⟨some ⟨g, 0, none⟩, cap, hv, fun _ => ⟨g, rfl, hb, ?_⟩⟩
    rw [Nat.mul_one] at hr
    refine hr.congr fun i hi => ?_
    show (l.map fun i : Nat => Value.int .i64 (i : Int)).getD i undef = Value.int .i64 ((l.getD i 0 : Nat) : Int)
    rw [List.getD_eq_getElem?_getD, List.getElem?_map, List.getD_eq_getElem?_getD, List.getElem?_eq_getElem hi]; rfl
  · have h0 : l.length = 0 := by omega
    rcases h.2 with ⟨hv, _⟩ | ⟨g, cap, cur, hv, _⟩
    · exact ⟨none, 0, by rw [hv, h0], fun q => absurd q hp⟩
    · exact ⟨some ⟨g, 0, none⟩, cap, hv, fun q => absurd q hp⟩
theorem used_any' (P g n : Nat) (f : Nat → Int) (w : World) (h : SL w P g n f) (hn : n ≤ 1000) :
    Calls Try.prog 15 #[ptr P] w fun e w' => ∃ a c, e = .returned (.slice a (usedL f n).length c) ∧ (0 < (usedL f n).length → ∃ g', a = some ⟨g', 0, none⟩ ∧ w.heap.size ≤ g' ∧ RowI w' g' (usedL f n).length (fun i => ((usedL f n).getD i 0 : Nat))) ∧ Same w w' :=
  (used_any P g n f w h hn).mono fun e w' ⟨v, he, ho, M⟩ => by
    obtain ⟨a, c, hv, hr⟩ := owns_ints ho
    exact ⟨a, c, by rw [he, hv], hr, M⟩
end Go.Proofs.Yteommjbbjdbhkaa
