import Derived.Test.YthkcdoneghcglaaDoorBndR
import Derived.Test.YthkcdoneghcglaaDoorScrRB
set_option linter.unusedSimpArgs false
set_option linter.unusedVariables false
/- Lists of ints that come in. -/
namespace Go.Proofs.YthkcdoneghcglaaDoor
open Go Go.RowKit
set_option maxRecDepth 10000 in
theorem ints_list {H : Type} {enc : TypeId × Value → H} {w : World} {b0 : Nat} {base : Nat} {spare : Nat → Bool} {held : Bool} {v : Value} {d : DataW H} {p : List MemPlace} (h0 : DataW.Trod enc Tryd.prog w base spare held 29 v d p) (hv0 : Value.okWide Tryd.prog w .any b0 29 v) :
    ∃ a c L, v = .slice a L.length c ∧ L.length ≤ c ∧ c ≤ 9223372036854775807 ∧ Ins w a L ∧ ∀ x ∈ L, I64 x := by
  obtain ⟨a, l, c, rfl, hl, hm, hi⟩ := ints_open Tryd.underlying29 Tryd.underlying3 cells3r hv0 h0
  unfold maxLen at hm
  have key : ∃ f : Nat → Int, 0 < l → ∃ b o, a = some ⟨b, o, none⟩ ∧ b < w.heap.size ∧ ∀ i, i < l → w.cell? ⟨b, o + i, none⟩ = some (.int .i64 (f i)) ∧ I64 (f i) := by
    by_cases hp : 0 < l
    · obtain ⟨b, o, ha, hb, hi⟩ := hi hp
      obtain ⟨f, hf⟩ := Go.Deep.choose_lt (n := l) (p := fun i (x : Int) => w.cell? ⟨b, o + i, none⟩ = some (.int .i64 x) ∧ I64 x) (fun i hil => by
        obtain ⟨z, hz, hw⟩ := hi i hil
        exact ⟨z, hz, i64_wf hw⟩)
      exact ⟨f, fun _ => ⟨b, o, ha, hb, hf⟩⟩
    · exact ⟨fun _ => 0, fun h => absurd h hp⟩
  obtain ⟨f, hf⟩ := key
  refine ⟨a, c, (List.range l).map f, by simp, by simpa using hl, hm, ?_, ?_⟩
  · intro hp
    obtain ⟨b, o, ha, hb, hc⟩ := hf (by simpa using hp)
    refine ⟨b, o, ha, hb, fun i x hx => ?_⟩
    rw [List.getElem?_map] at hx
    obtain ⟨j, hj, rfl⟩ := Option.map_eq_some_iff.1 hx
    obtain ⟨hil, rfl⟩ := List.getElem?_eq_some_iff.1 hj
    simp at hil
    simpa using (hc i hil).1
  · intro x hx
    obtain ⟨i, hi2, rfl⟩ := List.mem_map.1 hx
    have hil : i < l := List.mem_range.1 hi2
    obtain ⟨_, _, _, _, hc⟩ := hf (by omega)
    exact (hc i hil).2
end Go.Proofs.YthkcdoneghcglaaDoor
