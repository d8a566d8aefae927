import Derived.Test.YthkcdoneghcglaaDoorBndC
import Derived.Test.YthkcdoneghcglaaDoorShelfB
import Derived.Test.YthkcdoneghcglaaDoorScrC
import Derived.Sort.OwnSortedInts
import Derived.Laws.AppendOwnNone
set_option linter.unusedSimpArgs false
set_option linter.unusedVariables false
/- The library's Clone, Sort, Compact, BinarySearch on lists of ints. -/
namespace Go.Proofs.YthkcdoneghcglaaDoor
open Go Go.RowKit
theorem clone_any (a : Option Addr) (c : Nat) (L : List Int) (w : World) (hl : L.length ≤ 1000000) (hI : Ins w a L) :
    Calls Tryd.prog 62 #[.slice a L.length c] w fun e w' => ∃ v, e = .returned v ∧ w'.ownsRow w.heap.size 3 1 v L.length (L.map (Value.int .i64)) ∧ Same w w' := by
  by_cases hp : 0 < L.length
  · obtain ⟨b, o, rfl, hb, hc⟩ := hI hp
    refine (Tryd.slices_Clone_int b o L.length c L w (Nat.le_refl _) (by omega) (fun j hj => hc j _ (by rw [List.getElem?_eq_getElem hj, List.getD_eq_getElem?_getD, List.getElem?_eq_getElem hj]; rfl))).mono ?_
    rintro e w' ⟨v, rfl, h, _, hbl⟩
    rw [List.take_length] at h
    exact ⟨v, rfl, h, Same.of_below hbl⟩
  · obtain rfl : L = [] := List.eq_nil_of_length_eq_zero (by omega)
    cases a with
    | none =>
      refine (Tryd.slices_Clone_int_nil 0 c w).mono ?_
      rintro e w' ⟨rfl, rfl⟩
      exact ⟨_, rfl, World.ownsRow_nil _ _ _ _, Mod.refl _ _⟩
    | some a =>
      refine (Tryd.slices_Clone_int_zero a c w).mono ?_
      rintro e w' ⟨v, rfl, h, _, hbl⟩
      exact ⟨v, rfl, h, Same.of_below hbl⟩
theorem bsearch_any (a : Option Addr) (c : Nat) (L : List Int) (x : Int) (w : World) (hl : L.length ≤ 1000000) (hI : Ins w a L) (hs : L.Pairwise (· ≤ ·)) :
    Calls Tryd.prog 65 #[.slice a L.length c, .int .i64 x] w fun e w' => ∃ n, e = .returned (.tuple #[.int .i64 n, .bool (L.contains x)]) ∧ Same w w' := by
  by_cases hp : 0 < L.length
  · obtain ⟨b, o, rfl, hb, hc⟩ := hI hp
    refine (Tryd.slices_BinarySearch_int b o L.length c L x w (Nat.le_refl _) (by omega) (fun j hj => hc j _ (by rw [List.getElem?_eq_getElem hj, List.getD_eq_getElem?_getD, List.getElem?_eq_getElem hj]; rfl)) (by rw [List.take_length]; exact hs)).mono ?_
    rintro e w' ⟨rfl, q, rfl⟩
    rw [List.take_length]
    exact ⟨_, rfl, (Mod.refl _ _).drewN _⟩
  · obtain rfl : L = [] := List.eq_nil_of_length_eq_zero (by omega)
    refine (Tryd.slices_BinarySearch_int_empty a c x w).mono ?_
    rintro e w' ⟨rfl, rfl⟩
    exact ⟨0, rfl, Mod.refl _ _⟩
theorem same_grown {w0 wr w1 : World} {size n : Nat} {e : TypeId} {v : Value} {xs : List Value} (M : Same w0 wr) (h : wr.ownsRow w0.heap.size e size v n xs) (hg : wr.grownBy w1 v.ownBlock) : Same w0 w1 :=
  M.grown hg (fun k hk hl => by have := owns_ge h k hk; omega)
theorem compact_len (L : List Int) : (Lib.compact L).length ≤ L.length := by
  unfold Lib.compact Lib.compactUpTo
  rw [List.length_map]
  exact Nat.le_trans (List.length_filter_le _ _) (by simp)
theorem compact_nil : Lib.compact ([] : List Int) = [] := rfl
theorem sort_any (v : Value) (L : List Int) (w0 w : World) (hl : L.length ≤ 2000000) (ho : w.ownsRow w0.heap.size 3 1 v L.length (L.map (Value.int .i64))) (M : Same w0 w) :
    Calls Tryd.prog 63 #[v] w fun e w' => e = .returned (.tuple #[]) ∧ w'.ownsRow w0.heap.size 3 1 v L.length ((L.mergeSort fun x y => decide (x ≤ y)).map (Value.int .i64)) ∧ Same w0 w' := by
  obtain ⟨hlen, ⟨rfl, hn⟩ | ⟨g, cap, cur, rfl, hg, hb, h1, h2, h3, h4⟩⟩ := ho
  · obtain rfl : L = [] := List.eq_nil_of_length_eq_zero (by omega)
    refine (Tryd.slices_Sort_int_none none 0 w).mono ?_
    rintro e w' ⟨rfl, rfl⟩
    refine ⟨rfl, ?_, M⟩
    rw [List.mergeSort_nil]; exact World.ownsRow_nil _ _ _ _
  · rw [Nat.mul_one] at h4
    have hgl : g < w.heap.size := (Array.getElem?_eq_some_iff.1 hb).1
    refine (Tryd.slices_Sort_int g 0 cap L w (holds_of_blockI hb h4) hgl (by omega)).mono ?_
    rintro e w' ⟨rfl, n, os, rfl⟩
    refine ⟨rfl, ownsRow_sortedI (List.length_mergeSort ..) hg hb h1 h2 h3, ?_⟩
    exact same_grown M (v := .slice (some ⟨g, 0, none⟩) L.length cap) ⟨hlen, .inr ⟨g, cap, cur, rfl, hg, hb, h1, h2, h3, by rw [Nat.mul_one]; exact h4⟩⟩ (grownBy_sortedI _)
theorem compact_any (v : Value) (L : List Int) (w0 w : World) (hl : L.length ≤ 2000000) (ho : w.ownsRow w0.heap.size 3 1 v L.length (L.map (Value.int .i64))) (M : Same w0 w) :
    Calls Tryd.prog 64 #[v] w fun e w' => ∃ a c, e = .returned (.slice a (Lib.compact L).length c) ∧ Ins w' a (Lib.compact L) ∧ Same w0 w' := by
  obtain ⟨hlen, ⟨rfl, hn⟩ | ⟨g, cap, cur, rfl, hg, hb, h1, h2, h3, h4⟩⟩ := ho
  · obtain rfl : L = [] := List.eq_nil_of_length_eq_zero (by omega)
    refine (Tryd.slices_Compact_int_empty none 0 w).mono ?_
    rintro e w' ⟨rfl, rfl⟩
    exact ⟨none, 0, rfl, fun h => by rw [compact_nil] at h; simp at h, M⟩
  · rw [Nat.mul_one] at h4
    have hgl : g < w.heap.size := (Array.getElem?_eq_some_iff.1 hb).1
    refine (Tryd.slices_Compact_int g 0 cap L w (holds_of_blockI hb h4) (by omega) h1).mono ?_
    rintro e w' ⟨rfl, q, rfl⟩
    have hcl : (Lib.compact L).length ≤ L.length := compact_len L
    have hll : (Lib.compact L ++ List.replicate (L.length - (Lib.compact L).length) 0).length = L.length := by simp; omega
    generalize hT : Lib.compact L ++ List.replicate (L.length - (Lib.compact L).length) 0 = T at *
    have hM : Same w0 (Sort.grow (Sort.putRow (Value.int .i64) (Sort.ahead w q) g 0 T.toArray) #[]) := same_grown M (v := .slice (some ⟨g, 0, none⟩) L.length cap) ⟨hlen, .inr ⟨g, cap, cur, rfl, hg, hb, h1, h2, h3, by rw [Nat.mul_one]; exact h4⟩⟩ (grownBy_sortedI _)
    have hO := ownsRow_sortedI (n := q) (os := #[]) (ts := T) hll hg hb h1 h2 h3
    rw [Sort.grow_empty] at hM hO
    refine ⟨_, _, rfl, fun _ => ⟨g, 0, rfl, ?_, fun i x hx => ?_⟩, hM⟩
    · simpa [Sort.ahead] using hgl
    · have hi : i < (Lib.compact L).length := (List.getElem?_eq_some_iff.1 hx).1
      rw [Nat.zero_add]
      rw [hO.cellAt i (by omega), List.getElem?_map, ← hT, List.getElem?_append_left hi, hx]; rfl
end Go.Proofs.YthkcdoneghcglaaDoor
