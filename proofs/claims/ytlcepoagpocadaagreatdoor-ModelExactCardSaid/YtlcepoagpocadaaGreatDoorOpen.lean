import Derived.Test.YtlcepoagpocadaaGreatDoorChecked
import Derived.WalkKit
import Derived.OpenShut
import Derived.WideShapes
import Derived.ChangeSame
import Derived.Lib.SmallJoins
import Derived.Deep.Slices
/- Opening arguments that came in: integers, bools, strings, structs, slices. Over whatever program. -/
namespace Go.Proofs.YtlcepoagpocadaaGreatDoor
open Go Go.RowKit Go.ChangeShapes Go.WideShapes Go.Deep
section
variable {H : Type} {enc : TypeId × Value → H} {P : Program} {w : World} {base b0 : Nat} {spare : Nat → Bool} {held : Bool}
theorem int_of_trod {t : TypeId} {k : IntKind} {n : Nat} {cs : List Value} {x : DataW H × List MemPlace} (ht : P.underlying t = some (.int k)) (h : DataW.trod enc P w base spare held n t cs = some x) :
    ∃ z, cs = [.int k z] ∧ (Lit.int k z).wf = true := by
  obtain ⟨z, hz, _, hw⟩ := DataW.trod_int ht h; exact ⟨z, hz, hw⟩
theorem bool_of_trod {t : TypeId} {n : Nat} {cs : List Value} {x : DataW H × List MemPlace} (ht : P.underlying t = some .bool) (h : DataW.trod enc P w base spare held n t cs = some x) :
    ∃ z, cs = [.bool z] := by
  obtain ⟨z, hz, _⟩ := DataW.trod_bool ht h; exact ⟨z, hz⟩
theorem string_of_trod {t : TypeId} {n : Nat} {cs : List Value} {x : DataW H × List MemPlace} (ht : P.underlying t = some .string) (h : DataW.trod enc P w base spare held n t cs = some x) :
    ∃ z : ByteArray, cs = [.string z] ∧ z.size ≤ maxLen := by
  obtain ⟨z, hz, _, hl⟩ := DataW.trod_string ht h; exact ⟨z, hz, hl⟩
theorem fields_of_trod {t : TypeId} {fs : Array Field} {n : Nat} {cs : List Value} {x : DataW H × List MemPlace} (ht : P.underlying t = some (.struct fs)) (h : DataW.trod enc P w base spare held n t cs = some x) :
    ∃ m, cs.length = P.cellsOf t ∧ ∀ (i : Nat) (f : Field), fs[i]? = some f → ∃ y, DataW.trod enc P w base spare held m f.type ((cs.drop f.offset).take (P.cellsOf f.type)) = some y := by
  obtain ⟨xs, m, _, _, hl, hxl, hf⟩ := DataW.trod_struct ht h
  refine ⟨m, hl, fun i f hi => ?_⟩
  have : i < xs.length := by rw [hxl]; exact (Array.getElem?_eq_some_iff.1 hi).1
  exact ⟨xs[i], (hf i f hi).trans (List.getElem?_eq_getElem this)⟩
theorem slice_of_trod {t e : TypeId} {n c : Nat} {cs : List Value} {x : DataW H × List MemPlace} (ht : P.underlying t = some (.slice e)) (hC : P.cellsOf e = c) (hc : 0 < c) (h : DataW.trod enc P w base spare held n t cs = some x) :
    ∃ (a : Option Addr) (len cap : Nat), cs = [.slice a len cap] ∧ len ≤ cap ∧ cap ≤ maxLen ∧ (0 < len → ∃ b o, a = some ⟨b, o, none⟩ ∧ b < w.heap.size ∧
      ∀ i, i < len → ∃ (m : Nat) (ds : List Value) (y : DataW H × List MemPlace), ds.length = c ∧ (∀ j, j < c → w.cell? ⟨b, o + i * c + j, none⟩ = ds[j]?) ∧ DataW.trod enc P w base spare held m e ds = some y) := by
  rcases open_slice ht h with ⟨h0, _⟩ | ⟨a, len, cap, m, k, D, Pl, hcs, _, hl, hm, hmm, _, hi⟩
  · exact ⟨none, 0, 0, h0, Nat.le_refl _, Nat.zero_le _, fun h => absurd h (by omega)⟩
  · refine ⟨some a, len, cap, hcs, hl, hm, fun hp => ?_⟩
    have hlm : len ≤ m := by rw [hmm]; split <;> omega
    have cellAt : ∀ i, i < m → ∃ ds, ds.length = c ∧ (∀ j, j < c → w.cell? ((a.add (i * c)).add j) = ds[j]?) ∧ DataW.trod enc P w base spare held k e ds = some (D i, Pl i) := by
      intro i him
      obtain ⟨ds, h1, h2⟩ := hi i him
      rw [hC] at h1
      obtain ⟨_, h3, h4⟩ := World.cells?_some h1
      exact ⟨ds, h3, h4, h2⟩
    obtain ⟨b, o, s⟩ := a
    obtain ⟨ds, hd, h0, _⟩ := cellAt 0 (by omega)
    have h00 := h0 0 hc
    rw [Nat.zero_mul] at h00
    have e0 : (Addr.add (Addr.add ⟨b, o, s⟩ 0) 0) = ⟨b, o, s⟩ := rfl
    rw [e0, List.getElem?_eq_getElem (by omega)] at h00
    have hs : s = none := by
      cases s with
      | none => rfl
      | some q => exfalso; unfold World.cell? at h00; split at h00 <;> simp at h00
    subst hs
    have hb : b < w.heap.size := by
      rcases Nat.lt_or_ge b w.heap.size with h' | h'
      · exact h'
      · exfalso; unfold World.cell? at h00; rw [Array.getElem?_eq_none h'] at h00; simp at h00
    refine ⟨b, o, rfl, hb, fun i hil => ?_⟩
    obtain ⟨ds, hd, h1, h2⟩ := cellAt i (by omega)
    refine ⟨k, ds, _, hd, fun j hj => ?_, h2⟩
    rw [← h1 j hj]
    congr 1
    unfold Addr.add
    split <;> split <;> simp_all [Nat.add_assoc]
theorem int_open {t : TypeId} {k : IntKind} {v : Value} {d : DataW H} {p : List MemPlace} (ht : P.underlying t = some (.int k)) (hv : Value.okWide P w .any b0 t v) (h : DataW.Trod enc P w base spare held t v d p) :
    ∃ z, v = .int k z ∧ (Lit.int k z).wf = true := by
  obtain ⟨m, rfl⟩ := okWide_int ht hv
  obtain ⟨n, h⟩ := h
  obtain ⟨z, hz, hw⟩ := int_of_trod ht h
  simp [Value.cells] at hz
  subst hz
  exact ⟨_, rfl, hw⟩
theorem slice_opens {t e : TypeId} {c : Nat} {v : Value} {d : DataW H} {p : List MemPlace} (ht : P.underlying t = some (.slice e)) (hC : P.cellsOf e = c) (hc : 0 < c) (hv : Value.okWide P w .any b0 t v) (h : DataW.Trod enc P w base spare held t v d p) :
    ∃ (a : Option Addr) (len cap : Nat), v = .slice a len cap ∧ len ≤ cap ∧ cap ≤ maxLen ∧ (0 < len → ∃ b o, a = some ⟨b, o, none⟩ ∧ b < w.heap.size ∧
      ∀ i, i < len → ∃ (m : Nat) (ds : List Value) (y : DataW H × List MemPlace), ds.length = c ∧ (∀ j, j < c → w.cell? ⟨b, o + i * c + j, none⟩ = ds[j]?) ∧ DataW.trod enc P w base spare held m e ds = some y) := by
  obtain ⟨a, len, cap, rfl⟩ := okWide_slice ht hv
  obtain ⟨n, h⟩ := h
  obtain ⟨a', len', cap', e, h1, h2, h3⟩ := slice_of_trod ht hC hc h
  simp only [Value.cells, List.cons.injEq, and_true, Value.slice.injEq] at e
  obtain ⟨rfl, rfl, rfl⟩ := e
  exact ⟨a, len, cap, rfl, h1, h2, h3⟩
/-- A slice of integers: a list's values. -/
theorem ints_open {t e : TypeId} {k : IntKind} {v : Value} {d : DataW H} {p : List MemPlace} (ht : P.underlying t = some (.slice e)) (he : P.underlying e = some (.int k)) (hC : P.cellsOf e = 1) (hv : Value.okWide P w .any b0 t v) (h : DataW.Trod enc P w base spare held t v d p) :
    ∃ (a : Option Addr) (len cap : Nat), v = .slice a len cap ∧ len ≤ cap ∧ cap ≤ maxLen ∧ (0 < len → ∃ b o, a = some ⟨b, o, none⟩ ∧ b < w.heap.size ∧
      ∀ i, i < len → ∃ z, w.cell? ⟨b, o + i, none⟩ = some (.int k z) ∧ (Lit.int k z).wf = true) := by
  obtain ⟨a, len, cap, rfl, h1, h2, h3⟩ := slice_opens ht hC (by omega) hv h
  refine ⟨a, len, cap, rfl, h1, h2, fun hp => ?_⟩
  obtain ⟨b, o, ha, hb, hi⟩ := h3 hp
  refine ⟨b, o, ha, hb, fun i hil => ?_⟩
  obtain ⟨m, ds, y, hd, hc, ht⟩ := hi i hil
  obtain ⟨z, rfl, hw⟩ := int_of_trod he ht
  exact ⟨z, by have := hc 0 (by omega); simpa using this, hw⟩
theorem bools_open {t e : TypeId} {v : Value} {d : DataW H} {p : List MemPlace} (ht : P.underlying t = some (.slice e)) (he : P.underlying e = some .bool) (hC : P.cellsOf e = 1) (hv : Value.okWide P w .any b0 t v) (h : DataW.Trod enc P w base spare held t v d p) :
    ∃ (a : Option Addr) (len cap : Nat), v = .slice a len cap ∧ len ≤ cap ∧ cap ≤ maxLen ∧ (0 < len → ∃ b o, a = some ⟨b, o, none⟩ ∧ b < w.heap.size ∧
      ∀ i, i < len → ∃ z, w.cell? ⟨b, o + i, none⟩ = some (.bool z)) := by
  obtain ⟨a, len, cap, rfl, h1, h2, h3⟩ := slice_opens ht hC (by omega) hv h
  refine ⟨a, len, cap, rfl, h1, h2, fun hp => ?_⟩
  obtain ⟨b, o, ha, hb, hi⟩ := h3 hp
  refine ⟨b, o, ha, hb, fun i hil => ?_⟩
  obtain ⟨m, ds, y, hd, hc, ht⟩ := hi i hil
  obtain ⟨z, rfl⟩ := bool_of_trod he ht
  exact ⟨z, by have := hc 0 (by omega); simpa using this⟩
end
end Go.Proofs.YtlcepoagpocadaaGreatDoor
