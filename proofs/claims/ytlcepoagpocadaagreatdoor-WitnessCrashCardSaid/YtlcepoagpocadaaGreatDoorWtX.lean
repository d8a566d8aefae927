import Derived.Test.YtlcepoagpocadaaGreatDoorWtVe
import Derived.Test.YtlcepoagpocadaaGreatDoorMfX
set_option linter.unusedVariables false
set_option linter.unusedSimpArgs false
set_option maxRecDepth 100000
/- Rows of bytes that come in; the table alone out of the listed variables. -/
namespace Go.Proofs.YtlcepoagpocadaaGreatDoor
open Go Go.ChangeShapes Go.WideShapes Go.ChangeAt Go.RowKit Go.Lib
abbrev laid5 : List (String × DataW Unit) := Rows.witnessCrashRow.laid

theorem lib_of5 {W : World} (h : laidMetH Tryz.prog laid5 W) : LibT W := by
  rw [MakeChecks.laidMetH_plain _ _ _ (by kernel_rfl)] at h
  exact ⟨Lib.tabIs_of_head tabG tab167 Tryz.underlying268 Tryz.underlying243 (by kernel_rfl) (by kernel_rfl) h.tail.tail⟩
theorem bytes_open {H : Type} {enc : TypeId × Value → H} {w : World} {b0 : Nat} {base : Nat} {spare : Nat → Bool} {held : Bool} {v : Value} {d : DataW H} {p : List MemPlace} (h0 : DataW.Trod enc Tryz.prog w base spare held 22 v d p) (hv0 : Value.okWide Tryz.prog w .any b0 22 v) :
    ∃ (l : List UInt8) (a : Option Addr) (n c : Nat), v = .slice a n c ∧ l.length = n ∧ RowAt w a (l.map u8V) := by
  obtain ⟨a, l, c, rfl, hl, hm, hi⟩ := ints_open Tryz.underlying22 Tryz.underlying5 (by kernel_rfl) hv0 h0
  have key : ∃ f : Nat → UInt8, 0 < l → ∃ b o, a = some ⟨b, o, none⟩ ∧ b < w.heap.size ∧ ∀ i, i < l → w.cell? ⟨b, o + i, none⟩ = some (u8V (f i)) := by
    by_cases hp : 0 < l
    · obtain ⟨b, o, ha, hb, hi⟩ := hi hp
      obtain ⟨f, hf⟩ := Go.Deep.choose_lt (n := l) (p := fun i (x : UInt8) => w.cell? ⟨b, o + i, none⟩ = some (u8V x)) (fun i hil => by
        obtain ⟨z, hz, hw⟩ := hi i hil
        obtain ⟨n, hn, rfl⟩ := u8_nat hw
        refine ⟨UInt8.ofNat n, hz.trans ?_⟩
        unfold u8V
        rw [UInt8.toNat_ofNat_of_lt' (by omega)])
      exact ⟨f, fun _ => ⟨b, o, ha, hb, hf⟩⟩
    · exact ⟨fun _ => 0, fun h => absurd h hp⟩
  obtain ⟨f, hf⟩ := key
  refine ⟨(List.range l).map f, a, l, c, rfl, by simp, fun hp => ?_⟩
  obtain ⟨b, o, ha, hb, hc⟩ := hf (by simpa using hp)
  refine ⟨b, o, ha, hb, fun i x hx => ?_⟩
  rw [List.getElem?_map, List.getElem?_map] at hx
  obtain ⟨y, hy, rfl⟩ := Option.map_eq_some_iff.1 hx
  obtain ⟨j, hj, rfl⟩ := Option.map_eq_some_iff.1 hy
  obtain ⟨hil, rfl⟩ := List.getElem?_eq_some_iff.1 hj
  simp at hil
  first | (simp; done) | simpa using hc i hil
end Go.Proofs.YtlcepoagpocadaaGreatDoor
