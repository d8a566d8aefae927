import Derived.Test.YtjkndfenniongaaGreatDoorRows2
import Derived.Lib.Builder
import Derived.Shelf.Strings.Builder1
import Derived.OwnWalk
import Derived.Lib.OthersKept
set_option linter.unusedSimpArgs false
set_option linter.unusedVariables false
namespace Go.Proofs.YtjkndfenniongaaGreatDoor
open Go Go.RowKit
theorem info65 : (Tryz.prog.info? 78).map (·.size) = some 2 := by kernel_rfl
theorem lies67 : liesAt Tryz.prog Tryz.prog.depth 130 (2 / Tryz.prog.cellsOf 130) 0 78 1 = true := by kernel_rfl
theorem info5 : (Tryz.prog.info? 5).map (fun i => (i.zero, i.size, i.bytes)) = some (some (.int .u8 0), 1, 1) := by kernel_rfl
theorem owns_lt {w : World} {base size n : Nat} {e : TypeId} {v : Value} {xs : List Value} (h : w.ownsRow base e size v n xs) : ∀ k, v.ownBlock = some k → k < w.heap.size := fun k hk => (h.lt k hk).2
theorem owns_slice {w : World} {base size n : Nat} {e : TypeId} {v : Value} {xs : List Value} (h : w.ownsRow base e size v n xs) : ∃ a c, v = .slice a n c := by
  rcases h.2 with ⟨rfl, rfl⟩ | ⟨g, cap, cur, rfl, _⟩
  · exact ⟨_, _, rfl⟩
  · exact ⟨_, _, rfl⟩
theorem owns_kind {w : World} {B : Nat} {e : TypeId} {v : Value} {n : Nat} {xs : List Value} (h : w.ownsRow B e 1 v n xs) : ∀ g, v.ownBlock = some g → ∃ c fz, w.heap[g]? = some (.cells c e fz) := Lib.ownsRowF_kind (World.ownsRowF_of h)
/-- What a Writer holds: the bytes bs. -/
abbrev WrF (w : World) (B b : Nat) (bs : List Value) : Prop := Lib.IsBuilder 130 5 B b bs w
set_option maxRecDepth 100000 in
theorem w_check (B b : Nat) (bs : List Value) (w : World) (h : WrF w B b bs) :
    Calls Tryz.prog 43 #[.pointer (some ⟨b, 0, none⟩)] w fun e w' => e = .returned (.tuple #[]) ∧ Lib.BuilderAt 130 5 B b (.pointer (some ⟨b, 0, none⟩)) bs w' ∧ Below B w w' ∧ Lib.OthersKept 5 (some b) w w' := by
  refine opq fun R HR => ?_
  obtain ⟨j, hj, hjs⟩ := Option.map_eq_some_iff.1 info65
  rcases h with h | h
  · have h0 := h.cell0
    have hsh := h.shape
    have hfz := h.frozen0
    have kc1 : (convert 76 153 (.pointer (some ⟨b, 0, none⟩))).run Tryz.prog w = .ok (.pointer (some ⟨b, 0, none⟩)) w := Lib.run_to_unsafe w ⟨b, 0, none⟩ Tryz.underlying76 Tryz.underlying153 hj (by rw [hjs]; decide) hsh (Nat.zero_lt_succ 1)
    have kc2 : (convert 153 76 (.pointer (some ⟨b, 0, none⟩))).run Tryz.prog w = .ok (.pointer (some ⟨b, 0, none⟩)) w := Lib.run_from_unsafe w ⟨b, 0, none⟩ Tryz.underlying153 Tryz.underlying76 hj hsh lies67
    have kn : ∀ w, (callFunc 70 #[.pointer (some ⟨b, 0, none⟩)]).run Tryz.prog w = .ok (.value (.pointer (some ⟨b, 0, none⟩))) w := fun w => by rw [run_callFunc_extern Tryz.func70 (by kernel_rfl) (by kernel_rfl) (by kernel_rfl) (e := Extern.AbiNoEscape.same) (by kernel_rfl), Lib.run_noEscape]; rfl
    have J := Lib.hid h
    have hB := h.1
    clear h
    go_enter Tryz.func43, Tryz.ntmps43
    go_wp2_with fail
    go_end0
    exact HR.out _ _ ⟨rfl, J.out.used _, (Below.refl B w).setCell (p := ⟨b, 0, none⟩) hB _, (Lib.OthersKept.refl 5 (some b) w).setCell ⟨b, 0, none⟩ rfl _⟩
  · have h0 := h.cell0
    have kq := fun w : World => Lib.run_neq_ptr_same (P := Tryz.prog) w ⟨b, 0, none⟩ Tryz.underlying76 hj
    have J := Lib.hid h
    clear h
    go_enter Tryz.func43, Tryz.ntmps43
    go_wp2_with fail
    go_end0
    exact HR.out _ _ ⟨rfl, J.out, Below.refl B _, Lib.OthersKept.refl _ _ _⟩
end Go.Proofs.YtjkndfenniongaaGreatDoor
