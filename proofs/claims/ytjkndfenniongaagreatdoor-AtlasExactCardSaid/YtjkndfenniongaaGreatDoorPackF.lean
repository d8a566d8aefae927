import Derived.Test.YtjkndfenniongaaGreatDoorPackE
import Derived.OpenShut
set_option linter.unusedSimpArgs false
set_option linter.unusedVariables false
namespace Go.Proofs.YtjkndfenniongaaGreatDoor
open Go Go.RowKit
def sealL (l : List UInt8) : List UInt8 := l ++ leB (sumL l) 4
theorem sumL_u (l : List UInt8) : 0 ≤ sumL l ∧ sumL l ≤ 4294967295 := bounds_u32 (wf_bits _ _ _ _)
theorem heap_new (w : World) (o : Obj) : (w.alloc o).heap[w.heap.size]? = some o := heap_alloc_new w o
theorem wr_new (w : World) (B : Nat) (hB : B ≤ w.heap.size) : WrF (w.alloc (.cells #[.pointer none, .slice none 0 0] 130)) B w.heap.size (Lib.byteCells []) :=
  .inl ⟨hB, .slice none 0 0, heap_new _ _, World.ownsRow_nil _ _ _ _, by simp [Value.ownBlock]⟩
theorem owns_same {w w' : World} {base size n : Nat} {e : TypeId} {v : Value} {xs : List Value} (h : w.ownsRow base e size v n xs) (M : Same w w') : w'.ownsRow base e size v n xs := by
  obtain ⟨hl, h0 | ⟨g, cap, cur, hv, hb, hh, r⟩⟩ := h
  · exact ⟨hl, .inl h0⟩
  · have hlt : g < w.heap.size := by
      rcases Nat.lt_or_ge g w.heap.size with q | q
      · exact q
      · rw [Array.getElem?_eq_none q] at hh; cases hh
    exact ⟨hl, .inr ⟨g, cap, cur, hv, hb, (M.block g hlt (fun q => q)).trans hh, r⟩⟩
theorem wrAt_same {w w' : World} {B b : Nat} {p : Value} {bs : List Value} (h : Lib.BuilderAt 130 5 B b p bs w) (M : Same w w') : Lib.BuilderAt 130 5 B b p bs w' := by
  have hlt := h.lt
  obtain ⟨hB, v, hb, hown, hne⟩ := h
  exact ⟨hB, v, (M.block b hlt (fun q => q)).trans hb, owns_same hown M, hne⟩
theorem wr_same {w w' : World} {B b : Nat} {bs : List Value} (h : WrF w B b bs) (M : Same w w') : WrF w' B b bs :=
  h.elim (fun q => .inl (wrAt_same q M)) (fun q => .inr (wrAt_same q M))
theorem Same.to_below {w w' : World} {B : Nat} (M : Same w w') (h : B ≤ w.heap.size) : Below B w w' := Mod.below M h fun _ _ q => q
theorem Below.to_same {w w' : World} (h : Below w.heap.size w w') : Same w w' := Same.of_below h
set_option maxRecDepth 10000 in
theorem seal_any (s : ByteArray) (w : World) (hs : s.size ≤ 100000000000000) : Calls Tryz.prog 47 #[.string s] w fun e w' => e = .returned (.string ⟨(sealL s.data.toList).toArray⟩) ∧ Same w w' := by
  refine opq fun R HR => ?_
  have hu := sumL_u s.data.toList
  have hll : s.data.toList.length = s.size := size_toList s
  have HSum := Lib.hid (fun w => sum_any s w (by omega))
  have hne : sealL s.data.toList ≠ [] := by
    intro e
    have := congrArg List.length e
    unfold sealL at this
    rw [List.length_append, leB_len] at this
    simp at this
  unfold sealL at HR hne
  have H0 := Lib.hid (fun w : World => wr_new w w.heap.size (Nat.le_refl _))
  go_enter Tryz.func47, Tryz.ntmps47
  go_wp2_with fail
  refine (text_any w.heap.size w.heap.size [] s _ (H0.out w) (by simp; omega) (by simp)).mono ?_
  have B0 := Lib.hid (Below.alloc (Below.refl w.heap.size w) (Nat.le_refl _) (.cells #[.pointer none, .slice none 0 0] 130))
  generalize w.alloc _ = W at *
  generalize hZ : w.heap.size = Z at *
  rintro e w1 ⟨rfl, h1, h2, _⟩
  rw [List.nil_append] at h1
  have K1 := Lib.hid h1
  have K2 := Lib.hid (B0.out.trans h2)
  clear h1 h2 H0 B0
  go_wp2_with fail
  refine (HSum.out _).mono ?_
  rintro e w2 ⟨rfl, M⟩
  have K3 := Lib.hid (wr_same K1.out M)
  have K4 := Lib.hid (K2.out.trans (M.to_below (by rw [← hZ]; exact K2.out.size)))
  have hsz : Z ≤ w2.heap.size := by rw [← hZ]; exact K4.out.size
  clear M K1 K2 HSum
  go_wp2_with fail
  refine (put_any Z Z s.data.toList (sumL s.data.toList) 4 4 (by decide) w2 K3.out ⟨hu.1, by omega⟩ (by omega) hsz).mono ?_
  rintro e w3 ⟨rfl, h1, h2, _⟩
  have K5 := Lib.hid h1
  have K6 := Lib.hid (K4.out.trans h2)
  clear h1 h2 K3 K4
  go_wp2_with fail
  refine (string_any Z Z _ w3 K5.out hne).mono ?_
  rintro e w4 ⟨rfl, h1⟩
  have K7 := Lib.hid (K6.out.trans h1)
  clear h1
  go_wp2
  exact HR.out _ _ ⟨rfl, Same.of_below (by rw [hZ]; exact K7.out)⟩
end Go.Proofs.YtjkndfenniongaaGreatDoor
