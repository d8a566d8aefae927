import Derived.Test.YtlcepoagpocadaaGreatDoorFrame
/- Rows of the call's own: a block whose first m cells are f 0, f 1, .. -/
set_option linter.unusedSimpArgs false
namespace Go.Proofs.YtlcepoagpocadaaGreatDoor
open Go Go.RowKit
structure RowV (w : World) (g m : Nat) (f : Nat → Value) : Prop where
  lt : g < w.heap.size
  cell : ∀ i, i < m → w.cell? ⟨g, i, none⟩ = some (f i)
  free : ∀ i, w.frozen? ⟨g, i, none⟩ = false
abbrev RowI (w : World) (g m : Nat) (f : Nat → Int) : Prop := RowV w g m (fun i => .int .i64 (f i))
def upd {α : Type} (f : Nat → α) (i : Nat) (v : α) : Nat → α := fun j => if j = i then v else f j
section
variable {S : Nat → Prop} {w w' : World} {g m : Nat} {f : Nat → Value}
theorem RowV.mod (h : RowV w g m f) (M : Mod S w w') (hs : ¬ S g) : RowV w' g m f :=
  ⟨Nat.lt_of_lt_of_le h.lt M.size, fun i hi => (M.cell h.lt hs i).trans (h.cell i hi), fun i => (M.frozen h.lt hs i).trans (h.free i)⟩
theorem RowV.drew (h : RowV w g m f) : RowV w.drew g m f := ⟨h.lt, h.cell, h.free⟩
theorem RowV.drewN (h : RowV w g m f) (n : Nat) : RowV (w.drewN n) g m f := ⟨h.lt, h.cell, h.free⟩
theorem RowV.alloc (h : RowV w g m f) (o : Obj) : RowV (w.alloc o) g m f := h.mod ((Mod.refl (fun _ => False) w).alloc o) (fun q => q)
theorem RowV.set (h : RowV w g m f) (i : Nat) (hi : i < m) (v : Value) : RowV (w.setCell ⟨g, i, none⟩ v) g m (upd f i v) :=
  ⟨by simp only [World.size_setCell]; exact h.lt, fun j hj => by
    unfold upd
    by_cases hij : j = i
    · subst hij; rw [if_pos rfl]; exact World.cell?_setCell_same _ _ _ (h.cell j hj)
    · rw [if_neg hij]; exact (World.cell?_setCell_other _ _ _ _ (fun e => hij (by injection e with _ e2; exact e2.symm))).trans (h.cell j hj),
    fun j => (frozen_setCell _ _ _ _).trans (h.free j)⟩
theorem RowV.set_far (h : RowV w g m f) {p : Addr} (hp : p.block ≠ g) (v : Value) : RowV (w.setCell p v) g m f :=
  ⟨by simp only [World.size_setCell]; exact h.lt, fun j hj => (World.cell?_setCell_other _ _ _ _ (fun e => hp (by rw [e]))).trans (h.cell j hj), fun j => (frozen_setCell _ _ _ _).trans (h.free j)⟩
theorem RowV.congr {f' : Nat → Value} (h : RowV w g m f) (e : ∀ i, i < m → f i = f' i) : RowV w g m f' := ⟨h.lt, fun i hi => (h.cell i hi).trans (by rw [e i hi]), h.free⟩
theorem RowV.less {m' : Nat} (h : RowV w g m f) (e : m' ≤ m) : RowV w g m' f := ⟨h.lt, fun i hi => h.cell i (by omega), h.free⟩
theorem RowV.of_owns {base size n : Nat} {e : TypeId} {v : Value} {xs : List Value} (h : w.ownsRow base e size v n xs) (hn : 0 < n) :
    ∃ g cap, v = .slice (some ⟨g, 0, none⟩) n cap ∧ base ≤ g ∧ n ≤ cap ∧ RowV w g (n * size) (fun i => xs.getD i undef) := by
  obtain ⟨hl, h0 | ⟨g, cap, cur, hv, hb, hh, hc, hm, hcs, ht⟩⟩ := h
  · omega
  · have hlt : g < w.heap.size := by
      rcases Nat.lt_or_ge g w.heap.size with q | q
      · exact q
      · rw [Array.getElem?_eq_none q] at hh; cases hh
    refine ⟨g, cap, hv, hb, hc, hlt, fun i hi => ?_, fun i => ?_⟩
    · have hix : i < xs.length := by omega
      rw [show w.cell? ⟨g, i, none⟩ = cur[i]? from by simp [World.cell?, hh], List.getD_eq_getElem?_getD, List.getElem?_eq_getElem hix]
      have : cur.toList[i]? = some xs[i] := by
        rw [← List.getElem?_eq_getElem hix, ← ht, List.getElem?_take, if_pos hi]
      rw [← Array.getElem?_toList, this]; rfl
    · simp [World.frozen?, hh]
theorem one_new (w : World) (x : Value) (t : TypeId) : ∀ j u, [x][j]? = some u → (w.alloc (.cells #[x] t)).cell? (Addr.add ⟨w.heap.size, 0, none⟩ j) = some u := by
  intro j u hj
  match j, hj with
  | 0, hj => simp at hj; subst hj; simp [Addr.add]
theorem owns_ge {base size n : Nat} {e : TypeId} {v : Value} {xs : List Value} (h : w.ownsRow base e size v n xs) : ∀ k, v.ownBlock = some k → base ≤ k := fun k hk => (h.lt k hk).1
/-- Behind an append of one element onto a row of the call's own (base: the heap's size as the call began). -/
theorem same_append {w0 wr w1 : World} {size n : Nat} {e : TypeId} {v : Value} {xs : List Value} {o : Obj} (M : Mod S w0 wr) (h : wr.ownsRow w0.heap.size e size v n xs) (hg : (wr.alloc o).grownBy w1 v.ownBlock) : Mod S w0 w1 :=
  (M.alloc o).grown hg (fun k hk hl => by have := owns_ge h k hk; omega)
theorem blk_append {w0 wr w1 : World} {size n b : Nat} {e : TypeId} {v : Value} {xs : List Value} {o : Obj} {cs : Array Value} (B : Blk wr b cs) (hb : b < w0.heap.size) (h : wr.ownsRow w0.heap.size e size v n xs) (hg : (wr.alloc o).grownBy w1 v.ownBlock) : Blk w1 b cs := by
  have M : Mod (fun i => w0.heap.size ≤ i) wr w1 := ((Mod.refl _ wr).alloc o).grown hg (fun k hk _ => owns_ge h k hk)
  exact B.mod M (by omega)
end
end Go.Proofs.YtlcepoagpocadaaGreatDoor
