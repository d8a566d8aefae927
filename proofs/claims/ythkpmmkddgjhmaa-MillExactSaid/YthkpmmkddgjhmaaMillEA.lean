import Derived.Test.YthkpmmkddgjhmaaMillP
import Derived.Deep.AppendLies
set_option linter.unusedSimpArgs false
set_option linter.unusedVariables false
namespace Go.Proofs.Ythkpmmkddgjhmaa
open Go Go.RowKit
/-- Values in memory, neither in the die's block nor in the block of the row that grows. -/
def AwayRow (D : Nat) (ob : Option Nat) (w : World) (a : Option Addr) (vs : List Value) : Prop := 0 < vs.length → ∃ b o, a = some ⟨b, o, none⟩ ∧ b ≠ D ∧ some b ≠ ob ∧ b < w.heap.size ∧ ∀ i v, vs[i]? = some v → w.cell? ⟨b, o + i, none⟩ = some v
theorem AwayRow.row {D : Nat} {ob : Option Nat} {w : World} {a : Option Addr} {vs : List Value} (h : AwayRow D ob w a vs) : RowAt w a vs := fun q => let ⟨b, o, h1, _, _, h3, h4⟩ := h q; ⟨b, o, h1, h3, h4⟩
theorem AwayRow.mod {D : Nat} {ob : Option Nat} {w w' : World} {a : Option Addr} {vs : List Value} (h : AwayRow D ob w a vs) (M : Mod (fun i => i = D) w w') : AwayRow D ob w' a vs := fun q =>
  let ⟨b, o, h1, h2, h2', h3, h4⟩ := h q
  ⟨b, o, h1, h2, h2', Nat.lt_of_lt_of_le h3 M.size, fun i v hv => (M.cell h3 h2 _).trans (h4 i v hv)⟩
theorem AwayRow.grown {D g : Nat} {ob : Option Nat} {w w' : World} {a : Option Addr} {vs : List Value} (h : AwayRow D ob w a vs) (hg : w.grownBy w' ob) (hn : ob = some g ∨ w.heap.size ≤ g) : AwayRow D (some g) w' a vs := fun q =>
  let ⟨b, o, h1, h2, h2', h3, h4⟩ := h q
  ⟨b, o, h1, h2, (by
    rcases hn with q | q
    · rw [← q]; exact h2'
    · intro e; have : b = g := Option.some.inj e; omega), Nat.lt_of_lt_of_le h3 hg.size, fun i v hv => (World.grownBy.cell_far hg ⟨b, o + i, none⟩ h3 h2').trans (h4 i v hv)⟩
theorem FarRow.away {K D : Nat} {ob : Option Nat} {w : World} {a : Option Addr} {vs : List Value} (h : FarRow K w a vs) (hD : D < K) (ho : ∀ k, ob = some k → k < K) : AwayRow D ob w a vs := fun q =>
  let ⟨b, o, h1, h2, h3, h4⟩ := h q
  ⟨b, o, h1, by omega, fun e => by have := ho b e.symm; omega, h3, h4⟩
/-- The document's orders as the law keeps them: three cells each. -/
def Wants (D : Nat) (ob : Option Nat) (w : World) (L : List OV) (xs : List Value) : Prop :=
  xs.length = L.length * 3 ∧ ∀ i o, L[i]? = some o → ∃ a1 c1 a2 c2, xs[i * 3]? = some (.int .i64 ((o.k : Int) + 1)) ∧ xs[i * 3 + 1]? = some (.slice a1 o.nums.length c1) ∧ xs[i * 3 + 2]? = some (.slice a2 o.data.length c2) ∧ AwayRow D ob w a1 (o.nums.map (Value.int .i64)) ∧ AwayRow D ob w a2 (o.data.map Value.string)
theorem Wants.nil (D : Nat) (ob : Option Nat) (w : World) : Wants D ob w [] [] := ⟨rfl, fun i o h => by simp at h⟩
theorem Wants.mod {D : Nat} {ob : Option Nat} {w w' : World} {L : List OV} {xs : List Value} (h : Wants D ob w L xs) (M : Mod (fun i => i = D) w w') : Wants D ob w' L xs :=
  ⟨h.1, fun i o hi => let ⟨a1, c1, a2, c2, h1, h2, h3, h4, h5⟩ := h.2 i o hi; ⟨a1, c1, a2, c2, h1, h2, h3, h4.mod M, h5.mod M⟩⟩
theorem Wants.grown {D g : Nat} {ob : Option Nat} {w w' : World} {L : List OV} {xs : List Value} (h : Wants D ob w L xs) (hg : w.grownBy w' ob) (hn : ob = some g ∨ w.heap.size ≤ g) : Wants D (some g) w' L xs :=
  ⟨h.1, fun i o hi => let ⟨a1, c1, a2, c2, h1, h2, h3, h4, h5⟩ := h.2 i o hi; ⟨a1, c1, a2, c2, h1, h2, h3, h4.grown hg hn, h5.grown hg hn⟩⟩
theorem Wants.snoc {D : Nat} {ob : Option Nat} {w : World} {L : List OV} {xs : List Value} (h : Wants D ob w L xs) (o : OV) (a1 a2 : Option Addr) (c1 c2 : Nat) (h1 : AwayRow D ob w a1 (o.nums.map (Value.int .i64))) (h2 : AwayRow D ob w a2 (o.data.map Value.string)) :
    Wants D ob w (L ++ [o]) (xs ++ [.int .i64 ((o.k : Int) + 1), .slice a1 o.nums.length c1, .slice a2 o.data.length c2]) := by
  refine ⟨by rw [List.length_append, List.length_append, h.1]; simp; omega, fun i o' hi => ?_⟩
  rcases Nat.lt_or_ge i L.length with q | q
  · rw [List.getElem?_append_left q] at hi
    obtain ⟨b1, d1, b2, d2, e1, e2, e3, e4, e5⟩ := h.2 i o' hi
    have hl := h.1
    exact ⟨b1, d1, b2, d2, by rw [List.getElem?_append_left (by omega)]; exact e1, by rw [List.getElem?_append_left (by omega)]; exact e2, by rw [List.getElem?_append_left (by omega)]; exact e3, e4, e5⟩
  · rw [List.getElem?_append_right q] at hi
    have hz : i - L.length = 0 := by
      rcases Nat.eq_zero_or_pos (i - L.length) with p | p
      · exact p
      · rw [List.getElem?_eq_none (by simp; omega)] at hi; cases hi
    rw [hz] at hi
    obtain rfl : o = o' := by simpa using hi
    have hl := h.1
    obtain rfl : i = L.length := by omega
    refine ⟨a1, c1, a2, c2, ?_, ?_, ?_, h1, h2⟩ <;> rw [List.getElem?_append_right (by omega)]
    · rw [show L.length * 3 - xs.length = 0 from by omega]; rfl
    · rw [show L.length * 3 + 1 - xs.length = 1 from by omega]; rfl
    · rw [show L.length * 3 + 2 - xs.length = 2 from by omega]; rfl
theorem owns_lt {w : World} {base size n : Nat} {e : TypeId} {v : Value} {xs : List Value} (h : w.ownsRow base e size v n xs) : ∀ k, v.ownBlock = some k → k < w.heap.size := fun k hk => (h.lt k hk).2
theorem owns_slice {w : World} {base size n : Nat} {e : TypeId} {v : Value} {xs : List Value} (h : w.ownsRow base e size v n xs) : ∃ a c, v = .slice a n c := by
  rcases h.2 with ⟨rfl, rfl⟩ | ⟨g, cap, cur, rfl, _⟩
  · exact ⟨_, _, rfl⟩
  · exact ⟨_, _, rfl⟩
/-- The three cells of an order that was built. -/
theorem three_new (w : World) (x y z : Value) (t : TypeId) : ∀ j u, [x, y, z][j]? = some u → (w.alloc (.cells #[x, y, z] t)).cell? (Addr.add ⟨w.heap.size, 0, none⟩ j) = some u := by
  intro j u hj
  match j, hj with
  | 0, hj => simp at hj; subst hj; simp [Addr.add]
  | 1, hj => simp at hj; subst hj; simp [Addr.add]
  | 2, hj => simp at hj; subst hj; simp [Addr.add]
/-- How many orders a script has. -/
theorem scriptN_pos (zs : Nat → Int) (n : Int) (h : posB zs 15 = true) (hn : n ≤ 400) : scriptN zs n = n.toNat := by unfold scriptN; rw [if_pos h]; omega
theorem scriptN_none (zs : Nat → Int) (n : Int) (h : posB zs 15 = false) : scriptN zs n = 0 := by unfold scriptN; rw [h]; rfl
theorem scriptN_low (zs : Nat → Int) (n : Int) (h : n ≤ 0) : scriptN zs n = 0 := by unfold scriptN; split <;> omega
theorem heap_new (w : World) (o : Obj) : (w.alloc o).heap[w.heap.size]? = some o := heap_alloc_new w o
theorem info45 : (Try.prog.info? 45).map (fun i => (i.zero, i.size, i.bytes)) = some (some (.agg #[.int .i64 0, .slice none 0 0, .slice none 0 0]), 3, 56) := by kernel_rfl
end Go.Proofs.Ythkpmmkddgjhmaa
