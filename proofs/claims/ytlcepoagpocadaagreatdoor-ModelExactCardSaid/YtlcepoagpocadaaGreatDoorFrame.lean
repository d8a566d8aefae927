import Derived.Test.YtlcepoagpocadaaGreatDoorChecked
import Derived.WalkKit
import Derived.Handy
import Derived.Lib.Hide
import Derived.Deep.QuietTactic
import Derived.BigQuiet
import Derived.Outline
import Derived.WalkSpells
import Derived.WalkLawsBesides
import Derived.Deep.RegionHeld3
/- What a call leaves as it was: 'Mod S w w'': of the blocks that were there only those of S may have turned. A block that is known whole: 'Blk'. -/
namespace Go.Proofs.YtlcepoagpocadaaGreatDoor
open Go Go.RowKit
theorem opq {P : Program} {f : FuncId} {args : Array Value} {w : World} {Q : Ending → World → Prop} (h : ∀ R : Ending → World → Prop, Hid (∀ e w', Q e w' → R e w') → Calls P f args w R) : Calls P f args w Q :=
  h Q (fun _ _ h => h)
structure Mod (S : Nat → Prop) (w w' : World) : Prop where
  os : w'.os = w.os
  tape : w'.tape = w.tape
  output : w'.output = w.output
  size : w.heap.size ≤ w'.heap.size
  block : ∀ k, k < w.heap.size → ¬ S k → w'.heap[k]? = w.heap[k]?
/-- Nothing that was there has turned. -/
abbrev Same (w w' : World) : Prop := Mod (fun _ => False) w w'
section
variable {S T : Nat → Prop} {w w' w'' : World}
theorem Mod.refl (S : Nat → Prop) (w : World) : Mod S w w := ⟨rfl, rfl, rfl, Nat.le_refl _, fun _ _ _ => rfl⟩
theorem Mod.trans (h : Mod S w w') (k : Mod S w' w'') : Mod S w w'' :=
  ⟨k.os.trans h.os, k.tape.trans h.tape, k.output.trans h.output, Nat.le_trans h.size k.size, fun i hi hs => (k.block i (Nat.lt_of_lt_of_le hi h.size) hs).trans (h.block i hi hs)⟩
theorem Mod.mono (h : Mod S w w') (k : ∀ i, i < w.heap.size → S i → T i) : Mod T w w' := ⟨h.os, h.tape, h.output, h.size, fun i hi hs => h.block i hi (fun q => hs (k i hi q))⟩
/-- What the callee may turn is what the caller may turn, or newer than the caller's start. -/
theorem Mod.then_ (h : Mod S w w') (k : Mod T w' w'') (c : ∀ i, i < w.heap.size → T i → S i) : Mod S w w'' :=
  ⟨k.os.trans h.os, k.tape.trans h.tape, k.output.trans h.output, Nat.le_trans h.size k.size, fun i hi hs => (k.block i (Nat.lt_of_lt_of_le hi h.size) (fun q => hs (c i hi q))).trans (h.block i hi hs)⟩
theorem Mod.same (h : Mod S w w') (k : Same w' w'') : Mod S w w'' := h.then_ k fun _ _ q => q.elim
theorem Mod.drew (h : Mod S w w') : Mod S w w'.drew := ⟨h.os, h.tape, h.output, h.size, h.block⟩
theorem Mod.drewN (h : Mod S w w') (n : Nat) : Mod S w (w'.drewN n) := ⟨h.os, h.tape, h.output, h.size, h.block⟩
theorem Mod.alloc (h : Mod S w w') (o : Obj) : Mod S w (w'.alloc o) :=
  ⟨h.os, h.tape, h.output, by simp only [World.size_alloc]; exact Nat.le_succ_of_le h.size, fun i hi hs => (Below.heap_alloc w' o i (Nat.lt_of_lt_of_le hi h.size)).trans (h.block i hi hs)⟩
theorem Mod.setCell (h : Mod S w w') {p : Addr} (c : p.block < w.heap.size → S p.block) (u : Value) : Mod S w (w'.setCell p u) :=
  ⟨h.os, h.tape, h.output, by simp only [World.size_setCell]; exact h.size, fun i hi hs => (Below.heap_setCell w' p u i (fun e => hs (by subst e; exact c hi))).trans (h.block i hi hs)⟩
theorem Mod.grown (h : Mod S w w') {row : Option Nat} (hg : w'.grownBy w'' row) (hr : ∀ k, row = some k → k < w.heap.size → S k) : Mod S w w'' :=
  ⟨hg.os.trans h.os, hg.tape.trans h.tape, hg.output.trans h.output, Nat.le_trans h.size hg.size, fun i hi hs => (hg.block i (Nat.lt_of_lt_of_le hi h.size) (fun e => hs (hr i e.symm hi))).trans (h.block i hi hs)⟩
theorem Mod.below {B : Nat} (h : Mod S w w') (hB : B ≤ w.heap.size) (hS : ∀ i, i < B → ¬ S i) : Below B w w' := ⟨h.os, h.tape, h.output, h.size, fun k hk => h.block k (by omega) (hS k hk)⟩
theorem Same.below (h : Same w w') : Below w.heap.size w w' := Mod.below h (Nat.le_refl _) fun _ _ q => q
theorem Mod.of_below {B : Nat} (h : Below B w w') (hS : ∀ i, i < w.heap.size → B ≤ i → S i) : Mod S w w' := ⟨h.os, h.tape, h.output, h.size, fun k hk hs => h.block k (by
  rcases Nat.lt_or_ge k B with q | q
  · exact q
  · exact absurd (hS k hk q) hs)⟩
theorem Same.of_below (h : Below w.heap.size w w') : Same w w' := Mod.of_below h fun _ _ _ => by omega
theorem Mod.cell (h : Mod S w w') {b : Nat} (hb : b < w.heap.size) (hs : ¬ S b) (o : Nat) : w'.cell? ⟨b, o, none⟩ = w.cell? ⟨b, o, none⟩ := World.cell?_of_block (w := w) (h.block b hb hs)
theorem Mod.frozen (h : Mod S w w') {b : Nat} (hb : b < w.heap.size) (hs : ¬ S b) (o : Nat) : w'.frozen? ⟨b, o, none⟩ = w.frozen? ⟨b, o, none⟩ := World.frozen?_of_block (w := w) (h.block b hb hs)
end
theorem bstep {w W w3 : World} (h1 : Below w.heap.size w W) (h2 : Below W.heap.size W w3) : Below w.heap.size w w3 := h1.trans (h2.mono h1.size)
/-- Behind a call that makes memory alone. -/
theorem after {w W w1 : World} (hb : Below W.heap.size W w1) (B : Below w.heap.size w W) :
    Below w.heap.size w w1 ∧ (∀ b o, b < w.heap.size → w1.cell? ⟨b, o, none⟩ = w.cell? ⟨b, o, none⟩) ∧ (∀ b o, b < w.heap.size → w1.frozen? ⟨b, o, none⟩ = w.frozen? ⟨b, o, none⟩) ∧
      (∀ b o, b < W.heap.size → w1.cell? ⟨b, o, none⟩ = W.cell? ⟨b, o, none⟩) ∧ (∀ b o, b < W.heap.size → w1.frozen? ⟨b, o, none⟩ = W.frozen? ⟨b, o, none⟩) ∧ W.heap.size ≤ w1.heap.size := by
  have B2 := bstep B hb
  exact ⟨B2, fun b o h => B2.cell (p := ⟨b, o, none⟩) h, fun b o h => B2.frozen (p := ⟨b, o, none⟩) h, fun b o h => hb.cell (p := ⟨b, o, none⟩) h, fun b o h => hb.frozen (p := ⟨b, o, none⟩) h, hb.size⟩
theorem quiet_eq {P : Program} {f : FuncId} {args : Array Value} {w : World} {n : Nat} {v : Value}
    (h : Calls P f args (w.drewN n) fun e w' => e = .returned v ∧ w.drewN n = w') : Calls P f args (w.drewN n) fun e w'' => e = .returned v ∧ ∃ m, w'' = w.drewN m :=
  h.mono fun _ _ ⟨he, hm⟩ => ⟨he, n, hm.symm⟩
theorem u64wrap_nonneg (n : Int) : 0 ≤ IntKind.u64.wrap n ∧ IntKind.u64.wrap n ≤ 18446744073709551615 := by
  unfold IntKind.wrap; simp [IntKind.bits, IntKind.signed]; omega
theorem utmod (n k : Int) (hk : 0 < k) (hk2 : k ≤ 9223372036854775807) : 0 ≤ wrap64 ((IntKind.u64.wrap n).tmod k) ∧ wrap64 ((IntKind.u64.wrap n).tmod k) < k := by
  have h := u64wrap_nonneg n
  rw [Int.tmod_eq_emod_of_nonneg h.1]
  have h1 := Int.emod_nonneg (IntKind.u64.wrap n) (by omega : k ≠ 0)
  have h2 := Int.emod_lt_of_pos (IntKind.u64.wrap n) hk
  unfold wrap64; omega
theorem retB {b b' : Bool} (h : b = b') : Ending.returned (.bool b) = .returned (.bool b') := by rw [h]
theorem retI {b b' : Int} (h : b = b') : Ending.returned (.int .i64 b) = .returned (.int .i64 b') := by rw [h]
/-- A slice of ints that came in. -/
def Ints (w : World) (a : Option Addr) (len : Nat) : Prop := 0 < len → ∃ b o, a = some ⟨b, o, none⟩ ∧ b < w.heap.size ∧ ∀ i, i < len → ∃ z, w.cell? ⟨b, o + i, none⟩ = some (.int .i64 z) ∧ (Lit.int .i64 z).wf = true
/-- Block b holds these cells, none of them frozen. -/
structure Blk (w : World) (b : Nat) (cs : Array Value) : Prop where
  lt : b < w.heap.size
  cell : ∀ i, w.cell? ⟨b, i, none⟩ = cs[i]?
  free : ∀ i, w.frozen? ⟨b, i, none⟩ = false
section
variable {S : Nat → Prop} {w w' : World} {b : Nat} {cs : Array Value}
theorem Blk.mod (h : Blk w b cs) (m : Mod S w w') (hs : ¬ S b) : Blk w' b cs :=
  ⟨Nat.lt_of_lt_of_le h.lt m.size, fun i => (m.cell h.lt hs i).trans (h.cell i), fun i => (m.frozen h.lt hs i).trans (h.free i)⟩
theorem Blk.drew (h : Blk w b cs) : Blk w.drew b cs := ⟨h.lt, h.cell, h.free⟩
theorem Blk.drewN (h : Blk w b cs) (n : Nat) : Blk (w.drewN n) b cs := ⟨h.lt, h.cell, h.free⟩
theorem Blk.alloc (h : Blk w b cs) (o : Obj) : Blk (w.alloc o) b cs := h.mod ((Mod.refl (fun _ => False) w).alloc o) (fun q => q)
theorem Blk.new (w : World) (cs : Array Value) (t : TypeId) : Blk (w.alloc (.cells cs t)) w.heap.size cs :=
  ⟨by simp, fun i => World.cell?_alloc_new _ _ _ _, fun i => by simp [go_sem]⟩
theorem frozen_setCell (w : World) (a p : Addr) (v : Value) : (w.setCell p v).frozen? a = w.frozen? a := by simp
theorem Blk.set (h : Blk w b cs) (i : Nat) (v : Value) : Blk (w.setCell ⟨b, i, none⟩ v) b (cs.setIfInBounds i v) :=
  ⟨by simp only [World.size_setCell]; exact h.lt, fun j => by
    by_cases hij : i = j
    · subst hij
      by_cases hi : i < cs.size
      · rw [World.cell?_setCell_same _ _ _ ((h.cell i).trans (Array.getElem?_eq_getElem hi)), Array.getElem?_setIfInBounds_self_of_lt hi]
      · rw [Array.setIfInBounds_eq_of_size_le (by omega), ← h.cell i]
        have hn : w.cell? ⟨b, i, none⟩ = none := by rw [h.cell i]; exact Array.getElem?_eq_none (by omega)
        unfold World.cell? World.setCell at *
        simp only [Array.getElem?_modify]
        cases hw : w.heap[b]? with
        | none => simp
        | some o => cases o <;> simp_all <;> omega
    · rw [World.cell?_setCell_other _ _ _ _ (fun e => hij (by injection e)), Array.getElem?_setIfInBounds_ne hij, h.cell j],
    fun j => (frozen_setCell _ _ _ _).trans (h.free j)⟩
theorem Blk.set_far (h : Blk w b cs) {p : Addr} (hp : p.block ≠ b) (v : Value) : Blk (w.setCell p v) b cs :=
  ⟨by simp only [World.size_setCell]; exact h.lt, fun j => (World.cell?_setCell_other _ _ _ _ (fun e => hp (by rw [e]))).trans (h.cell j), fun j => (frozen_setCell _ _ _ _).trans (h.free j)⟩
theorem Blk.at_ (h : Blk w b cs) {i : Nat} (v : Value) (hv : cs[i]? = some v) : w.cell? ⟨b, i, none⟩ = some v := (h.cell i).trans hv
end
end Go.Proofs.YtlcepoagpocadaaGreatDoor
