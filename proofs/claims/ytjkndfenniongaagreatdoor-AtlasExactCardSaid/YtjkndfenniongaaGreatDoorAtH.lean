import Derived.Test.YtjkndfenniongaaGreatDoorAtG
set_option linter.unusedSimpArgs false
set_option linter.unusedVariables false
set_option maxRecDepth 100000
/- Stores: made, opened. -/
namespace Go.Proofs.YtjkndfenniongaaGreatDoor
open Go Go.RowKit
abbrev scells (d kb fb : Nat) (h : Hd) (at_ : Int) : Array Value := #[bp d, .int .u64 h.gen, .int .i64 h.root, .int .i64 h.s0, .int .i64 h.s1, .int .i64 h.ch, .int .i64 at_, .map (some kb), .map (some fb)]
structure Sto (B : Nat) (w : World) (s d kb fb : Nat) (h : Hd) (at_ : Int) : Prop where
  hs : B ≤ s
  blk : Blk w s (scells d kb fb h at_)
  kept : w.heap[kb]? = some (.map #[] 0)
  fresh : w.heap[fb]? = some (.map #[] 0)
theorem lt_of_heap {w : World} {b : Nat} {o : Obj} (h : w.heap[b]? = some o) : b < w.heap.size := by
  rcases Nat.lt_or_ge b w.heap.size with q | q
  · exact q
  · rw [Array.getElem?_eq_none q] at h; cases h
theorem Sto.same {B : Nat} {w w' : World} {s d kb fb : Nat} {h : Hd} {at_ : Int} (t : Sto B w s d kb fb h at_) (M : Same w w') : Sto B w' s d kb fb h at_ :=
  ⟨t.hs, t.blk.mod M (fun q => q), (M.block kb (lt_of_heap t.kept) (fun q => q)).trans t.kept, (M.block fb (lt_of_heap t.fresh) (fun q => q)).trans t.fresh⟩
theorem made_any (d : Nat) (h : Hd) (at_ : Int) (w : World) : Calls Tryz.prog 32 #[bp d, hdV h, .int .i64 at_] w fun e w' => (∃ s kb fb, e = .returned (bp s) ∧ Sto w.heap.size w' s d kb fb h at_) ∧ Same w w' := by
  refine opq fun R HR => ?_
  have hmm := @run_makeMap Tryz.prog
  obtain ⟨gen, root, s0, s1, ch⟩ := h
  unfold hdV hdC
  dsimp only
  go_enter Tryz.func32, Tryz.ntmps32
  have b3 := Blk.new (((w.alloc (.cells #[.int .u64 gen, .int .i64 root, .int .i64 s0, .int .i64 s1, .int .i64 ch] 53)).alloc (.map #[] 0)).alloc (.map #[] 0)) (scells d (w.heap.size + 1) (w.heap.size + 1 + 1) ⟨gen, root, s0, s1, ch⟩ at_) 98
  simp only [World.size_alloc] at b3
  have h1 := heap_new (w.alloc (.cells #[.int .u64 gen, .int .i64 root, .int .i64 s0, .int .i64 s1, .int .i64 ch] 53)) (.map #[] 0)
  have h2 := heap_new ((w.alloc (.cells #[.int .u64 gen, .int .i64 root, .int .i64 s0, .int .i64 s1, .int .i64 ch] 53)).alloc (.map #[] 0)) (.map #[] 0)
  simp only [World.size_alloc] at h1 h2
  go_wp2
  refine HR.out _ _ ⟨⟨_, _, _, rfl, ?_, b3, ?_, ?_⟩, ((((Mod.refl _ _).alloc _).alloc _).alloc _).alloc _⟩
  · omega
  · rw [Below.heap_alloc _ _ _ (by simp only [World.size_alloc]; omega), Below.heap_alloc _ _ _ (by simp only [World.size_alloc]; omega)]; exact h1
  · rw [Below.heap_alloc _ _ _ (by simp only [World.size_alloc]; omega)]; exact h2
theorem shead_any {B : Nat} {w : World} {s d kb fb : Nat} {h : Hd} {at_ : Int} (t : Sto B w s d kb fb h at_) : Calls Tryz.prog 15 #[bp s] w fun e w' => e = .returned (hdV h) ∧ Same w w' := by
  refine opq fun R HR => ?_
  have e1 := t.blk.at_ (i := 1) _ rfl
  have e2 := t.blk.at_ (i := 2) _ rfl
  have e3 := t.blk.at_ (i := 3) _ rfl
  have e4 := t.blk.at_ (i := 4) _ rfl
  have e5 := t.blk.at_ (i := 5) _ rfl
  have hlt := t.blk.lt
  obtain ⟨gen, root, s0, s1, ch⟩ := h
  unfold hdV hdC at HR
  dsimp only at HR
  clear t
  go_enter Tryz.func15, Tryz.ntmps15
  go_wp2_with fail
  have b3 := Blk.new w #[.int .u64 gen, .int .i64 root, .int .i64 s0, .int .i64 s1, .int .i64 ch] 53
  have M := (Mod.refl (fun _ => False) w).alloc (.cells #[.int .u64 gen, .int .i64 root, .int .i64 s0, .int .i64 s1, .int .i64 ch] 53)
  generalize w.alloc _ = W at *
  have c0 := b3.at_ (i := 0) _ rfl
  have c1 := b3.at_ (i := 1) _ rfl
  have c2 := b3.at_ (i := 2) _ rfl
  have c3 := b3.at_ (i := 3) _ rfl
  have c4 := b3.at_ (i := 4) _ rfl
  exact bodyPost_ret (v := .agg #[.int .u64 gen, .int .i64 root, .int .i64 s0, .int .i64 s1, .int .i64 ch]) (by simp [results, Tryz.results15, go_sem, c0, c1, c2, c3, c4]) rfl (HR.out _ _ ⟨rfl, M⟩)
theorem spages_any {B B2 : Nat} {w : World} {s d kb fb m lb : Nat} {h : Hd} {at_ u : Int} {S : List (List UInt8)} {D : DataW Unit} (t : Sto B w s d kb fb h at_) (hd : Dev B2 w d m lb u S D) : Calls Tryz.prog 13 #[bp s] w fun e w' => e = .returned (.int .i64 ((min (S.length / 16) 512 : Nat) : Int)) ∧ w' = w := by
  refine opq fun R HR => ?_
  have e0 := t.blk.at_ (i := 0) _ rfl
  have HP := Lib.hid (pages_any hd)
  clear t hd
  go_enter Tryz.func13, Tryz.ntmps13
  go_wp2_with fail
  refine HP.out.mono ?_
  rintro e w1 ⟨rfl, rfl⟩
  go_wp2
  exact HR.out _ _ ⟨rfl, rfl⟩
end Go.Proofs.YtjkndfenniongaaGreatDoor
