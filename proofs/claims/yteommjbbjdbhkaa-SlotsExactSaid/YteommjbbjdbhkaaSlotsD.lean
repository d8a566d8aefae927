import Derived.Test.YteommjbbjdbhkaaSlotsB
set_option linter.unusedSimpArgs false
set_option linter.unusedVariables false
namespace Go.Proofs.Yteommjbbjdbhkaa
open Go Go.RowKit
theorem info60 : (Try.prog.info? 60).map (fun i => (i.zero, i.size, i.bytes)) = some (some (.int .i64 0), 1, 8) := by kernel_rfl
theorem info3 : (Try.prog.info? 3).map (fun i => (i.zero, i.size, i.bytes)) = some (some (.int .i64 0), 1, 8) := by kernel_rfl
theorem info4 : (Try.prog.info? 4).map (fun i => (i.zero, i.size, i.bytes)) = some (some (.bool false), 1, 1) := by kernel_rfl
theorem made_get (n i : Nat) (h : i < n) : (madeCells (Value.cells (.int .i64 0)) n).toList.getD i undef = .int .i64 0 := by
  rw [List.getD_eq_getElem?_getD, Array.getElem?_toList]
  simp [madeCells, Value.cells, h, Nat.mod_one]
theorem madeB_get (n i : Nat) (h : i < n) : (madeCells (Value.cells (.bool false)) n).toList.getD i undef = .bool false := by
  rw [List.getD_eq_getElem?_getD, Array.getElem?_toList]
  simp [madeCells, Value.cells, h, Nat.mod_one]
/-- A made row (also of no cells). -/
theorem row_made {w w1 : World} {n : Nat} {e : TypeId} {x : Value} (hown : w1.ownsRow w.heap.size e 1 (.slice (some ⟨w.heap.size, 0, none⟩) n n) n (madeCells x.cells (n * 1)).toList) (hgrow : w.grownBy w1 none)
    (hx : ∀ i, i < n → (madeCells x.cells n).toList.getD i undef = x) : RowV w1 w.heap.size n (fun _ => x) ∧ Same w w1 := by
  have M : Same w w1 := (Mod.refl _ w).grown hgrow (fun k hk => by cases hk)
  refine ⟨?_, M⟩
  obtain ⟨hl, h0 | ⟨g, cap, cur, hv, hb, hh, hc, hm, hcs, ht⟩⟩ := hown
  · injection h0.1 with q; cases q
  · injection hv with h1; injection h1 with h2; injection h2 with h3
    subst h3
    rw [Nat.mul_one] at ht
    refine ⟨?_, fun i hi => ?_, fun i => by simp [World.frozen?, hh]⟩
    · rcases Nat.lt_or_ge w.heap.size w1.heap.size with q | q
      · exact q
      · rw [Array.getElem?_eq_none q] at hh; cases hh
    · rw [show w1.cell? ⟨w.heap.size, i, none⟩ = cur[i]? from by simp [World.cell?, hh], ← Array.getElem?_toList]
      have h4 : (cur.toList.take (n * 1))[i]? = cur.toList[i]? := by rw [List.getElem?_take, if_pos (by omega)]
      have h5 := hx i hi
      rw [Nat.mul_one] at h4
      rw [← h4, ht]
      rw [List.getD_eq_getElem?_getD] at h5
      cases hq : (madeCells x.cells n).toList[i]? with
      | none =>
        exfalso
        have := List.getElem?_eq_none_iff.1 hq
        rw [Array.length_toList, size_madeCells] at this; omega
      | some y => rw [hq] at h5; rw [← h5]; rfl
/-- New slots: n of them, all free. -/
def NewSL (w : World) (n : Nat) (e : Ending) (w' : World) : Prop := ∃ P g, e = .returned (ptr P) ∧ w.heap.size ≤ P ∧ w.heap.size ≤ g ∧ SL w' P g n (fun _ => 0) ∧ Same w w'
set_option maxHeartbeats 1000000 in
theorem new_any (n : Nat) (w : World) (hn : n ≤ 256) : Calls Try.prog 10 #[.int .i64 n] w (NewSL w n) := by
  refine opq fun R HR => ?_
  obtain ⟨i0, hi, hz0, hz1, hz2⟩ := info_parts info60
  have hz2' : i0.bytes * n ≤ 281474976710656 := by rw [hz2]; omega
  have hmx : n ≤ maxLen := by unfold maxLen; omega
  have HI := Lib.hid hi
  have HZ0 := Lib.hid hz0
  have HZ1 := Lib.hid hz1
  have HZ2 := Lib.hid hz2'
  clear hi hz0 hz1 hz2 hz2'
  go_enter Try.func10, Try.ntmps10
  go_wp2_with (at_make; refine wpList_make_full w rfl _ _ 56 rfl w.heap.size 60 i0 (.int .i64 0) 1 Try.underlying56 HI.out HZ0.out HZ1.out .i64 .i64 _ _ n rfl rfl rfl rfl HZ2.out hmx (Nat.le_refl _) ?_; intro w1 hown hgrow)
  obtain ⟨hr, M⟩ := row_made hown hgrow (made_get n)
  have hlt := hr.lt
  refine HR.out _ _ ⟨w1.heap.size, w.heap.size, rfl, M.size, Nat.le_refl _, ⟨Blk.new _ _ _, hr.alloc _, by omega⟩, M.alloc _⟩
theorem new_neg (n : Int) (w : World) (hn : n < 0) : Calls Try.prog 10 #[.int .i64 n] w (NewSL w 0) := by
  refine opq fun R HR => ?_
  obtain ⟨i0, hi, hz0, hz1, hz2⟩ := info_parts info60
  have hz2' : i0.bytes * 0 ≤ 281474976710656 := by omega
  have HI := Lib.hid hi
  have HZ0 := Lib.hid hz0
  have HZ1 := Lib.hid hz1
  have HZ2 := Lib.hid hz2'
  clear hi hz0 hz1 hz2 hz2'
  go_enter Try.func10, Try.ntmps10
  go_wp2_with (at_make; refine wpList_make_full w rfl _ _ 56 rfl w.heap.size 60 i0 (.int .i64 0) 1 Try.underlying56 HI.out HZ0.out HZ1.out .i64 .i64 _ _ 0 rfl rfl rfl rfl HZ2.out (Nat.zero_le _) (Nat.le_refl _) ?_; intro w1 hown hgrow)
  obtain ⟨hr, M⟩ := row_made hown hgrow (made_get 0)
  have hlt := hr.lt
  refine HR.out _ _ ⟨w1.heap.size, w.heap.size, rfl, M.size, Nat.le_refl _, ⟨Blk.new _ _ _, hr.alloc _, by omega⟩, M.alloc _⟩
def midF (f : Nat → Int) (k : Nat) : Nat → Int := fun i => if i < k then comF f i else f i
theorem mid_step (f : Nat → Int) (k : Nat) (v : Int) (h : comF f k = v) (i : Nat) : upd (midF f k) k v i = midF f (k + 1) i := by
  unfold upd midF
  by_cases e : i = k
  · subst e; rw [if_pos rfl, if_pos (by omega), h]
  · rw [if_neg e]; by_cases h2 : i < k
    · rw [if_pos h2, if_pos (by omega)]
    · rw [if_neg h2, if_neg (by omega)]
theorem mid_same (f : Nat → Int) (k : Nat) (h : comF f k = f k) (i : Nat) : midF f k i = midF f (k + 1) i := by
  unfold midF
  by_cases e : i = k
  · subst e; rw [if_neg (by omega), if_pos (by omega), h]
  · by_cases h2 : i < k
    · rw [if_pos h2, if_pos (by omega)]
    · rw [if_neg h2, if_neg (by omega)]
set_option maxHeartbeats 2000000 in
theorem commit_any (P g n : Nat) (f : Nat → Int) (w : World) (h : SL w P g n f) (hn : n ≤ 9223372036854775807) :
    Calls Try.prog 14 #[ptr P] w (Done w P g n (.tuple #[]) (comF f)) := by
  refine opq fun R HR => ?_
  have hc := h.head.cell
  have H := Lib.hid h
  clear h
  go_enter Try.func14, Try.ntmps14
  go_wp2_with fail
  clear hc
  go_loopw [11, 2, 3] (fun i _ _ wr => ∃ k : Nat, k ≤ n ∧ i = .int .i64 k ∧ SL wr P g n (midF f k) ∧ Mod (fun i => i = g) w wr) (fun i _ _ _ => n - (intOf i).toNat)
  case atStart => exact ⟨0, by omega, rfl, H.out, Mod.refl _ _⟩
  case round =>
    obtain ⟨k, hk, rfl, hS, M⟩ := hrel
    by_cases hlt : k < n
    · have hck := hS.row.cell k hlt
      have hm : midF f k k = f k := by unfold midF; rw [if_neg (by omega)]
      rw [hm] at hck
      have hfr := hS.row.free
      have hc := hS.head.cell
      have hki : (k : Int) < (n : Int) := by omega
      have J1 := Lib.hid hS
      have J2 := Lib.hid M
      clear hm hS M H
      by_cases h1 : f k = 1
      · have hcf : comF f k = 2 := by unfold comF; rw [if_pos h1]
        have T := Lib.hid ((J1.out.set k hlt 2).congr (fun i _ => mid_step f k 2 hcf i))
        rw [h1] at hck
        clear h1 hcf
        go_wp2
        go_roundw
        case rel => exact ⟨k + 1, by omega, by go_num, T.out, J2.out.setCell (fun _ => rfl) _⟩
        case measure => simp [intOf]; omega
      · by_cases h3 : f k = 3
        · have hcf : comF f k = 0 := by unfold comF; rw [if_neg h1, if_pos h3]
          have T := Lib.hid ((J1.out.set k hlt 0).congr (fun i _ => mid_step f k 0 hcf i))
          rw [h3] at hck
          clear h1 h3 hcf
          go_wp2
          go_roundw
          case rel => exact ⟨k + 1, by omega, by go_num, T.out, J2.out.setCell (fun _ => rfl) _⟩
          case measure => simp [intOf]; omega
        · have hcf : comF f k = f k := by unfold comF; rw [if_neg h1, if_neg h3]
          have T := Lib.hid (J1.out.congr (fun i _ => mid_same f k hcf i))
          have b1 : (f k == 1) = false := by rw [beq_eq_false_iff_ne]; exact h1
          have b3 : (f k == 3) = false := by rw [beq_eq_false_iff_ne]; exact h3
          clear h1 h3 hcf
          generalize f k = x at *
          go_wp2
          go_roundw
          case rel => exact ⟨k + 1, by omega, by go_num, T.out, J2.out⟩
          case measure => simp [intOf]; omega
    · obtain rfl : k = n := by omega
      have J1 := Lib.hid (hS.congr (f' := comF f) (fun i hi => by unfold midF; rw [if_pos hi]))
      have J2 := Lib.hid M
      clear hS M H
      go_wp2
      go_returns
      exact HR.out _ _ ⟨rfl, J1.out, J2.out⟩
end Go.Proofs.Yteommjbbjdbhkaa
