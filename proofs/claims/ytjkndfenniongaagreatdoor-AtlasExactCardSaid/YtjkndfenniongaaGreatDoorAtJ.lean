import Derived.Test.YtjkndfenniongaaGreatDoorAtI
import Derived.Laws.OwnMore
set_option linter.unusedSimpArgs false
set_option linter.unusedVariables false
set_option maxRecDepth 100000
/- Pages: blank. -/
namespace Go.Proofs.YtjkndfenniongaaGreatDoor
open Go Go.RowKit
structure Pg where
  k : Int
  l : Int
  p : Int
  va : Option Addr
  vn : Nat
  vc : Nat
def pgC (x : Pg) : List Value := [.int .i32 x.k, .int .i64 x.l, .int .i64 x.p, .slice x.va x.vn x.vc]
/-- Pages in memory. -/
def Pgs (w : World) (a : Option Addr) (L : List Pg) : Prop := 0 < L.length → ∃ b o, a = some ⟨b, o, none⟩ ∧ b < w.heap.size ∧ ∀ (i j : Nat) (x : Pg) (u : Value), L[i]? = some x → (pgC x)[j]? = some u → w.cell? ⟨b, o + i * 4 + j, none⟩ = some u
theorem Pgs.same {w w' : World} {a : Option Addr} {L : List Pg} (h : Pgs w a L) (M : Same w w') : Pgs w' a L := by
  intro hp
  obtain ⟨b, o, rfl, hb, hc⟩ := h hp
  exact ⟨b, o, rfl, Nat.lt_of_lt_of_le hb M.size, fun i j x u h1 h2 => (M.cell hb (fun q => q) _).trans (hc i j x u h1 h2)⟩
theorem info34 : (Tryz.prog.info? 34).map (fun i => (i.zero, i.size, i.bytes)) = some (some (.agg #[.int .i32 0, .int .i64 0, .int .i64 0, .slice none 0 0]), 4, 48) := by kernel_rfl
def pgZ : Pg := ⟨0, 0, 0, none, 0, 0⟩
def pgF : Pg := ⟨46, 0, 0, none, 0, 0⟩
def pgH : Pg := ⟨72, 0, 0, none, 0, 0⟩
def cellsOf' (f : Nat → Pg) (j : Nat) : Value := (pgC (f (j / 4))).getD (j % 4) undef
theorem make_pg (n : Nat) (hn : n ≤ 512) (h0 : 0 < n) (w : World) : ∃ w', (Instr.makeSlice 23 (.int .i64 (n : Int)) (.int .i64 (n : Int))).run Tryz.prog w = .ok (.slice (some ⟨w.heap.size, 0, none⟩) n n) w' ∧ RowV w' w.heap.size (n * 4) (cellsOf' fun _ => pgZ) ∧ Same w w' := by
  obtain ⟨i0, hi, hz0, hz1, hz2⟩ := info_parts info34
  obtain ⟨w', hr, hown, hg⟩ := run_makeSlice_full (P := Tryz.prog) w w.heap.size 23 34 i0 (.agg #[.int .i32 0, .int .i64 0, .int .i64 0, .slice none 0 0]) 4 Tryz.underlying23 hi hz0 hz1 .i64 .i64 n (by omega) (by rw [hz2]; omega) (by unfold maxLen; omega) (Nat.le_refl _)
  refine ⟨w', hr, ?_, (Mod.refl _ _).grown hg (fun k hk => by cases hk)⟩
  obtain ⟨g, cap, hv, hg0, hgc, hrow⟩ := RowV.of_owns hown h0
  injection hv with ha _ _
  injection ha with ha
  injection ha with ha _
  subst ha
  refine hrow.congr fun i hi => ?_
  rw [show (Value.agg #[.int .i32 0, .int .i64 0, .int .i64 0, .slice none 0 0]).cells = #[Value.int .i32 0, .int .i64 0, .int .i64 0, .slice none 0 0] from rfl]
  unfold madeCells cellsOf' pgZ pgC
  rw [Array.toList_map, List.getD_eq_getElem?_getD, List.getElem?_map, Array.toList_range, List.getElem?_range hi]
  have : i % 4 < 4 := Nat.mod_lt _ (by decide)
  rcases (show i % 4 = 0 ∨ i % 4 = 1 ∨ i % 4 = 2 ∨ i % 4 = 3 by omega) with e | e | e | e
  all_goals (simp [e])
/-- Blank pages: heads, and free ones. -/
def blankL (n : Nat) : List Pg := (List.range n).map fun i => if i = 0 then pgH else pgF
def blankF (k : Nat) (i : Nat) : Pg := if i < k then pgF else pgZ
theorem blank_next (k j : Nat) : upd (cellsOf' (blankF k)) (k * 4) (.int .i32 46) j = cellsOf' (blankF (k + 1)) j := by
  unfold upd cellsOf' blankF pgF pgZ pgC
  by_cases h : j = k * 4
  · subst h
    rw [if_pos rfl, show k * 4 / 4 = k by omega, if_pos (by omega), show k * 4 % 4 = 0 by omega]; rfl
  · rw [if_neg h]
    by_cases q : j / 4 < k
    · rw [if_pos q, if_pos (by omega)]
    · by_cases q2 : j / 4 = k
      · rw [if_neg q, if_pos (by omega)]
        rcases (show j % 4 = 1 ∨ j % 4 = 2 ∨ j % 4 = 3 by omega) with e | e | e
        all_goals (rw [e]; rfl)
      · rw [if_neg q, if_neg (by omega)]
theorem blank_end (n j : Nat) (hj : j < n * 4) : upd (cellsOf' (blankF n)) 0 (.int .i32 72) j = (pgC ((blankL n).getD (j / 4) pgZ)).getD (j % 4) undef := by
  have hq : j / 4 < n := by omega
  have hgd : (blankL n).getD (j / 4) pgZ = if j / 4 = 0 then pgH else pgF := by
    unfold blankL
    rw [List.getD_eq_getElem?_getD, List.getElem?_map, List.getElem?_range hq]; rfl
  rw [hgd]
  unfold upd cellsOf' blankF pgF pgZ pgC pgH
  by_cases h : j = 0
  · subst h; rfl
  · rw [if_neg h, if_pos hq]
    by_cases q : j / 4 = 0
    · rcases (show j % 4 = 1 ∨ j % 4 = 2 ∨ j % 4 = 3 by omega) with e | e | e
      all_goals (rw [e, q]; rfl)
    · simp [q]
set_option maxHeartbeats 4000000 in
theorem blank_any (n : Nat) (hn : n ≤ 512) (h0 : 0 < n) (w : World) : Calls Tryz.prog 12 #[.int .i64 (n : Int)] w fun e w' => (∃ a c, e = .returned (.slice a n c) ∧ Pgs w' a (blankL n)) ∧ Same w w' := by
  refine opq fun R HR => ?_
  obtain ⟨w1, hmk, hrow, M⟩ := make_pg n hn h0 w
  have RW := Lib.hid hrow
  have K1 := Lib.hid M
  clear hrow M
  go_enter Tryz.func12, Tryz.ntmps12
  go_wp2_with fail
  generalize hg : w.heap.size = g at *
  go_loopw [9, 4] (fun vi _ wr => ∃ k : Nat, k ≤ n ∧ vi = .int .i64 (k : Int) ∧ RowV wr g (n * 4) (cellsOf' (blankF k)) ∧ Same w wr) (fun vi _ _ => n - (intOf vi).toNat)
  case atStart => exact ⟨0, by omega, rfl, RW.out.congr (fun i hi => by unfold cellsOf' blankF; rw [if_neg (by omega)]), K1.out⟩
  case round =>
    obtain ⟨k, hk, rfl, hr, M⟩ := hrel
    have RR := Lib.hid hr
    have J := Lib.hid M
    clear hr M RW K1
    by_cases hlt : k < n
    · have e0 := RR.out.cell (k * 4) (by omega)
      have f0 := RR.out.free (k * 4)
      have R2 := Lib.hid ((RR.out.set (k * 4) (by omega) (.int .i32 46)).congr (fun i _ => blank_next k i))
      have J2 := Lib.hid (J.out.setCell (p := ⟨g, k * 4, none⟩) (fun q => by rw [hg] at q; exact absurd q (Nat.lt_irrefl g)) (.int .i32 46))
      clear RR J
      go_wp2_with fail
      go_roundw
      case rel => exact ⟨k + 1, by omega, by go_num, R2.out, J2.out⟩
      case measure => simp [intOf]; omega
    · obtain rfl : n = k := by omega
      have e0 := RR.out.cell 0 (by omega)
      have f0 := RR.out.free 0
      have R2 := Lib.hid (RR.out.set 0 (by omega) (.int .i32 72))
      have J2 := Lib.hid (J.out.setCell (p := ⟨g, 0, none⟩) (fun q => by rw [hg] at q; exact absurd q (Nat.lt_irrefl g)) (.int .i32 72))
      clear RR J
      have HP := Lib.hid (show Pgs (wr.setCell ⟨g, 0, none⟩ (.int .i32 72)) (some ⟨g, 0, none⟩) (blankL n) from fun _ => ⟨g, 0, rfl, R2.out.lt, fun i j x u h1 h2 => by
        have hi : i < n := by have := (List.getElem?_eq_some_iff.1 h1).1; unfold blankL at this; simpa using this
        have hj : j < 4 := (List.getElem?_eq_some_iff.1 h2).1
        rw [show 0 + i * 4 + j = i * 4 + j by omega]
        refine (R2.out.cell (i * 4 + j) (by omega)).trans ?_
        have hgx : (blankL n).getD i pgZ = x := by rw [List.getD_eq_getElem?_getD, h1]; rfl
        rw [blank_end n (i * 4 + j) (by omega), show (i * 4 + j) / 4 = i by omega, show (i * 4 + j) % 4 = j by omega, hgx, List.getD_eq_getElem?_getD, h2]; rfl⟩)
      go_wp2
      exact HR.out _ _ ⟨⟨_, _, rfl, HP.out⟩, J2.out⟩
end Go.Proofs.YtjkndfenniongaaGreatDoor
