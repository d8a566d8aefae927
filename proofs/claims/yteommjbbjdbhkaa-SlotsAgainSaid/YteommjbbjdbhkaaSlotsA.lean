import Derived.Test.YteommjbbjdbhkaaSlotsP
import Derived.OwnWalk
set_option linter.unusedSimpArgs false
set_option linter.unusedVariables false
namespace Go.Proofs.Yteommjbbjdbhkaa
open Go Go.RowKit
abbrev ptr (b : Nat) : Value := .pointer (some ⟨b, 0, none⟩)
/-- Slots at P: n of them, in the row g, of states f. -/
structure SL (w : World) (P g n : Nat) (f : Nat → Int) : Prop where
  head : Blk w P #[.slice (some ⟨g, 0, none⟩) n n]
  row : RowI w g n f
  ne : P ≠ g
section
variable {S : Nat → Prop} {w w' : World} {P g n : Nat} {f : Nat → Int}
theorem SL.mod (h : SL w P g n f) (M : Mod S w w') (hp : ¬ S P) (hg : ¬ S g) : SL w' P g n f := ⟨h.head.mod M hp, h.row.mod M hg, h.ne⟩
theorem SL.same (h : SL w P g n f) (M : Same w w') : SL w' P g n f := h.mod M (fun q => q) (fun q => q)
theorem upd_int (f : Nat → Int) (i : Nat) (v : Int) : upd (fun j => Value.int .i64 (f j)) i (.int .i64 v) = fun j => Value.int .i64 (upd f i v j) := by
  funext j; unfold upd; split <;> rfl
theorem SL.set (h : SL w P g n f) (i : Nat) (hi : i < n) (v : Int) : SL (w.setCell ⟨g, i, none⟩ (.int .i64 v)) P g n (upd f i v) :=
  ⟨h.head.set_far (fun e => h.ne e.symm) _, by have := h.row.set i hi (.int .i64 v); rw [upd_int] at this; exact this, h.ne⟩
theorem SL.congr {f' : Nat → Int} (h : SL w P g n f) (e : ∀ i, i < n → f i = f' i) : SL w P g n f' := ⟨h.head, h.row.congr (fun i hi => by rw [e i hi]), h.ne⟩
end
/-- A call answered v; the slots' states are f now; nothing else of old has turned. -/
def Done (w : World) (P g n : Nat) (v : Value) (f : Nat → Int) (e : Ending) (w' : World) : Prop := e = .returned v ∧ SL w' P g n f ∧ Mod (fun i => i = g) w w'
theorem is_any (P g n : Nat) (f : Nat → Int) (i : Int) (w : World) (h : SL w P g n f) :
    Calls Try.prog 35 #[ptr P, .int .i64 i] w fun e w' => e = .returned (.bool (decide (0 ≤ i ∧ i < n))) ∧ w = w' := by
  refine opq fun R HR => ?_
  have hc := h.head.cell
  clear h
  go_enter Try.func35, Try.ntmps35
  go_wp2
  all_goals refine HR.out _ _ ⟨retB ?_, rfl⟩
  all_goals (clear HR; simp [*])
  all_goals omega
set_option maxHeartbeats 1000000 in
theorem count_any (P g n : Nat) (f : Nat → Int) (x : Int) (w : World) (h : SL w P g n f) (hn : n ≤ 9223372036854775807) :
    Calls Try.prog 37 #[ptr P, .int .i64 x] w fun e w' => e = .returned (.int .i64 (cnt f x n)) ∧ w = w' := by
  refine opq fun R HR => ?_
  have hc := h.head.cell
  have HRW := Lib.hid h.row.cell
  clear h
  go_enter Try.func37, Try.ntmps37
  go_wp2_with fail
  go_loop [5, 16] (fun c i => ∃ k : Nat, k ≤ n ∧ i = .int .i64 k ∧ c = .int .i64 (cnt f x k)) (fun _ i => n - (intOf i).toNat)
  case atStart => exact ⟨0, by omega, rfl, rfl⟩
  case round =>
    obtain ⟨k, hk, rfl, rfl⟩ := hrel
    by_cases hlt : k < n
    · have hck := HRW.out k hlt
      have hle := cnt_le f x k
      have hs : cnt f x (k + 1) = cnt f x k + if f k = x then 1 else 0 := rfl
      by_cases hx : f k = x
      · rw [if_pos hx] at hs
        have HS := Lib.hid hs
        have hx' : (x == f k) = true := by rw [beq_iff_eq]; exact hx.symm
        clear hs hx
        go_wp2
        go_round
        case rel => exact ⟨k + 1, by omega, by go_num, by rw [HS.out]; go_num⟩
        case measure => simp [intOf]; omega
      · rw [if_neg hx] at hs
        have HS := Lib.hid hs
        have hx' : (x == f k) = false := by rw [beq_eq_false_iff_ne]; exact fun e => hx e.symm
        clear hs hx
        go_wp2
        go_round
        case rel => exact ⟨k + 1, by omega, by go_num, by rw [HS.out]; go_num⟩
        case measure => simp [intOf]; omega
    · obtain rfl : k = n := by omega
      go_wp2
      exact HR.out _ _ ⟨rfl, rfl⟩
theorem count_nil (x : Int) (w : World) : Calls Try.prog 37 #[.pointer none, .int .i64 x] w fun e w' => e = .returned (.int .i64 0) ∧ w = w' := by
  refine opq fun R HR => ?_
  go_enter Try.func37, Try.ntmps37
  go_wp2
  exact HR.out _ _ ⟨rfl, rfl⟩
end Go.Proofs.Yteommjbbjdbhkaa
