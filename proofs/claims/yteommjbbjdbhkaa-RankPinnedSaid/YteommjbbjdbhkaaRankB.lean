import Derived.Test.YteommjbbjdbhkaaRankA
set_option linter.unusedSimpArgs false
set_option linter.unusedVariables false
namespace Go.Proofs.Yteommjbbjdbhkaa
open Go Go.RowKit
abbrev itV (c h t : Int) (p b : Bool) : Value := .agg #[.int .i64 c, .int .i64 h, .int .i64 t, .bool p, .bool b]
abbrev itC (x : It) : List Value := [.int .i64 x.c, .int .i64 x.h, .int .i64 x.t, .bool x.p, .bool x.b]
/-- Items in memory. -/
def Its (w : World) (a : Option Addr) (L : List It) : Prop := 0 < L.length → ∃ b o, a = some ⟨b, o, none⟩ ∧ b < w.heap.size ∧ ∀ i x, L[i]? = some x →
  w.cell? ⟨b, o + i * 5, none⟩ = some (.int .i64 x.c) ∧ w.cell? ⟨b, o + i * 5 + 1, none⟩ = some (.int .i64 x.h) ∧ w.cell? ⟨b, o + i * 5 + 2, none⟩ = some (.int .i64 x.t) ∧ w.cell? ⟨b, o + i * 5 + 3, none⟩ = some (.bool x.p) ∧ w.cell? ⟨b, o + i * 5 + 4, none⟩ = some (.bool x.b)
theorem Its.same {w w' : World} {a : Option Addr} {L : List It} (h : Its w a L) (M : Same w w') : Its w' a L := by
  intro hp
  obtain ⟨b, o, ha, hb, hc⟩ := h hp
  refine ⟨b, o, ha, Nat.lt_of_lt_of_le hb M.size, fun i x hx => ?_⟩
  obtain ⟨h0, h1, h2, h3, h4⟩ := hc i x hx
  have k := fun o' => M.cell hb (fun q => q) o'
  exact ⟨(k _).trans h0, (k _).trans h1, (k _).trans h2, (k _).trans h3, (k _).trans h4⟩
theorem up1_any (c h t : Int) (p b : Bool) (w : World) : Calls Try.prog 42 #[itV c h t p b] w fun e w' => e = .returned (.bool (slowP ⟨c, h, t, p, b⟩)) ∧ Same w w' := by
  refine opq fun R HR => ?_
  by_cases ht : t = 0
  · subst ht
    go_enter Try.func42, Try.ntmps42
    go_wp2
    exact HR.out _ _ ⟨by simp [slowP], (Mod.refl _ _).alloc _⟩
  · have ht' : (t == 0) = false := by rw [beq_eq_false_iff_ne]; exact ht
    clear ht
    have hs : slowP ⟨c, h, t, p, b⟩ = false := by unfold slowP; simp only [ht']; rfl
    rw [hs] at HR
    clear hs
    go_enter Try.func42, Try.ntmps42
    go_wp2
    exact HR.out _ _ ⟨rfl, (Mod.refl _ _).alloc _⟩
theorem up2_any (c h t : Int) (p b : Bool) (w : World) : Calls Try.prog 43 #[itV c h t p b] w fun e w' => e = .returned (.bool p) ∧ Same w w' := by
  refine opq fun R HR => ?_
  go_enter Try.func43, Try.ntmps43
  go_wp2
  exact HR.out _ _ ⟨rfl, (Mod.refl _ _).alloc _⟩
theorem down1_any (c h t : Int) (p b : Bool) (w : World) : Calls Try.prog 48 #[itV c h t p b] w fun e w' => e = .returned (.bool (fastP ⟨c, h, t, p, b⟩)) ∧ Same w w' := by
  refine opq fun R HR => ?_
  by_cases ht : t = 1
  · subst ht
    cases b
    all_goals
      go_enter Try.func48, Try.ntmps48
      go_wp2
      exact HR.out _ _ ⟨by simp [fastP], (Mod.refl _ _).alloc _⟩
  · have ht' : (t == 1) = false := by rw [beq_eq_false_iff_ne]; exact ht
    clear ht
    have hs : fastP ⟨c, h, t, p, b⟩ = false := by unfold fastP; simp only [ht']; rfl
    rw [hs] at HR
    clear hs
    go_enter Try.func48, Try.ntmps48
    go_wp2
    exact HR.out _ _ ⟨rfl, (Mod.refl _ _).alloc _⟩
theorem level1_any (c h t : Int) (p b : Bool) (B : Nat) (n : Int) (w : World) (hB : B < w.heap.size) (hn : w.cell? ⟨B, 0, none⟩ = some (.int .i64 n)) (hh : h ≤ 9223372036854775807) :
    Calls Try.prog 54 #[itV c h t p b, .pointer (some ⟨B, 0, none⟩)] w fun e w' => e = .returned (.bool (lev h == n)) ∧ Same w w' := by
  refine opq fun R HR => ?_
  have hne : ¬ B = w.heap.size := by omega
  have HL := Lib.hid (fun wz => level_any h wz hh)
  generalize lev h = v at *
  go_enter Try.func54, Try.ntmps54
  go_wp2_with fail
  go_quiet ((go_at_call 27; exact quiet_eq (HL.out _)))
  go_wp2
  exact HR.out _ _ ⟨rfl, ((Mod.refl _ _).alloc _).drewN _⟩
theorem of1_any (c h t : Int) (p b : Bool) (B : Nat) (n : Int) (w : World) (hB : B < w.heap.size) (hn : w.cell? ⟨B, 0, none⟩ = some (.int .i64 n)) :
    Calls Try.prog 53 #[itV c h t p b, .pointer (some ⟨B, 0, none⟩)] w fun e w' => e = .returned (.bool (c == n)) ∧ Same w w' := by
  refine opq fun R HR => ?_
  have hne : ¬ B = w.heap.size := by omega
  go_enter Try.func53, Try.ntmps53
  go_wp2_with fail
  try go_quiet (fail)
  try go_wp2
  exact HR.out _ _ ⟨rfl, by first | exact ((Mod.refl _ _).alloc _).drewN _ | exact (Mod.refl _ _).alloc _⟩
end Go.Proofs.Yteommjbbjdbhkaa
