import Derived.Test.YtjkndfenniongaaGreatDoorPackI
import Derived.Maps.OwnSet
set_option linter.unusedSimpArgs false
set_option linter.unusedVariables false
set_option maxRecDepth 10000
/- Power, devices and stores: the small contracts. -/
namespace Go.Proofs.YtjkndfenniongaaGreatDoor
open Go Go.RowKit
def strV (l : List UInt8) : Value := .string ⟨l.toArray⟩
abbrev bp (b : Nat) : Value := .pointer (some ⟨b, 0, none⟩)
def mcells (u : Int) : Array Value := #[.bool false, .int .i64 (-1), .int .i64 1, .int .i64 u]
theorem on_any (m : Nat) (u : Int) (w : World) (h : Blk w m (mcells u)) : Calls Tryz.prog 52 #[bp m] w fun e w' => e = .returned (.bool true) ∧ w' = w := by
  refine opq fun R HR => ?_
  have e0 : w.cell? ⟨m, 0, none⟩ = some (.bool false) := h.at_ _ rfl
  clear h
  go_enter Tryz.func52, Tryz.ntmps52
  go_wp2
  exact HR.out _ _ ⟨rfl, rfl⟩
set_option maxHeartbeats 1000000 in
theorem use_any (m : Nat) (u : Int) (hu : 0 ≤ u ∧ u ≤ 1000000000) (w : World) (h : Blk w m (mcells u)) : Calls Tryz.prog 51 #[bp m] w fun e w' => e = .returned (.int .i64 0) ∧ Blk w' m (mcells (u + 1)) ∧ Mod (fun i => i = m) w w' := by
  refine opq fun R HR => ?_
  have e0 : w.cell? ⟨m, 0, none⟩ = some (.bool false) := h.at_ _ rfl
  have e1 : w.cell? ⟨m, 1, none⟩ = some (.int .i64 (-1)) := h.at_ _ rfl
  have e3 : w.cell? ⟨m, 3, none⟩ = some (.int .i64 u) := h.at_ _ rfl
  have f0 := h.free 0
  have f1 := h.free 1
  have f3 := h.free 3
  have hu1 : IntKind.i64.wrap (u + 1) = u + 1 := IntWalk.i64_in _ (by omega)
  have hmx3 : -min (2 : Int) 1 = -1 := by decide
  have B3 := Lib.hid (((h.set 0 (.bool false)).set 1 (.int .i64 (-1))).set 3 (.int .i64 (u + 1)))
  have M3 := Lib.hid ((((Mod.refl (fun i => i = m) w).setCell (p := ⟨m, 0, none⟩) (fun _ => rfl) (.bool false)).setCell (p := ⟨m, 1, none⟩) (fun _ => rfl) (.int .i64 (-1))).setCell (p := ⟨m, 3, none⟩) (fun _ => rfl) (.int .i64 (u + 1)))
  clear h
  go_enter Tryz.func51, Tryz.ntmps51
  go_wp2
  exact HR.out _ _ ⟨rfl, B3.out, M3.out⟩
/-- A device: its struct, its power, its safe sectors, its loose ones. -/
structure Dev (B : Nat) (w : World) (d m lb : Nat) (u : Int) (S : List (List UInt8)) (D : DataW Unit) : Prop where
  hd : B ≤ d
  hm : B ≤ m
  hlb : B ≤ lb
  main : Blk w m (mcells u)
  disc : ∃ a c, Blk w d #[bp m, .slice a S.length c, .map (some lb)] ∧ (0 < S.length → ∃ g, a = some ⟨g, 0, none⟩ ∧ B ≤ g ∧ g ≠ d ∧ g ≠ m ∧ RowV w g S.length (fun i => strV (S.getD i [])))
  ne : d ≠ m
  loose : w.ownsMap Tryz.prog 3 (plainElem Tryz.prog 9) lb 100000 D
  len : S.length ≤ 16384
theorem ownsMap_same {H : Type} {w w' : World} {P : Program} {k : TypeId} {R : Value → Option (DataW H × List MemPlace)} {b n : Nat} {D : DataW H} (h : w.ownsMap P k R b n D) (M : Same w w') : w'.ownsMap P k R b n D := by
  have hlt := h.lt
  obtain ⟨es, clock, hb, F, hs, hD⟩ := h
  exact ⟨es, clock, (M.block b hlt (fun q => q)).trans hb, F, hs, hD⟩
theorem Dev.same {B : Nat} {w w' : World} {d m lb : Nat} {u : Int} {S : List (List UInt8)} {D : DataW Unit} (h : Dev B w d m lb u S D) (M : Same w w') : Dev B w' d m lb u S D :=
  ⟨h.hd, h.hm, h.hlb, h.main.mod M (fun q => q), by
    obtain ⟨a, c, hb, hs⟩ := h.disc
    exact ⟨a, c, hb.mod M (fun q => q), fun q => by obtain ⟨g, h1, h2, h3, h4, h5⟩ := hs q; exact ⟨g, h1, h2, h3, h4, h5.mod M (fun q => q)⟩⟩, h.ne, ownsMap_same h.loose M, h.len⟩
section
variable {B : Nat} {w : World} {d m lb : Nat} {u : Int} {S : List (List UInt8)} {D : DataW Unit} (h : Dev B w d m lb u S D)
include h
theorem len_any : Calls Tryz.prog 49 #[bp d] w fun e w' => e = .returned (.int .i64 (S.length : Int)) ∧ w' = w := by
  refine opq fun R HR => ?_
  obtain ⟨a, c, hb, _⟩ := h.disc
  have e1 := hb.at_ (i := 1) _ rfl
  clear h hb
  go_enter Tryz.func49, Tryz.ntmps49
  go_wp2
  exact HR.out _ _ ⟨rfl, rfl⟩
theorem has_any (at_ n : Nat) (ha : at_ ≤ 1000000) (hn : n ≤ 1000000) : Calls Tryz.prog 50 #[bp d, .int .i64 (at_ : Int), .int .i64 (n : Int)] w fun e w' => e = .returned (.bool (decide (at_ + n ≤ S.length))) ∧ w' = w := by
  refine opq fun R HR => ?_
  obtain ⟨a, c, hb, _⟩ := h.disc
  have e1 := hb.at_ (i := 1) _ rfl
  have hl := h.len
  clear h hb
  generalize S.length = sl at *
  have d0 : decide ((at_ : Int) ≥ 0) = true := decide_eq_true (by omega)
  have d1 : decide ((n : Int) ≥ 0) = true := decide_eq_true (by omega)
  have d2 : decide (0 ≤ (at_ : Int)) = true := decide_eq_true (by omega)
  have d3 : decide (0 ≤ (n : Int)) = true := decide_eq_true (by omega)
  by_cases hx : at_ ≤ sl
  · have hy : IntKind.i64.wrap ((sl : Int) - (at_ : Int)) = (sl : Int) - (at_ : Int) := IntWalk.i64_in _ (by omega)
    by_cases hz : at_ + n ≤ sl
    · have hq : (n : Int) ≤ (sl : Int) - (at_ : Int) := by omega
      rw [decide_eq_true hz] at HR
      go_enter Tryz.func50, Tryz.ntmps50
      go_wp2
      exact HR.out _ _ ⟨rfl, rfl⟩
    · have hq : ¬ (n : Int) ≤ (sl : Int) - (at_ : Int) := by omega
      rw [decide_eq_false hz] at HR
      go_enter Tryz.func50, Tryz.ntmps50
      go_wp2
      exact HR.out _ _ ⟨rfl, rfl⟩
  · rw [decide_eq_false (show ¬ at_ + n ≤ sl by omega)] at HR
    go_enter Tryz.func50, Tryz.ntmps50
    go_wp2
    exact HR.out _ _ ⟨rfl, rfl⟩
theorem pages_any : Calls Tryz.prog 29 #[bp d] w fun e w' => e = .returned (.int .i64 ((min (S.length / 16) 512 : Nat) : Int)) ∧ w' = w := by
  refine opq fun R HR => ?_
  have HL := Lib.hid (len_any h)
  have hl := h.len
  clear h
  generalize S.length = sl at *
  have hq : (sl : Int).tdiv 16 = ((sl / 16 : Nat) : Int) := by rw [Int.tdiv_eq_ediv_of_nonneg (by omega)]; omega
  have hm2 : min ((sl / 16 : Nat) : Int) 512 = ((min (sl / 16) 512 : Nat) : Int) := by omega
  go_enter Tryz.func29, Tryz.ntmps29
  go_wp2_with fail
  refine HL.out.mono ?_
  rintro e w1 ⟨rfl, rfl⟩
  rw [← hm2] at HR
  go_wp2
  exact HR.out _ _ ⟨rfl, rfl⟩
end
end Go.Proofs.YtjkndfenniongaaGreatDoor
