import Derived.Test.YtlcepoagpocadaaGreatDoorPackU
import Derived.Test.YtlcepoagpocadaaGreatDoorMfH
import Derived.Deep.RegionHeld3
set_option linter.unusedSimpArgs false
set_option linter.unusedVariables false
/- An order in the document's form. -/
namespace Go.Proofs.YtlcepoagpocadaaGreatDoor
open Go Go.RowKit
def words16 : List (List UInt8) := [] :: (List.range 15).map wordL
set_option maxRecDepth 10000 in
theorem words16_any (w : World) : Calls Tryz.prog 41 #[] w fun e w' => ∃ g, e = .returned (.slice (some ⟨g, 0, none⟩) 16 16) ∧ Blk w' g (words16.map strV).toArray ∧ Same w w' := by
  refine opq fun R HR => ?_
  go_enter Tryz.func41, Tryz.ntmps41
  go_wp2_with fail
  exact HR.out _ _ ⟨w.heap.size, rfl, Blk.new w _ _, (Mod.refl _ _).alloc _⟩
theorem words16_at (K j : Nat) (hK : K < 15) (hj : j < 16) : ∃ s, words16[j]? = some s ∧ (s == wordL K) = decide (j = K + 1) := by
  have h : ∀ K, K < 15 → ∀ j, j < 16 → (words16.getD j [] == wordL K) = decide (j = K + 1) := by decide
  refine ⟨words16.getD j [], ?_, h K hK j hj⟩
  have : words16.length = 16 := rfl
  rw [List.getD_eq_getElem?_getD, List.getElem?_eq_getElem (by omega)]; rfl
def kAt (K j : Nat) : Int := if K + 1 < j then (K : Int) + 1 else 0
theorem kAt_hit (K : Nat) : kAt K (K + 1 + 1) = ((K + 1 : Nat) : Int) := by unfold kAt; rw [if_pos (by omega)]; rfl
theorem kAt_miss (K j : Nat) (h : ¬ j = K + 1) : kAt K (j + 1) = kAt K j := by unfold kAt; split <;> split <;> first | rfl | omega
theorem kAt_end (K : Nat) (h : K < 15) : kAt K 16 = (K : Int) + 1 := by unfold kAt; rw [if_pos (by omega)]
theorem RowNew.after {S : Nat → Prop} {w w1 w2 : World} {a : Option Addr} {vs : List Value} (h : RowNew w w1 a vs) (M : Mod S w1 w2) (hS : ∀ b, w.heap.size ≤ b → ¬ S b) : RowNew w w2 a vs := by
  intro hp
  obtain ⟨b, o, ha, hb, hl, ⟨c, T, fz, he, hT⟩, hc⟩ := h hp
  exact ⟨b, o, ha, hb, Nat.lt_of_lt_of_le hl M.size, ⟨c, T, fz, (M.block b hl (hS b hb)).trans he, hT⟩, fun i v hi => (M.cell hl (hS b hb) _).trans (hc i v hi)⟩
theorem RowNew.base {w w1 w2 : World} {a : Option Addr} {vs : List Value} (h : RowNew w1 w2 a vs) (hle : w.heap.size ≤ w1.heap.size) : RowNew w w2 a vs := by
  intro hp
  obtain ⟨b, o, ha, hb, r⟩ := h hp
  exact ⟨b, o, ha, Nat.le_trans hle hb, r⟩
/-- What form hands back. -/
def FormV (k : Nat) (ns ts : List Value) (w : World) (e : Ending) (w' : World) : Prop := ∃ a1 c1 a2 c2, e = .returned (.agg #[.int .i64 ((k : Int) + 1), .slice a1 ns.length c1, .slice a2 ts.length c2]) ∧ RowNew w w' a1 ns ∧ RowNew w w' a2 ts ∧ Same w w'

set_option maxRecDepth 10000 in
set_option maxHeartbeats 4000000 in
theorem formK0 (cs : Array Value) (ns ts : List Value) (hp : ∀ wz, Calls Tryz.prog 73 #[.iface 25 (.agg cs)] wz (PartsV wz ns ts)) (w : World) : Calls Tryz.prog 17 #[.iface 25 (.agg cs)] w (FormV 0 ns ts w) := by
  refine opq fun R HR => ?_
  have HN := Lib.hid (fun w => numbers_of _ ns ts w hp)
  have HDt := Lib.hid (fun w => data_of _ ns ts w hp)
  unfold FormV at HR
  clear hp
  generalize hnn : ns.length = nn at *
  generalize htn : ts.length = tn at *
  clear hnn htn
  go_enter Tryz.func17, Tryz.ntmps17
  go_wp2_with fail
  have S0 := Lib.hid ((Mod.refl (fun _ => False) w).alloc (.cells #[.int .i64 0, .slice none 0 0, .slice none 0 0] 64))
  have B0 := Lib.hid (Blk.new w #[.int .i64 0, .slice none 0 0, .slice none 0 0] 64)
  generalize w.alloc _ = W at *
  generalize hZ : w.heap.size = Z at *
  refine (words16_any _).mono ?_
  rintro e w1 ⟨g, rfl, hB, M1⟩
  have K1 := Lib.hid (S0.out.same M1)
  have B1 := Lib.hid (B0.out.mod M1 (fun q => q))
  have KB := Lib.hid hB
  clear hB M1 S0 B0
  go_wp2_with fail
  go_loopw [5, 3] (fun i kk wr => ∃ j : Nat, 1 ≤ j ∧ j ≤ 16 ∧ i = .int .i64 (j : Int) ∧ kk = .int .i64 (kAt 0 j) ∧ Same w1 wr) (fun i _ _ => 16 - (intOf i).toNat)
  case atStart => exact ⟨1, by omega, by omega, rfl, rfl, Mod.refl _ _⟩
  case round =>
    obtain ⟨j, hj1, hj2, rfl, rfl, hM⟩ := hrel
    by_cases hlt : j < 16
    · obtain ⟨s, hs, hq⟩ := words16_at 0 j (by omega) hlt
      have hc : wr.cell? ⟨g, j, none⟩ = some (.string ⟨s.toArray⟩) := by
        refine (hM.cell KB.out.lt (fun q => q) j).trans ((KB.out.cell j).trans ?_)
        rw [List.getElem?_toArray, List.getElem?_map, hs]; rfl
      have hl : g < wr.heap.size := Nat.lt_of_lt_of_le KB.out.lt hM.size
      have L1 := Lib.hid hM
      clear hM hs
      by_cases hjk : j = 0 + 1
      · have hq2 : (s == [99, 114, 101, 97, 116, 101]) = true := hq.trans (decide_eq_true hjk)
        have HJ := Lib.hid hjk
        clear hjk hq
        go_wp2_with fail
        go_region_held3 (fun w' => w'.cell? ⟨g, j, none⟩ = some (.string ⟨s.toArray⟩)) (first | exact hc | assumption | go_keep) ((
          first
          | (go_at_call 231; refine (wordF0 _ _).mono ?_; rintro e w5 ⟨rfl, M5⟩; have A5 := Lib.hid ((Mod.refl (fun _ => False) wr).drew.same M5); have hc5 := (A5.out.cell hl (fun q => q) j).trans hc; clear M5)))
        all_goals
          go_wp2_with fail
          go_roundw
          case rel => exact ⟨j + 1, by omega, by omega, by go_num, by rw [HJ.out, kAt_hit], L1.out.same A5.out⟩
          case measure => simp [intOf]; omega
      · have hq2 : (s == [99, 114, 101, 97, 116, 101]) = false := hq.trans (decide_eq_false hjk)
        have HJ := Lib.hid hjk
        clear hjk hq
        go_wp2_with fail
        go_region_held3 (fun w' => w'.cell? ⟨g, j, none⟩ = some (.string ⟨s.toArray⟩)) (first | exact hc | assumption | go_keep) ((
          first
          | (go_at_call 231; refine (wordF0 _ _).mono ?_; rintro e w5 ⟨rfl, M5⟩; have A5 := Lib.hid ((Mod.refl (fun _ => False) wr).drew.same M5); have hc5 := (A5.out.cell hl (fun q => q) j).trans hc; clear M5)))
        all_goals
          go_wp2_with fail
          go_roundw
          case rel => exact ⟨j + 1, by omega, by omega, by go_num, by rw [kAt_miss _ _ HJ.out], L1.out.same A5.out⟩
          case measure => simp [intOf]; omega
    · obtain rfl : j = 16 := by omega
      rw [kAt_end 0 (by omega)]
      have K2 := Lib.hid (K1.out.same hM)
      have B2 := Lib.hid (B1.out.mod hM (fun q => q))
      clear hM KB B1 K1
      go_wp2_with fail
      refine (HN.out _).mono ?_
      rintro e w3 ⟨a1, c1, rfl, h1, M3⟩
      have R1 := Lib.hid h1
      have K3 := Lib.hid (K2.out.same M3)
      have B3 := Lib.hid (B2.out.mod M3 (fun q => q))
      have hZr : Z < wr.heap.size := B2.out.lt
      clear h1 M3 K2 B2
      go_wp2_with fail
      refine (HDt.out _).mono ?_
      rintro e w4 ⟨a2, c2, rfl, h2, M4⟩
      have R2 := Lib.hid h2
      have R1b := Lib.hid (R1.out.after M4 (fun _ _ q => q))
      have K4 := Lib.hid (K3.out.same M4)
      have B4 := Lib.hid (B3.out.mod M4 (fun q => q))
      have hZ3 : Z < w3.heap.size := B3.out.lt
      clear h2 M4 K3 B3 R1
      have hc := B4.out.cell
      have hf := B4.out.free
      have hlt4 := B4.out.lt
      go_wp2
      have M5 := fun (v0 v1 v2 : Value) => (((Mod.refl (fun i => i = Z) w4).setCell (p := ⟨Z, 0, none⟩) (fun _ => rfl) v0).setCell (p := ⟨Z, 1, none⟩) (fun _ => rfl) v1).setCell (p := ⟨Z, 2, none⟩) (fun _ => rfl) v2
      have BF := ((B4.out.set 0 (.int .i64 1)).set 1 (.slice a1 nn c1)).set 2 (.slice a2 tn c2)
      have g0 := BF.at_ (i := 0) (.int .i64 1) rfl
      have g1 := BF.at_ (i := 1) (.slice a1 nn c1) rfl
      have g2 := BF.at_ (i := 2) (.slice a2 tn c2) rfl
      have N5 := M5 (.int .i64 1) (.slice a1 nn c1) (.slice a2 tn c2)
      clear hc hf BF M5
      generalize ((w4.setCell ⟨Z, 0, none⟩ (.int .i64 1)).setCell ⟨Z, 1, none⟩ (.slice a1 nn c1)).setCell ⟨Z, 2, none⟩ (.slice a2 tn c2) = w5 at *
      exact bodyPost_ret (v := .agg #[.int .i64 1, .slice a1 nn c1, .slice a2 tn c2]) (by simp [results, Tryz.results17, go_sem, g0, g1, g2]) rfl (HR.out _ _ ⟨a1, c1, a2, c2, rfl, (R1b.out.after N5 (fun b hb e => by have : b = Z := e; omega)).base (by omega), (R2.out.after N5 (fun b hb e => by have : b = Z := e; omega)).base (by omega), K4.out.then_ N5 (fun i hi e => by omega)⟩)

set_option maxRecDepth 10000 in
set_option maxHeartbeats 4000000 in
theorem formK1 (cs : Array Value) (ns ts : List Value) (hp : ∀ wz, Calls Tryz.prog 73 #[.iface 79 (.agg cs)] wz (PartsV wz ns ts)) (w : World) : Calls Tryz.prog 17 #[.iface 79 (.agg cs)] w (FormV 1 ns ts w) := by
  refine opq fun R HR => ?_
  have HN := Lib.hid (fun w => numbers_of _ ns ts w hp)
  have HDt := Lib.hid (fun w => data_of _ ns ts w hp)
  unfold FormV at HR
  clear hp
  generalize hnn : ns.length = nn at *
  generalize htn : ts.length = tn at *
  clear hnn htn
  go_enter Tryz.func17, Tryz.ntmps17
  go_wp2_with fail
  have S0 := Lib.hid ((Mod.refl (fun _ => False) w).alloc (.cells #[.int .i64 0, .slice none 0 0, .slice none 0 0] 64))
  have B0 := Lib.hid (Blk.new w #[.int .i64 0, .slice none 0 0, .slice none 0 0] 64)
  generalize w.alloc _ = W at *
  generalize hZ : w.heap.size = Z at *
  refine (words16_any _).mono ?_
  rintro e w1 ⟨g, rfl, hB, M1⟩
  have K1 := Lib.hid (S0.out.same M1)
  have B1 := Lib.hid (B0.out.mod M1 (fun q => q))
  have KB := Lib.hid hB
  clear hB M1 S0 B0
  go_wp2_with fail
  go_loopw [5, 3] (fun i kk wr => ∃ j : Nat, 1 ≤ j ∧ j ≤ 16 ∧ i = .int .i64 (j : Int) ∧ kk = .int .i64 (kAt 1 j) ∧ Same w1 wr) (fun i _ _ => 16 - (intOf i).toNat)
  case atStart => exact ⟨1, by omega, by omega, rfl, rfl, Mod.refl _ _⟩
  case round =>
    obtain ⟨j, hj1, hj2, rfl, rfl, hM⟩ := hrel
    by_cases hlt : j < 16
    · obtain ⟨s, hs, hq⟩ := words16_at 1 j (by omega) hlt
      have hc : wr.cell? ⟨g, j, none⟩ = some (.string ⟨s.toArray⟩) := by
        refine (hM.cell KB.out.lt (fun q => q) j).trans ((KB.out.cell j).trans ?_)
        rw [List.getElem?_toArray, List.getElem?_map, hs]; rfl
      have hl : g < wr.heap.size := Nat.lt_of_lt_of_le KB.out.lt hM.size
      have L1 := Lib.hid hM
      clear hM hs
      by_cases hjk : j = 1 + 1
      · have hq2 : (s == [100, 101, 108, 101, 116, 101]) = true := hq.trans (decide_eq_true hjk)
        have HJ := Lib.hid hjk
        clear hjk hq
        go_wp2_with fail
        go_region_held3 (fun w' => w'.cell? ⟨g, j, none⟩ = some (.string ⟨s.toArray⟩)) (first | exact hc | assumption | go_keep) ((
          first
          | (go_at_call 236; refine (wordF1 _ _).mono ?_; rintro e w5 ⟨rfl, M5⟩; have A5 := Lib.hid ((Mod.refl (fun _ => False) wr).drew.same M5); have hc5 := (A5.out.cell hl (fun q => q) j).trans hc; clear M5)))
        all_goals
          go_wp2_with fail
          go_roundw
          case rel => exact ⟨j + 1, by omega, by omega, by go_num, by rw [HJ.out, kAt_hit], L1.out.same A5.out⟩
          case measure => simp [intOf]; omega
      · have hq2 : (s == [100, 101, 108, 101, 116, 101]) = false := hq.trans (decide_eq_false hjk)
        have HJ := Lib.hid hjk
        clear hjk hq
        go_wp2_with fail
        go_region_held3 (fun w' => w'.cell? ⟨g, j, none⟩ = some (.string ⟨s.toArray⟩)) (first | exact hc | assumption | go_keep) ((
          first
          | (go_at_call 236; refine (wordF1 _ _).mono ?_; rintro e w5 ⟨rfl, M5⟩; have A5 := Lib.hid ((Mod.refl (fun _ => False) wr).drew.same M5); have hc5 := (A5.out.cell hl (fun q => q) j).trans hc; clear M5)))
        all_goals
          go_wp2_with fail
          go_roundw
          case rel => exact ⟨j + 1, by omega, by omega, by go_num, by rw [kAt_miss _ _ HJ.out], L1.out.same A5.out⟩
          case measure => simp [intOf]; omega
    · obtain rfl : j = 16 := by omega
      rw [kAt_end 1 (by omega)]
      have K2 := Lib.hid (K1.out.same hM)
      have B2 := Lib.hid (B1.out.mod hM (fun q => q))
      clear hM KB B1 K1
      go_wp2_with fail
      refine (HN.out _).mono ?_
      rintro e w3 ⟨a1, c1, rfl, h1, M3⟩
      have R1 := Lib.hid h1
      have K3 := Lib.hid (K2.out.same M3)
      have B3 := Lib.hid (B2.out.mod M3 (fun q => q))
      have hZr : Z < wr.heap.size := B2.out.lt
      clear h1 M3 K2 B2
      go_wp2_with fail
      refine (HDt.out _).mono ?_
      rintro e w4 ⟨a2, c2, rfl, h2, M4⟩
      have R2 := Lib.hid h2
      have R1b := Lib.hid (R1.out.after M4 (fun _ _ q => q))
      have K4 := Lib.hid (K3.out.same M4)
      have B4 := Lib.hid (B3.out.mod M4 (fun q => q))
      have hZ3 : Z < w3.heap.size := B3.out.lt
      clear h2 M4 K3 B3 R1
      have hc := B4.out.cell
      have hf := B4.out.free
      have hlt4 := B4.out.lt
      go_wp2
      have M5 := fun (v0 v1 v2 : Value) => (((Mod.refl (fun i => i = Z) w4).setCell (p := ⟨Z, 0, none⟩) (fun _ => rfl) v0).setCell (p := ⟨Z, 1, none⟩) (fun _ => rfl) v1).setCell (p := ⟨Z, 2, none⟩) (fun _ => rfl) v2
      have BF := ((B4.out.set 0 (.int .i64 2)).set 1 (.slice a1 nn c1)).set 2 (.slice a2 tn c2)
      have g0 := BF.at_ (i := 0) (.int .i64 2) rfl
      have g1 := BF.at_ (i := 1) (.slice a1 nn c1) rfl
      have g2 := BF.at_ (i := 2) (.slice a2 tn c2) rfl
      have N5 := M5 (.int .i64 2) (.slice a1 nn c1) (.slice a2 tn c2)
      clear hc hf BF M5
      generalize ((w4.setCell ⟨Z, 0, none⟩ (.int .i64 2)).setCell ⟨Z, 1, none⟩ (.slice a1 nn c1)).setCell ⟨Z, 2, none⟩ (.slice a2 tn c2) = w5 at *
      exact bodyPost_ret (v := .agg #[.int .i64 2, .slice a1 nn c1, .slice a2 tn c2]) (by simp [results, Tryz.results17, go_sem, g0, g1, g2]) rfl (HR.out _ _ ⟨a1, c1, a2, c2, rfl, (R1b.out.after N5 (fun b hb e => by have : b = Z := e; omega)).base (by omega), (R2.out.after N5 (fun b hb e => by have : b = Z := e; omega)).base (by omega), K4.out.then_ N5 (fun i hi e => by omega)⟩)

set_option maxRecDepth 10000 in
set_option maxHeartbeats 4000000 in
theorem formK2 (cs : Array Value) (ns ts : List Value) (hp : ∀ wz, Calls Tryz.prog 73 #[.iface 81 (.agg cs)] wz (PartsV wz ns ts)) (w : World) : Calls Tryz.prog 17 #[.iface 81 (.agg cs)] w (FormV 2 ns ts w) := by
  refine opq fun R HR => ?_
  have HN := Lib.hid (fun w => numbers_of _ ns ts w hp)
  have HDt := Lib.hid (fun w => data_of _ ns ts w hp)
  unfold FormV at HR
  clear hp
  generalize hnn : ns.length = nn at *
  generalize htn : ts.length = tn at *
  clear hnn htn
  go_enter Tryz.func17, Tryz.ntmps17
  go_wp2_with fail
  have S0 := Lib.hid ((Mod.refl (fun _ => False) w).alloc (.cells #[.int .i64 0, .slice none 0 0, .slice none 0 0] 64))
  have B0 := Lib.hid (Blk.new w #[.int .i64 0, .slice none 0 0, .slice none 0 0] 64)
  generalize w.alloc _ = W at *
  generalize hZ : w.heap.size = Z at *
  refine (words16_any _).mono ?_
  rintro e w1 ⟨g, rfl, hB, M1⟩
  have K1 := Lib.hid (S0.out.same M1)
  have B1 := Lib.hid (B0.out.mod M1 (fun q => q))
  have KB := Lib.hid hB
  clear hB M1 S0 B0
  go_wp2_with fail
  go_loopw [5, 3] (fun i kk wr => ∃ j : Nat, 1 ≤ j ∧ j ≤ 16 ∧ i = .int .i64 (j : Int) ∧ kk = .int .i64 (kAt 2 j) ∧ Same w1 wr) (fun i _ _ => 16 - (intOf i).toNat)
  case atStart => exact ⟨1, by omega, by omega, rfl, rfl, Mod.refl _ _⟩
  case round =>
    obtain ⟨j, hj1, hj2, rfl, rfl, hM⟩ := hrel
    by_cases hlt : j < 16
    · obtain ⟨s, hs, hq⟩ := words16_at 2 j (by omega) hlt
      have hc : wr.cell? ⟨g, j, none⟩ = some (.string ⟨s.toArray⟩) := by
        refine (hM.cell KB.out.lt (fun q => q) j).trans ((KB.out.cell j).trans ?_)
        rw [List.getElem?_toArray, List.getElem?_map, hs]; rfl
      have hl : g < wr.heap.size := Nat.lt_of_lt_of_le KB.out.lt hM.size
      have L1 := Lib.hid hM
      clear hM hs
      by_cases hjk : j = 2 + 1
      · have hq2 : (s == [115, 110, 97, 112]) = true := hq.trans (decide_eq_true hjk)
        have HJ := Lib.hid hjk
        clear hjk hq
        go_wp2_with fail
        go_region_held3 (fun w' => w'.cell? ⟨g, j, none⟩ = some (.string ⟨s.toArray⟩)) (first | exact hc | assumption | go_keep) ((
          first
          | (go_at_call 237; refine (wordF2 _ _).mono ?_; rintro e w5 ⟨rfl, M5⟩; have A5 := Lib.hid ((Mod.refl (fun _ => False) wr).drew.same M5); have hc5 := (A5.out.cell hl (fun q => q) j).trans hc; clear M5)))
        all_goals
          go_wp2_with fail
          go_roundw
          case rel => exact ⟨j + 1, by omega, by omega, by go_num, by rw [HJ.out, kAt_hit], L1.out.same A5.out⟩
          case measure => simp [intOf]; omega
      · have hq2 : (s == [115, 110, 97, 112]) = false := hq.trans (decide_eq_false hjk)
        have HJ := Lib.hid hjk
        clear hjk hq
        go_wp2_with fail
        go_region_held3 (fun w' => w'.cell? ⟨g, j, none⟩ = some (.string ⟨s.toArray⟩)) (first | exact hc | assumption | go_keep) ((
          first
          | (go_at_call 237; refine (wordF2 _ _).mono ?_; rintro e w5 ⟨rfl, M5⟩; have A5 := Lib.hid ((Mod.refl (fun _ => False) wr).drew.same M5); have hc5 := (A5.out.cell hl (fun q => q) j).trans hc; clear M5)))
        all_goals
          go_wp2_with fail
          go_roundw
          case rel => exact ⟨j + 1, by omega, by omega, by go_num, by rw [kAt_miss _ _ HJ.out], L1.out.same A5.out⟩
          case measure => simp [intOf]; omega
    · obtain rfl : j = 16 := by omega
      rw [kAt_end 2 (by omega)]
      have K2 := Lib.hid (K1.out.same hM)
      have B2 := Lib.hid (B1.out.mod hM (fun q => q))
      clear hM KB B1 K1
      go_wp2_with fail
      refine (HN.out _).mono ?_
      rintro e w3 ⟨a1, c1, rfl, h1, M3⟩
      have R1 := Lib.hid h1
      have K3 := Lib.hid (K2.out.same M3)
      have B3 := Lib.hid (B2.out.mod M3 (fun q => q))
      have hZr : Z < wr.heap.size := B2.out.lt
      clear h1 M3 K2 B2
      go_wp2_with fail
      refine (HDt.out _).mono ?_
      rintro e w4 ⟨a2, c2, rfl, h2, M4⟩
      have R2 := Lib.hid h2
      have R1b := Lib.hid (R1.out.after M4 (fun _ _ q => q))
      have K4 := Lib.hid (K3.out.same M4)
      have B4 := Lib.hid (B3.out.mod M4 (fun q => q))
      have hZ3 : Z < w3.heap.size := B3.out.lt
      clear h2 M4 K3 B3 R1
      have hc := B4.out.cell
      have hf := B4.out.free
      have hlt4 := B4.out.lt
      go_wp2
      have M5 := fun (v0 v1 v2 : Value) => (((Mod.refl (fun i => i = Z) w4).setCell (p := ⟨Z, 0, none⟩) (fun _ => rfl) v0).setCell (p := ⟨Z, 1, none⟩) (fun _ => rfl) v1).setCell (p := ⟨Z, 2, none⟩) (fun _ => rfl) v2
      have BF := ((B4.out.set 0 (.int .i64 3)).set 1 (.slice a1 nn c1)).set 2 (.slice a2 tn c2)
      have g0 := BF.at_ (i := 0) (.int .i64 3) rfl
      have g1 := BF.at_ (i := 1) (.slice a1 nn c1) rfl
      have g2 := BF.at_ (i := 2) (.slice a2 tn c2) rfl
      have N5 := M5 (.int .i64 3) (.slice a1 nn c1) (.slice a2 tn c2)
      clear hc hf BF M5
      generalize ((w4.setCell ⟨Z, 0, none⟩ (.int .i64 3)).setCell ⟨Z, 1, none⟩ (.slice a1 nn c1)).setCell ⟨Z, 2, none⟩ (.slice a2 tn c2) = w5 at *
      exact bodyPost_ret (v := .agg #[.int .i64 3, .slice a1 nn c1, .slice a2 tn c2]) (by simp [results, Tryz.results17, go_sem, g0, g1, g2]) rfl (HR.out _ _ ⟨a1, c1, a2, c2, rfl, (R1b.out.after N5 (fun b hb e => by have : b = Z := e; omega)).base (by omega), (R2.out.after N5 (fun b hb e => by have : b = Z := e; omega)).base (by omega), K4.out.then_ N5 (fun i hi e => by omega)⟩)

set_option maxRecDepth 10000 in
set_option maxHeartbeats 4000000 in
theorem formK3 (cs : Array Value) (ns ts : List Value) (hp : ∀ wz, Calls Tryz.prog 73 #[.iface 137 (.agg cs)] wz (PartsV wz ns ts)) (w : World) : Calls Tryz.prog 17 #[.iface 137 (.agg cs)] w (FormV 3 ns ts w) := by
  refine opq fun R HR => ?_
  have HN := Lib.hid (fun w => numbers_of _ ns ts w hp)
  have HDt := Lib.hid (fun w => data_of _ ns ts w hp)
  unfold FormV at HR
  clear hp
  generalize hnn : ns.length = nn at *
  generalize htn : ts.length = tn at *
  clear hnn htn
  go_enter Tryz.func17, Tryz.ntmps17
  go_wp2_with fail
  have S0 := Lib.hid ((Mod.refl (fun _ => False) w).alloc (.cells #[.int .i64 0, .slice none 0 0, .slice none 0 0] 64))
  have B0 := Lib.hid (Blk.new w #[.int .i64 0, .slice none 0 0, .slice none 0 0] 64)
  generalize w.alloc _ = W at *
  generalize hZ : w.heap.size = Z at *
  refine (words16_any _).mono ?_
  rintro e w1 ⟨g, rfl, hB, M1⟩
  have K1 := Lib.hid (S0.out.same M1)
  have B1 := Lib.hid (B0.out.mod M1 (fun q => q))
  have KB := Lib.hid hB
  clear hB M1 S0 B0
  go_wp2_with fail
  go_loopw [5, 3] (fun i kk wr => ∃ j : Nat, 1 ≤ j ∧ j ≤ 16 ∧ i = .int .i64 (j : Int) ∧ kk = .int .i64 (kAt 3 j) ∧ Same w1 wr) (fun i _ _ => 16 - (intOf i).toNat)
  case atStart => exact ⟨1, by omega, by omega, rfl, rfl, Mod.refl _ _⟩
  case round =>
    obtain ⟨j, hj1, hj2, rfl, rfl, hM⟩ := hrel
    by_cases hlt : j < 16
    · obtain ⟨s, hs, hq⟩ := words16_at 3 j (by omega) hlt
      have hc : wr.cell? ⟨g, j, none⟩ = some (.string ⟨s.toArray⟩) := by
        refine (hM.cell KB.out.lt (fun q => q) j).trans ((KB.out.cell j).trans ?_)
        rw [List.getElem?_toArray, List.getElem?_map, hs]; rfl
      have hl : g < wr.heap.size := Nat.lt_of_lt_of_le KB.out.lt hM.size
      have L1 := Lib.hid hM
      clear hM hs
      by_cases hjk : j = 3 + 1
      · have hq2 : (s == [114, 101, 115, 105, 122, 101]) = true := hq.trans (decide_eq_true hjk)
        have HJ := Lib.hid hjk
        clear hjk hq
        go_wp2_with fail
        go_region_held3 (fun w' => w'.cell? ⟨g, j, none⟩ = some (.string ⟨s.toArray⟩)) (first | exact hc | assumption | go_keep) ((
          first
          | (go_at_call 241; refine (wordF3 _ _).mono ?_; rintro e w5 ⟨rfl, M5⟩; have A5 := Lib.hid ((Mod.refl (fun _ => False) wr).drew.same M5); have hc5 := (A5.out.cell hl (fun q => q) j).trans hc; clear M5)))
        all_goals
          go_wp2_with fail
          go_roundw
          case rel => exact ⟨j + 1, by omega, by omega, by go_num, by rw [HJ.out, kAt_hit], L1.out.same A5.out⟩
          case measure => simp [intOf]; omega
      · have hq2 : (s == [114, 101, 115, 105, 122, 101]) = false := hq.trans (decide_eq_false hjk)
        have HJ := Lib.hid hjk
        clear hjk hq
        go_wp2_with fail
        go_region_held3 (fun w' => w'.cell? ⟨g, j, none⟩ = some (.string ⟨s.toArray⟩)) (first | exact hc | assumption | go_keep) ((
          first
          | (go_at_call 241; refine (wordF3 _ _).mono ?_; rintro e w5 ⟨rfl, M5⟩; have A5 := Lib.hid ((Mod.refl (fun _ => False) wr).drew.same M5); have hc5 := (A5.out.cell hl (fun q => q) j).trans hc; clear M5)))
        all_goals
          go_wp2_with fail
          go_roundw
          case rel => exact ⟨j + 1, by omega, by omega, by go_num, by rw [kAt_miss _ _ HJ.out], L1.out.same A5.out⟩
          case measure => simp [intOf]; omega
    · obtain rfl : j = 16 := by omega
      rw [kAt_end 3 (by omega)]
      have K2 := Lib.hid (K1.out.same hM)
      have B2 := Lib.hid (B1.out.mod hM (fun q => q))
      clear hM KB B1 K1
      go_wp2_with fail
      refine (HN.out _).mono ?_
      rintro e w3 ⟨a1, c1, rfl, h1, M3⟩
      have R1 := Lib.hid h1
      have K3 := Lib.hid (K2.out.same M3)
      have B3 := Lib.hid (B2.out.mod M3 (fun q => q))
      have hZr : Z < wr.heap.size := B2.out.lt
      clear h1 M3 K2 B2
      go_wp2_with fail
      refine (HDt.out _).mono ?_
      rintro e w4 ⟨a2, c2, rfl, h2, M4⟩
      have R2 := Lib.hid h2
      have R1b := Lib.hid (R1.out.after M4 (fun _ _ q => q))
      have K4 := Lib.hid (K3.out.same M4)
      have B4 := Lib.hid (B3.out.mod M4 (fun q => q))
      have hZ3 : Z < w3.heap.size := B3.out.lt
      clear h2 M4 K3 B3 R1
      have hc := B4.out.cell
      have hf := B4.out.free
      have hlt4 := B4.out.lt
      go_wp2
      have M5 := fun (v0 v1 v2 : Value) => (((Mod.refl (fun i => i = Z) w4).setCell (p := ⟨Z, 0, none⟩) (fun _ => rfl) v0).setCell (p := ⟨Z, 1, none⟩) (fun _ => rfl) v1).setCell (p := ⟨Z, 2, none⟩) (fun _ => rfl) v2
      have BF := ((B4.out.set 0 (.int .i64 4)).set 1 (.slice a1 nn c1)).set 2 (.slice a2 tn c2)
      have g0 := BF.at_ (i := 0) (.int .i64 4) rfl
      have g1 := BF.at_ (i := 1) (.slice a1 nn c1) rfl
      have g2 := BF.at_ (i := 2) (.slice a2 tn c2) rfl
      have N5 := M5 (.int .i64 4) (.slice a1 nn c1) (.slice a2 tn c2)
      clear hc hf BF M5
      generalize ((w4.setCell ⟨Z, 0, none⟩ (.int .i64 4)).setCell ⟨Z, 1, none⟩ (.slice a1 nn c1)).setCell ⟨Z, 2, none⟩ (.slice a2 tn c2) = w5 at *
      exact bodyPost_ret (v := .agg #[.int .i64 4, .slice a1 nn c1, .slice a2 tn c2]) (by simp [results, Tryz.results17, go_sem, g0, g1, g2]) rfl (HR.out _ _ ⟨a1, c1, a2, c2, rfl, (R1b.out.after N5 (fun b hb e => by have : b = Z := e; omega)).base (by omega), (R2.out.after N5 (fun b hb e => by have : b = Z := e; omega)).base (by omega), K4.out.then_ N5 (fun i hi e => by omega)⟩)

set_option maxRecDepth 10000 in
set_option maxHeartbeats 4000000 in
theorem formK4 (cs : Array Value) (ns ts : List Value) (hp : ∀ wz, Calls Tryz.prog 73 #[.iface 139 (.agg cs)] wz (PartsV wz ns ts)) (w : World) : Calls Tryz.prog 17 #[.iface 139 (.agg cs)] w (FormV 4 ns ts w) := by
  refine opq fun R HR => ?_
  have HN := Lib.hid (fun w => numbers_of _ ns ts w hp)
  have HDt := Lib.hid (fun w => data_of _ ns ts w hp)
  unfold FormV at HR
  clear hp
  generalize hnn : ns.length = nn at *
  generalize htn : ts.length = tn at *
  clear hnn htn
  go_enter Tryz.func17, Tryz.ntmps17
  go_wp2_with fail
  have S0 := Lib.hid ((Mod.refl (fun _ => False) w).alloc (.cells #[.int .i64 0, .slice none 0 0, .slice none 0 0] 64))
  have B0 := Lib.hid (Blk.new w #[.int .i64 0, .slice none 0 0, .slice none 0 0] 64)
  generalize w.alloc _ = W at *
  generalize hZ : w.heap.size = Z at *
  refine (words16_any _).mono ?_
  rintro e w1 ⟨g, rfl, hB, M1⟩
  have K1 := Lib.hid (S0.out.same M1)
  have B1 := Lib.hid (B0.out.mod M1 (fun q => q))
  have KB := Lib.hid hB
  clear hB M1 S0 B0
  go_wp2_with fail
  go_loopw [5, 3] (fun i kk wr => ∃ j : Nat, 1 ≤ j ∧ j ≤ 16 ∧ i = .int .i64 (j : Int) ∧ kk = .int .i64 (kAt 4 j) ∧ Same w1 wr) (fun i _ _ => 16 - (intOf i).toNat)
  case atStart => exact ⟨1, by omega, by omega, rfl, rfl, Mod.refl _ _⟩
  case round =>
    obtain ⟨j, hj1, hj2, rfl, rfl, hM⟩ := hrel
    by_cases hlt : j < 16
    · obtain ⟨s, hs, hq⟩ := words16_at 4 j (by omega) hlt
      have hc : wr.cell? ⟨g, j, none⟩ = some (.string ⟨s.toArray⟩) := by
        refine (hM.cell KB.out.lt (fun q => q) j).trans ((KB.out.cell j).trans ?_)
        rw [List.getElem?_toArray, List.getElem?_map, hs]; rfl
      have hl : g < wr.heap.size := Nat.lt_of_lt_of_le KB.out.lt hM.size
      have L1 := Lib.hid hM
      clear hM hs
      by_cases hjk : j = 4 + 1
      · have hq2 : (s == [112, 105, 110]) = true := hq.trans (decide_eq_true hjk)
        have HJ := Lib.hid hjk
        clear hjk hq
        go_wp2_with fail
        go_region_held3 (fun w' => w'.cell? ⟨g, j, none⟩ = some (.string ⟨s.toArray⟩)) (first | exact hc | assumption | go_keep) ((
          first
          | (go_at_call 242; refine (wordF4 _ _).mono ?_; rintro e w5 ⟨rfl, M5⟩; have A5 := Lib.hid ((Mod.refl (fun _ => False) wr).drew.same M5); have hc5 := (A5.out.cell hl (fun q => q) j).trans hc; clear M5)))
        all_goals
          go_wp2_with fail
          go_roundw
          case rel => exact ⟨j + 1, by omega, by omega, by go_num, by rw [HJ.out, kAt_hit], L1.out.same A5.out⟩
          case measure => simp [intOf]; omega
      · have hq2 : (s == [112, 105, 110]) = false := hq.trans (decide_eq_false hjk)
        have HJ := Lib.hid hjk
        clear hjk hq
        go_wp2_with fail
        go_region_held3 (fun w' => w'.cell? ⟨g, j, none⟩ = some (.string ⟨s.toArray⟩)) (first | exact hc | assumption | go_keep) ((
          first
          | (go_at_call 242; refine (wordF4 _ _).mono ?_; rintro e w5 ⟨rfl, M5⟩; have A5 := Lib.hid ((Mod.refl (fun _ => False) wr).drew.same M5); have hc5 := (A5.out.cell hl (fun q => q) j).trans hc; clear M5)))
        all_goals
          go_wp2_with fail
          go_roundw
          case rel => exact ⟨j + 1, by omega, by omega, by go_num, by rw [kAt_miss _ _ HJ.out], L1.out.same A5.out⟩
          case measure => simp [intOf]; omega
    · obtain rfl : j = 16 := by omega
      rw [kAt_end 4 (by omega)]
      have K2 := Lib.hid (K1.out.same hM)
      have B2 := Lib.hid (B1.out.mod hM (fun q => q))
      clear hM KB B1 K1
      go_wp2_with fail
      refine (HN.out _).mono ?_
      rintro e w3 ⟨a1, c1, rfl, h1, M3⟩
      have R1 := Lib.hid h1
      have K3 := Lib.hid (K2.out.same M3)
      have B3 := Lib.hid (B2.out.mod M3 (fun q => q))
      have hZr : Z < wr.heap.size := B2.out.lt
      clear h1 M3 K2 B2
      go_wp2_with fail
      refine (HDt.out _).mono ?_
      rintro e w4 ⟨a2, c2, rfl, h2, M4⟩
      have R2 := Lib.hid h2
      have R1b := Lib.hid (R1.out.after M4 (fun _ _ q => q))
      have K4 := Lib.hid (K3.out.same M4)
      have B4 := Lib.hid (B3.out.mod M4 (fun q => q))
      have hZ3 : Z < w3.heap.size := B3.out.lt
      clear h2 M4 K3 B3 R1
      have hc := B4.out.cell
      have hf := B4.out.free
      have hlt4 := B4.out.lt
      go_wp2
      have M5 := fun (v0 v1 v2 : Value) => (((Mod.refl (fun i => i = Z) w4).setCell (p := ⟨Z, 0, none⟩) (fun _ => rfl) v0).setCell (p := ⟨Z, 1, none⟩) (fun _ => rfl) v1).setCell (p := ⟨Z, 2, none⟩) (fun _ => rfl) v2
      have BF := ((B4.out.set 0 (.int .i64 5)).set 1 (.slice a1 nn c1)).set 2 (.slice a2 tn c2)
      have g0 := BF.at_ (i := 0) (.int .i64 5) rfl
      have g1 := BF.at_ (i := 1) (.slice a1 nn c1) rfl
      have g2 := BF.at_ (i := 2) (.slice a2 tn c2) rfl
      have N5 := M5 (.int .i64 5) (.slice a1 nn c1) (.slice a2 tn c2)
      clear hc hf BF M5
      generalize ((w4.setCell ⟨Z, 0, none⟩ (.int .i64 5)).setCell ⟨Z, 1, none⟩ (.slice a1 nn c1)).setCell ⟨Z, 2, none⟩ (.slice a2 tn c2) = w5 at *
      exact bodyPost_ret (v := .agg #[.int .i64 5, .slice a1 nn c1, .slice a2 tn c2]) (by simp [results, Tryz.results17, go_sem, g0, g1, g2]) rfl (HR.out _ _ ⟨a1, c1, a2, c2, rfl, (R1b.out.after N5 (fun b hb e => by have : b = Z := e; omega)).base (by omega), (R2.out.after N5 (fun b hb e => by have : b = Z := e; omega)).base (by omega), K4.out.then_ N5 (fun i hi e => by omega)⟩)

set_option maxRecDepth 10000 in
set_option maxHeartbeats 4000000 in
theorem formK5 (cs : Array Value) (ns ts : List Value) (hp : ∀ wz, Calls Tryz.prog 73 #[.iface 141 (.agg cs)] wz (PartsV wz ns ts)) (w : World) : Calls Tryz.prog 17 #[.iface 141 (.agg cs)] w (FormV 5 ns ts w) := by
  refine opq fun R HR => ?_
  have HN := Lib.hid (fun w => numbers_of _ ns ts w hp)
  have HDt := Lib.hid (fun w => data_of _ ns ts w hp)
  unfold FormV at HR
  clear hp
  generalize hnn : ns.length = nn at *
  generalize htn : ts.length = tn at *
  clear hnn htn
  go_enter Tryz.func17, Tryz.ntmps17
  go_wp2_with fail
  have S0 := Lib.hid ((Mod.refl (fun _ => False) w).alloc (.cells #[.int .i64 0, .slice none 0 0, .slice none 0 0] 64))
  have B0 := Lib.hid (Blk.new w #[.int .i64 0, .slice none 0 0, .slice none 0 0] 64)
  generalize w.alloc _ = W at *
  generalize hZ : w.heap.size = Z at *
  refine (words16_any _).mono ?_
  rintro e w1 ⟨g, rfl, hB, M1⟩
  have K1 := Lib.hid (S0.out.same M1)
  have B1 := Lib.hid (B0.out.mod M1 (fun q => q))
  have KB := Lib.hid hB
  clear hB M1 S0 B0
  go_wp2_with fail
  go_loopw [5, 3] (fun i kk wr => ∃ j : Nat, 1 ≤ j ∧ j ≤ 16 ∧ i = .int .i64 (j : Int) ∧ kk = .int .i64 (kAt 5 j) ∧ Same w1 wr) (fun i _ _ => 16 - (intOf i).toNat)
  case atStart => exact ⟨1, by omega, by omega, rfl, rfl, Mod.refl _ _⟩
  case round =>
    obtain ⟨j, hj1, hj2, rfl, rfl, hM⟩ := hrel
    by_cases hlt : j < 16
    · obtain ⟨s, hs, hq⟩ := words16_at 5 j (by omega) hlt
      have hc : wr.cell? ⟨g, j, none⟩ = some (.string ⟨s.toArray⟩) := by
        refine (hM.cell KB.out.lt (fun q => q) j).trans ((KB.out.cell j).trans ?_)
        rw [List.getElem?_toArray, List.getElem?_map, hs]; rfl
      have hl : g < wr.heap.size := Nat.lt_of_lt_of_le KB.out.lt hM.size
      have L1 := Lib.hid hM
      clear hM hs
      by_cases hjk : j = 5 + 1
      · have hq2 : (s == [102, 114, 101, 101]) = true := hq.trans (decide_eq_true hjk)
        have HJ := Lib.hid hjk
        clear hjk hq
        go_wp2_with fail
        go_region_held3 (fun w' => w'.cell? ⟨g, j, none⟩ = some (.string ⟨s.toArray⟩)) (first | exact hc | assumption | go_keep) ((
          first
          | (go_at_call 243; refine (wordF5 _ _).mono ?_; rintro e w5 ⟨rfl, M5⟩; have A5 := Lib.hid ((Mod.refl (fun _ => False) wr).drew.same M5); have hc5 := (A5.out.cell hl (fun q => q) j).trans hc; clear M5)))
        all_goals
          go_wp2_with fail
          go_roundw
          case rel => exact ⟨j + 1, by omega, by omega, by go_num, by rw [HJ.out, kAt_hit], L1.out.same A5.out⟩
          case measure => simp [intOf]; omega
      · have hq2 : (s == [102, 114, 101, 101]) = false := hq.trans (decide_eq_false hjk)
        have HJ := Lib.hid hjk
        clear hjk hq
        go_wp2_with fail
        go_region_held3 (fun w' => w'.cell? ⟨g, j, none⟩ = some (.string ⟨s.toArray⟩)) (first | exact hc | assumption | go_keep) ((
          first
          | (go_at_call 243; refine (wordF5 _ _).mono ?_; rintro e w5 ⟨rfl, M5⟩; have A5 := Lib.hid ((Mod.refl (fun _ => False) wr).drew.same M5); have hc5 := (A5.out.cell hl (fun q => q) j).trans hc; clear M5)))
        all_goals
          go_wp2_with fail
          go_roundw
          case rel => exact ⟨j + 1, by omega, by omega, by go_num, by rw [kAt_miss _ _ HJ.out], L1.out.same A5.out⟩
          case measure => simp [intOf]; omega
    · obtain rfl : j = 16 := by omega
      rw [kAt_end 5 (by omega)]
      have K2 := Lib.hid (K1.out.same hM)
      have B2 := Lib.hid (B1.out.mod hM (fun q => q))
      clear hM KB B1 K1
      go_wp2_with fail
      refine (HN.out _).mono ?_
      rintro e w3 ⟨a1, c1, rfl, h1, M3⟩
      have R1 := Lib.hid h1
      have K3 := Lib.hid (K2.out.same M3)
      have B3 := Lib.hid (B2.out.mod M3 (fun q => q))
      have hZr : Z < wr.heap.size := B2.out.lt
      clear h1 M3 K2 B2
      go_wp2_with fail
      refine (HDt.out _).mono ?_
      rintro e w4 ⟨a2, c2, rfl, h2, M4⟩
      have R2 := Lib.hid h2
      have R1b := Lib.hid (R1.out.after M4 (fun _ _ q => q))
      have K4 := Lib.hid (K3.out.same M4)
      have B4 := Lib.hid (B3.out.mod M4 (fun q => q))
      have hZ3 : Z < w3.heap.size := B3.out.lt
      clear h2 M4 K3 B3 R1
      have hc := B4.out.cell
      have hf := B4.out.free
      have hlt4 := B4.out.lt
      go_wp2
      have M5 := fun (v0 v1 v2 : Value) => (((Mod.refl (fun i => i = Z) w4).setCell (p := ⟨Z, 0, none⟩) (fun _ => rfl) v0).setCell (p := ⟨Z, 1, none⟩) (fun _ => rfl) v1).setCell (p := ⟨Z, 2, none⟩) (fun _ => rfl) v2
      have BF := ((B4.out.set 0 (.int .i64 6)).set 1 (.slice a1 nn c1)).set 2 (.slice a2 tn c2)
      have g0 := BF.at_ (i := 0) (.int .i64 6) rfl
      have g1 := BF.at_ (i := 1) (.slice a1 nn c1) rfl
      have g2 := BF.at_ (i := 2) (.slice a2 tn c2) rfl
      have N5 := M5 (.int .i64 6) (.slice a1 nn c1) (.slice a2 tn c2)
      clear hc hf BF M5
      generalize ((w4.setCell ⟨Z, 0, none⟩ (.int .i64 6)).setCell ⟨Z, 1, none⟩ (.slice a1 nn c1)).setCell ⟨Z, 2, none⟩ (.slice a2 tn c2) = w5 at *
      exact bodyPost_ret (v := .agg #[.int .i64 6, .slice a1 nn c1, .slice a2 tn c2]) (by simp [results, Tryz.results17, go_sem, g0, g1, g2]) rfl (HR.out _ _ ⟨a1, c1, a2, c2, rfl, (R1b.out.after N5 (fun b hb e => by have : b = Z := e; omega)).base (by omega), (R2.out.after N5 (fun b hb e => by have : b = Z := e; omega)).base (by omega), K4.out.then_ N5 (fun i hi e => by omega)⟩)

set_option maxRecDepth 10000 in
set_option maxHeartbeats 4000000 in
theorem formK6 (cs : Array Value) (ns ts : List Value) (hp : ∀ wz, Calls Tryz.prog 73 #[.iface 94 (.agg cs)] wz (PartsV wz ns ts)) (w : World) : Calls Tryz.prog 17 #[.iface 94 (.agg cs)] w (FormV 6 ns ts w) := by
  refine opq fun R HR => ?_
  have HN := Lib.hid (fun w => numbers_of _ ns ts w hp)
  have HDt := Lib.hid (fun w => data_of _ ns ts w hp)
  unfold FormV at HR
  clear hp
  generalize hnn : ns.length = nn at *
  generalize htn : ts.length = tn at *
  clear hnn htn
  go_enter Tryz.func17, Tryz.ntmps17
  go_wp2_with fail
  have S0 := Lib.hid ((Mod.refl (fun _ => False) w).alloc (.cells #[.int .i64 0, .slice none 0 0, .slice none 0 0] 64))
  have B0 := Lib.hid (Blk.new w #[.int .i64 0, .slice none 0 0, .slice none 0 0] 64)
  generalize w.alloc _ = W at *
  generalize hZ : w.heap.size = Z at *
  refine (words16_any _).mono ?_
  rintro e w1 ⟨g, rfl, hB, M1⟩
  have K1 := Lib.hid (S0.out.same M1)
  have B1 := Lib.hid (B0.out.mod M1 (fun q => q))
  have KB := Lib.hid hB
  clear hB M1 S0 B0
  go_wp2_with fail
  go_loopw [5, 3] (fun i kk wr => ∃ j : Nat, 1 ≤ j ∧ j ≤ 16 ∧ i = .int .i64 (j : Int) ∧ kk = .int .i64 (kAt 6 j) ∧ Same w1 wr) (fun i _ _ => 16 - (intOf i).toNat)
  case atStart => exact ⟨1, by omega, by omega, rfl, rfl, Mod.refl _ _⟩
  case round =>
    obtain ⟨j, hj1, hj2, rfl, rfl, hM⟩ := hrel
    by_cases hlt : j < 16
    · obtain ⟨s, hs, hq⟩ := words16_at 6 j (by omega) hlt
      have hc : wr.cell? ⟨g, j, none⟩ = some (.string ⟨s.toArray⟩) := by
        refine (hM.cell KB.out.lt (fun q => q) j).trans ((KB.out.cell j).trans ?_)
        rw [List.getElem?_toArray, List.getElem?_map, hs]; rfl
      have hl : g < wr.heap.size := Nat.lt_of_lt_of_le KB.out.lt hM.size
      have L1 := Lib.hid hM
      clear hM hs
      by_cases hjk : j = 6 + 1
      · have hq2 : (s == [114, 101, 97, 100]) = true := hq.trans (decide_eq_true hjk)
        have HJ := Lib.hid hjk
        clear hjk hq
        go_wp2_with fail
        go_region_held3 (fun w' => w'.cell? ⟨g, j, none⟩ = some (.string ⟨s.toArray⟩)) (first | exact hc | assumption | go_keep) ((
          first
          | (go_at_call 238; refine (wordF6 _ _).mono ?_; rintro e w5 ⟨rfl, M5⟩; have A5 := Lib.hid ((Mod.refl (fun _ => False) wr).drew.same M5); have hc5 := (A5.out.cell hl (fun q => q) j).trans hc; clear M5)))
        all_goals
          go_wp2_with fail
          go_roundw
          case rel => exact ⟨j + 1, by omega, by omega, by go_num, by rw [HJ.out, kAt_hit], L1.out.same A5.out⟩
          case measure => simp [intOf]; omega
      · have hq2 : (s == [114, 101, 97, 100]) = false := hq.trans (decide_eq_false hjk)
        have HJ := Lib.hid hjk
        clear hjk hq
        go_wp2_with fail
        go_region_held3 (fun w' => w'.cell? ⟨g, j, none⟩ = some (.string ⟨s.toArray⟩)) (first | exact hc | assumption | go_keep) ((
          first
          | (go_at_call 238; refine (wordF6 _ _).mono ?_; rintro e w5 ⟨rfl, M5⟩; have A5 := Lib.hid ((Mod.refl (fun _ => False) wr).drew.same M5); have hc5 := (A5.out.cell hl (fun q => q) j).trans hc; clear M5)))
        all_goals
          go_wp2_with fail
          go_roundw
          case rel => exact ⟨j + 1, by omega, by omega, by go_num, by rw [kAt_miss _ _ HJ.out], L1.out.same A5.out⟩
          case measure => simp [intOf]; omega
    · obtain rfl : j = 16 := by omega
      rw [kAt_end 6 (by omega)]
      have K2 := Lib.hid (K1.out.same hM)
      have B2 := Lib.hid (B1.out.mod hM (fun q => q))
      clear hM KB B1 K1
      go_wp2_with fail
      refine (HN.out _).mono ?_
      rintro e w3 ⟨a1, c1, rfl, h1, M3⟩
      have R1 := Lib.hid h1
      have K3 := Lib.hid (K2.out.same M3)
      have B3 := Lib.hid (B2.out.mod M3 (fun q => q))
      have hZr : Z < wr.heap.size := B2.out.lt
      clear h1 M3 K2 B2
      go_wp2_with fail
      refine (HDt.out _).mono ?_
      rintro e w4 ⟨a2, c2, rfl, h2, M4⟩
      have R2 := Lib.hid h2
      have R1b := Lib.hid (R1.out.after M4 (fun _ _ q => q))
      have K4 := Lib.hid (K3.out.same M4)
      have B4 := Lib.hid (B3.out.mod M4 (fun q => q))
      have hZ3 : Z < w3.heap.size := B3.out.lt
      clear h2 M4 K3 B3 R1
      have hc := B4.out.cell
      have hf := B4.out.free
      have hlt4 := B4.out.lt
      go_wp2
      have M5 := fun (v0 v1 v2 : Value) => (((Mod.refl (fun i => i = Z) w4).setCell (p := ⟨Z, 0, none⟩) (fun _ => rfl) v0).setCell (p := ⟨Z, 1, none⟩) (fun _ => rfl) v1).setCell (p := ⟨Z, 2, none⟩) (fun _ => rfl) v2
      have BF := ((B4.out.set 0 (.int .i64 7)).set 1 (.slice a1 nn c1)).set 2 (.slice a2 tn c2)
      have g0 := BF.at_ (i := 0) (.int .i64 7) rfl
      have g1 := BF.at_ (i := 1) (.slice a1 nn c1) rfl
      have g2 := BF.at_ (i := 2) (.slice a2 tn c2) rfl
      have N5 := M5 (.int .i64 7) (.slice a1 nn c1) (.slice a2 tn c2)
      clear hc hf BF M5
      generalize ((w4.setCell ⟨Z, 0, none⟩ (.int .i64 7)).setCell ⟨Z, 1, none⟩ (.slice a1 nn c1)).setCell ⟨Z, 2, none⟩ (.slice a2 tn c2) = w5 at *
      exact bodyPost_ret (v := .agg #[.int .i64 7, .slice a1 nn c1, .slice a2 tn c2]) (by simp [results, Tryz.results17, go_sem, g0, g1, g2]) rfl (HR.out _ _ ⟨a1, c1, a2, c2, rfl, (R1b.out.after N5 (fun b hb e => by have : b = Z := e; omega)).base (by omega), (R2.out.after N5 (fun b hb e => by have : b = Z := e; omega)).base (by omega), K4.out.then_ N5 (fun i hi e => by omega)⟩)

set_option maxRecDepth 10000 in
set_option maxHeartbeats 4000000 in
theorem formK7 (cs : Array Value) (ns ts : List Value) (hp : ∀ wz, Calls Tryz.prog 73 #[.iface 38 (.agg cs)] wz (PartsV wz ns ts)) (w : World) : Calls Tryz.prog 17 #[.iface 38 (.agg cs)] w (FormV 7 ns ts w) := by
  refine opq fun R HR => ?_
  have HN := Lib.hid (fun w => numbers_of _ ns ts w hp)
  have HDt := Lib.hid (fun w => data_of _ ns ts w hp)
  unfold FormV at HR
  clear hp
  generalize hnn : ns.length = nn at *
  generalize htn : ts.length = tn at *
  clear hnn htn
  go_enter Tryz.func17, Tryz.ntmps17
  go_wp2_with fail
  have S0 := Lib.hid ((Mod.refl (fun _ => False) w).alloc (.cells #[.int .i64 0, .slice none 0 0, .slice none 0 0] 64))
  have B0 := Lib.hid (Blk.new w #[.int .i64 0, .slice none 0 0, .slice none 0 0] 64)
  generalize w.alloc _ = W at *
  generalize hZ : w.heap.size = Z at *
  refine (words16_any _).mono ?_
  rintro e w1 ⟨g, rfl, hB, M1⟩
  have K1 := Lib.hid (S0.out.same M1)
  have B1 := Lib.hid (B0.out.mod M1 (fun q => q))
  have KB := Lib.hid hB
  clear hB M1 S0 B0
  go_wp2_with fail
  go_loopw [5, 3] (fun i kk wr => ∃ j : Nat, 1 ≤ j ∧ j ≤ 16 ∧ i = .int .i64 (j : Int) ∧ kk = .int .i64 (kAt 7 j) ∧ Same w1 wr) (fun i _ _ => 16 - (intOf i).toNat)
  case atStart => exact ⟨1, by omega, by omega, rfl, rfl, Mod.refl _ _⟩
  case round =>
    obtain ⟨j, hj1, hj2, rfl, rfl, hM⟩ := hrel
    by_cases hlt : j < 16
    · obtain ⟨s, hs, hq⟩ := words16_at 7 j (by omega) hlt
      have hc : wr.cell? ⟨g, j, none⟩ = some (.string ⟨s.toArray⟩) := by
        refine (hM.cell KB.out.lt (fun q => q) j).trans ((KB.out.cell j).trans ?_)
        rw [List.getElem?_toArray, List.getElem?_map, hs]; rfl
      have hl : g < wr.heap.size := Nat.lt_of_lt_of_le KB.out.lt hM.size
      have L1 := Lib.hid hM
      clear hM hs
      by_cases hjk : j = 7 + 1
      · have hq2 : (s == [119, 114, 105, 116, 101]) = true := hq.trans (decide_eq_true hjk)
        have HJ := Lib.hid hjk
        clear hjk hq
        go_wp2_with fail
        go_region_held3 (fun w' => w'.cell? ⟨g, j, none⟩ = some (.string ⟨s.toArray⟩)) (first | exact hc | assumption | go_keep) ((
          first
          | (go_at_call 232; refine (wordF7 _ _).mono ?_; rintro e w5 ⟨rfl, M5⟩; have A5 := Lib.hid ((Mod.refl (fun _ => False) wr).drew.same M5); have hc5 := (A5.out.cell hl (fun q => q) j).trans hc; clear M5)))
        all_goals
          go_wp2_with fail
          go_roundw
          case rel => exact ⟨j + 1, by omega, by omega, by go_num, by rw [HJ.out, kAt_hit], L1.out.same A5.out⟩
          case measure => simp [intOf]; omega
      · have hq2 : (s == [119, 114, 105, 116, 101]) = false := hq.trans (decide_eq_false hjk)
        have HJ := Lib.hid hjk
        clear hjk hq
        go_wp2_with fail
        go_region_held3 (fun w' => w'.cell? ⟨g, j, none⟩ = some (.string ⟨s.toArray⟩)) (first | exact hc | assumption | go_keep) ((
          first
          | (go_at_call 232; refine (wordF7 _ _).mono ?_; rintro e w5 ⟨rfl, M5⟩; have A5 := Lib.hid ((Mod.refl (fun _ => False) wr).drew.same M5); have hc5 := (A5.out.cell hl (fun q => q) j).trans hc; clear M5)))
        all_goals
          go_wp2_with fail
          go_roundw
          case rel => exact ⟨j + 1, by omega, by omega, by go_num, by rw [kAt_miss _ _ HJ.out], L1.out.same A5.out⟩
          case measure => simp [intOf]; omega
    · obtain rfl : j = 16 := by omega
      rw [kAt_end 7 (by omega)]
      have K2 := Lib.hid (K1.out.same hM)
      have B2 := Lib.hid (B1.out.mod hM (fun q => q))
      clear hM KB B1 K1
      go_wp2_with fail
      refine (HN.out _).mono ?_
      rintro e w3 ⟨a1, c1, rfl, h1, M3⟩
      have R1 := Lib.hid h1
      have K3 := Lib.hid (K2.out.same M3)
      have B3 := Lib.hid (B2.out.mod M3 (fun q => q))
      have hZr : Z < wr.heap.size := B2.out.lt
      clear h1 M3 K2 B2
      go_wp2_with fail
      refine (HDt.out _).mono ?_
      rintro e w4 ⟨a2, c2, rfl, h2, M4⟩
      have R2 := Lib.hid h2
      have R1b := Lib.hid (R1.out.after M4 (fun _ _ q => q))
      have K4 := Lib.hid (K3.out.same M4)
      have B4 := Lib.hid (B3.out.mod M4 (fun q => q))
      have hZ3 : Z < w3.heap.size := B3.out.lt
      clear h2 M4 K3 B3 R1
      have hc := B4.out.cell
      have hf := B4.out.free
      have hlt4 := B4.out.lt
      go_wp2
      have M5 := fun (v0 v1 v2 : Value) => (((Mod.refl (fun i => i = Z) w4).setCell (p := ⟨Z, 0, none⟩) (fun _ => rfl) v0).setCell (p := ⟨Z, 1, none⟩) (fun _ => rfl) v1).setCell (p := ⟨Z, 2, none⟩) (fun _ => rfl) v2
      have BF := ((B4.out.set 0 (.int .i64 8)).set 1 (.slice a1 nn c1)).set 2 (.slice a2 tn c2)
      have g0 := BF.at_ (i := 0) (.int .i64 8) rfl
      have g1 := BF.at_ (i := 1) (.slice a1 nn c1) rfl
      have g2 := BF.at_ (i := 2) (.slice a2 tn c2) rfl
      have N5 := M5 (.int .i64 8) (.slice a1 nn c1) (.slice a2 tn c2)
      clear hc hf BF M5
      generalize ((w4.setCell ⟨Z, 0, none⟩ (.int .i64 8)).setCell ⟨Z, 1, none⟩ (.slice a1 nn c1)).setCell ⟨Z, 2, none⟩ (.slice a2 tn c2) = w5 at *
      exact bodyPost_ret (v := .agg #[.int .i64 8, .slice a1 nn c1, .slice a2 tn c2]) (by simp [results, Tryz.results17, go_sem, g0, g1, g2]) rfl (HR.out _ _ ⟨a1, c1, a2, c2, rfl, (R1b.out.after N5 (fun b hb e => by have : b = Z := e; omega)).base (by omega), (R2.out.after N5 (fun b hb e => by have : b = Z := e; omega)).base (by omega), K4.out.then_ N5 (fun i hi e => by omega)⟩)

set_option maxRecDepth 10000 in
set_option maxHeartbeats 4000000 in
theorem formK8 (cs : Array Value) (ns ts : List Value) (hp : ∀ wz, Calls Tryz.prog 73 #[.iface 42 (.agg cs)] wz (PartsV wz ns ts)) (w : World) : Calls Tryz.prog 17 #[.iface 42 (.agg cs)] w (FormV 8 ns ts w) := by
  refine opq fun R HR => ?_
  have HN := Lib.hid (fun w => numbers_of _ ns ts w hp)
  have HDt := Lib.hid (fun w => data_of _ ns ts w hp)
  unfold FormV at HR
  clear hp
  generalize hnn : ns.length = nn at *
  generalize htn : ts.length = tn at *
  clear hnn htn
  go_enter Tryz.func17, Tryz.ntmps17
  go_wp2_with fail
  have S0 := Lib.hid ((Mod.refl (fun _ => False) w).alloc (.cells #[.int .i64 0, .slice none 0 0, .slice none 0 0] 64))
  have B0 := Lib.hid (Blk.new w #[.int .i64 0, .slice none 0 0, .slice none 0 0] 64)
  generalize w.alloc _ = W at *
  generalize hZ : w.heap.size = Z at *
  refine (words16_any _).mono ?_
  rintro e w1 ⟨g, rfl, hB, M1⟩
  have K1 := Lib.hid (S0.out.same M1)
  have B1 := Lib.hid (B0.out.mod M1 (fun q => q))
  have KB := Lib.hid hB
  clear hB M1 S0 B0
  go_wp2_with fail
  go_loopw [5, 3] (fun i kk wr => ∃ j : Nat, 1 ≤ j ∧ j ≤ 16 ∧ i = .int .i64 (j : Int) ∧ kk = .int .i64 (kAt 8 j) ∧ Same w1 wr) (fun i _ _ => 16 - (intOf i).toNat)
  case atStart => exact ⟨1, by omega, by omega, rfl, rfl, Mod.refl _ _⟩
  case round =>
    obtain ⟨j, hj1, hj2, rfl, rfl, hM⟩ := hrel
    by_cases hlt : j < 16
    · obtain ⟨s, hs, hq⟩ := words16_at 8 j (by omega) hlt
      have hc : wr.cell? ⟨g, j, none⟩ = some (.string ⟨s.toArray⟩) := by
        refine (hM.cell KB.out.lt (fun q => q) j).trans ((KB.out.cell j).trans ?_)
        rw [List.getElem?_toArray, List.getElem?_map, hs]; rfl
      have hl : g < wr.heap.size := Nat.lt_of_lt_of_le KB.out.lt hM.size
      have L1 := Lib.hid hM
      clear hM hs
      by_cases hjk : j = 8 + 1
      · have hq2 : (s == [100, 105, 115, 99, 97, 114, 100]) = true := hq.trans (decide_eq_true hjk)
        have HJ := Lib.hid hjk
        clear hjk hq
        go_wp2_with fail
        go_region_held3 (fun w' => w'.cell? ⟨g, j, none⟩ = some (.string ⟨s.toArray⟩)) (first | exact hc | assumption | go_keep) ((
          first
          | (go_at_call 234; refine (wordF8 _ _).mono ?_; rintro e w5 ⟨rfl, M5⟩; have A5 := Lib.hid ((Mod.refl (fun _ => False) wr).drew.same M5); have hc5 := (A5.out.cell hl (fun q => q) j).trans hc; clear M5)))
        all_goals
          go_wp2_with fail
          go_roundw
          case rel => exact ⟨j + 1, by omega, by omega, by go_num, by rw [HJ.out, kAt_hit], L1.out.same A5.out⟩
          case measure => simp [intOf]; omega
      · have hq2 : (s == [100, 105, 115, 99, 97, 114, 100]) = false := hq.trans (decide_eq_false hjk)
        have HJ := Lib.hid hjk
        clear hjk hq
        go_wp2_with fail
        go_region_held3 (fun w' => w'.cell? ⟨g, j, none⟩ = some (.string ⟨s.toArray⟩)) (first | exact hc | assumption | go_keep) ((
          first
          | (go_at_call 234; refine (wordF8 _ _).mono ?_; rintro e w5 ⟨rfl, M5⟩; have A5 := Lib.hid ((Mod.refl (fun _ => False) wr).drew.same M5); have hc5 := (A5.out.cell hl (fun q => q) j).trans hc; clear M5)))
        all_goals
          go_wp2_with fail
          go_roundw
          case rel => exact ⟨j + 1, by omega, by omega, by go_num, by rw [kAt_miss _ _ HJ.out], L1.out.same A5.out⟩
          case measure => simp [intOf]; omega
    · obtain rfl : j = 16 := by omega
      rw [kAt_end 8 (by omega)]
      have K2 := Lib.hid (K1.out.same hM)
      have B2 := Lib.hid (B1.out.mod hM (fun q => q))
      clear hM KB B1 K1
      go_wp2_with fail
      refine (HN.out _).mono ?_
      rintro e w3 ⟨a1, c1, rfl, h1, M3⟩
      have R1 := Lib.hid h1
      have K3 := Lib.hid (K2.out.same M3)
      have B3 := Lib.hid (B2.out.mod M3 (fun q => q))
      have hZr : Z < wr.heap.size := B2.out.lt
      clear h1 M3 K2 B2
      go_wp2_with fail
      refine (HDt.out _).mono ?_
      rintro e w4 ⟨a2, c2, rfl, h2, M4⟩
      have R2 := Lib.hid h2
      have R1b := Lib.hid (R1.out.after M4 (fun _ _ q => q))
      have K4 := Lib.hid (K3.out.same M4)
      have B4 := Lib.hid (B3.out.mod M4 (fun q => q))
      have hZ3 : Z < w3.heap.size := B3.out.lt
      clear h2 M4 K3 B3 R1
      have hc := B4.out.cell
      have hf := B4.out.free
      have hlt4 := B4.out.lt
      go_wp2
      have M5 := fun (v0 v1 v2 : Value) => (((Mod.refl (fun i => i = Z) w4).setCell (p := ⟨Z, 0, none⟩) (fun _ => rfl) v0).setCell (p := ⟨Z, 1, none⟩) (fun _ => rfl) v1).setCell (p := ⟨Z, 2, none⟩) (fun _ => rfl) v2
      have BF := ((B4.out.set 0 (.int .i64 9)).set 1 (.slice a1 nn c1)).set 2 (.slice a2 tn c2)
      have g0 := BF.at_ (i := 0) (.int .i64 9) rfl
      have g1 := BF.at_ (i := 1) (.slice a1 nn c1) rfl
      have g2 := BF.at_ (i := 2) (.slice a2 tn c2) rfl
      have N5 := M5 (.int .i64 9) (.slice a1 nn c1) (.slice a2 tn c2)
      clear hc hf BF M5
      generalize ((w4.setCell ⟨Z, 0, none⟩ (.int .i64 9)).setCell ⟨Z, 1, none⟩ (.slice a1 nn c1)).setCell ⟨Z, 2, none⟩ (.slice a2 tn c2) = w5 at *
      exact bodyPost_ret (v := .agg #[.int .i64 9, .slice a1 nn c1, .slice a2 tn c2]) (by simp [results, Tryz.results17, go_sem, g0, g1, g2]) rfl (HR.out _ _ ⟨a1, c1, a2, c2, rfl, (R1b.out.after N5 (fun b hb e => by have : b = Z := e; omega)).base (by omega), (R2.out.after N5 (fun b hb e => by have : b = Z := e; omega)).base (by omega), K4.out.then_ N5 (fun i hi e => by omega)⟩)

set_option maxRecDepth 10000 in
set_option maxHeartbeats 4000000 in
theorem formK9 (cs : Array Value) (ns ts : List Value) (hp : ∀ wz, Calls Tryz.prog 73 #[.iface 40 (.agg cs)] wz (PartsV wz ns ts)) (w : World) : Calls Tryz.prog 17 #[.iface 40 (.agg cs)] w (FormV 9 ns ts w) := by
  refine opq fun R HR => ?_
  have HN := Lib.hid (fun w => numbers_of _ ns ts w hp)
  have HDt := Lib.hid (fun w => data_of _ ns ts w hp)
  unfold FormV at HR
  clear hp
  generalize hnn : ns.length = nn at *
  generalize htn : ts.length = tn at *
  clear hnn htn
  go_enter Tryz.func17, Tryz.ntmps17
  go_wp2_with fail
  have S0 := Lib.hid ((Mod.refl (fun _ => False) w).alloc (.cells #[.int .i64 0, .slice none 0 0, .slice none 0 0] 64))
  have B0 := Lib.hid (Blk.new w #[.int .i64 0, .slice none 0 0, .slice none 0 0] 64)
  generalize w.alloc _ = W at *
  generalize hZ : w.heap.size = Z at *
  refine (words16_any _).mono ?_
  rintro e w1 ⟨g, rfl, hB, M1⟩
  have K1 := Lib.hid (S0.out.same M1)
  have B1 := Lib.hid (B0.out.mod M1 (fun q => q))
  have KB := Lib.hid hB
  clear hB M1 S0 B0
  go_wp2_with fail
  go_loopw [5, 3] (fun i kk wr => ∃ j : Nat, 1 ≤ j ∧ j ≤ 16 ∧ i = .int .i64 (j : Int) ∧ kk = .int .i64 (kAt 9 j) ∧ Same w1 wr) (fun i _ _ => 16 - (intOf i).toNat)
  case atStart => exact ⟨1, by omega, by omega, rfl, rfl, Mod.refl _ _⟩
  case round =>
    obtain ⟨j, hj1, hj2, rfl, rfl, hM⟩ := hrel
    by_cases hlt : j < 16
    · obtain ⟨s, hs, hq⟩ := words16_at 9 j (by omega) hlt
      have hc : wr.cell? ⟨g, j, none⟩ = some (.string ⟨s.toArray⟩) := by
        refine (hM.cell KB.out.lt (fun q => q) j).trans ((KB.out.cell j).trans ?_)
        rw [List.getElem?_toArray, List.getElem?_map, hs]; rfl
      have hl : g < wr.heap.size := Nat.lt_of_lt_of_le KB.out.lt hM.size
      have L1 := Lib.hid hM
      clear hM hs
      by_cases hjk : j = 9 + 1
      · have hq2 : (s == [102, 108, 117, 115, 104]) = true := hq.trans (decide_eq_true hjk)
        have HJ := Lib.hid hjk
        clear hjk hq
        go_wp2_with fail
        go_region_held3 (fun w' => w'.cell? ⟨g, j, none⟩ = some (.string ⟨s.toArray⟩)) (first | exact hc | assumption | go_keep) ((
          first
          | (go_at_call 233; refine (wordF9 _ _).mono ?_; rintro e w5 ⟨rfl, M5⟩; have A5 := Lib.hid ((Mod.refl (fun _ => False) wr).drew.same M5); have hc5 := (A5.out.cell hl (fun q => q) j).trans hc; clear M5)))
        all_goals
          go_wp2_with fail
          go_roundw
          case rel => exact ⟨j + 1, by omega, by omega, by go_num, by rw [HJ.out, kAt_hit], L1.out.same A5.out⟩
          case measure => simp [intOf]; omega
      · have hq2 : (s == [102, 108, 117, 115, 104]) = false := hq.trans (decide_eq_false hjk)
        have HJ := Lib.hid hjk
        clear hjk hq
        go_wp2_with fail
        go_region_held3 (fun w' => w'.cell? ⟨g, j, none⟩ = some (.string ⟨s.toArray⟩)) (first | exact hc | assumption | go_keep) ((
          first
          | (go_at_call 233; refine (wordF9 _ _).mono ?_; rintro e w5 ⟨rfl, M5⟩; have A5 := Lib.hid ((Mod.refl (fun _ => False) wr).drew.same M5); have hc5 := (A5.out.cell hl (fun q => q) j).trans hc; clear M5)))
        all_goals
          go_wp2_with fail
          go_roundw
          case rel => exact ⟨j + 1, by omega, by omega, by go_num, by rw [kAt_miss _ _ HJ.out], L1.out.same A5.out⟩
          case measure => simp [intOf]; omega
    · obtain rfl : j = 16 := by omega
      rw [kAt_end 9 (by omega)]
      have K2 := Lib.hid (K1.out.same hM)
      have B2 := Lib.hid (B1.out.mod hM (fun q => q))
      clear hM KB B1 K1
      go_wp2_with fail
      refine (HN.out _).mono ?_
      rintro e w3 ⟨a1, c1, rfl, h1, M3⟩
      have R1 := Lib.hid h1
      have K3 := Lib.hid (K2.out.same M3)
      have B3 := Lib.hid (B2.out.mod M3 (fun q => q))
      have hZr : Z < wr.heap.size := B2.out.lt
      clear h1 M3 K2 B2
      go_wp2_with fail
      refine (HDt.out _).mono ?_
      rintro e w4 ⟨a2, c2, rfl, h2, M4⟩
      have R2 := Lib.hid h2
      have R1b := Lib.hid (R1.out.after M4 (fun _ _ q => q))
      have K4 := Lib.hid (K3.out.same M4)
      have B4 := Lib.hid (B3.out.mod M4 (fun q => q))
      have hZ3 : Z < w3.heap.size := B3.out.lt
      clear h2 M4 K3 B3 R1
      have hc := B4.out.cell
      have hf := B4.out.free
      have hlt4 := B4.out.lt
      go_wp2
      have M5 := fun (v0 v1 v2 : Value) => (((Mod.refl (fun i => i = Z) w4).setCell (p := ⟨Z, 0, none⟩) (fun _ => rfl) v0).setCell (p := ⟨Z, 1, none⟩) (fun _ => rfl) v1).setCell (p := ⟨Z, 2, none⟩) (fun _ => rfl) v2
      have BF := ((B4.out.set 0 (.int .i64 10)).set 1 (.slice a1 nn c1)).set 2 (.slice a2 tn c2)
      have g0 := BF.at_ (i := 0) (.int .i64 10) rfl
      have g1 := BF.at_ (i := 1) (.slice a1 nn c1) rfl
      have g2 := BF.at_ (i := 2) (.slice a2 tn c2) rfl
      have N5 := M5 (.int .i64 10) (.slice a1 nn c1) (.slice a2 tn c2)
      clear hc hf BF M5
      generalize ((w4.setCell ⟨Z, 0, none⟩ (.int .i64 10)).setCell ⟨Z, 1, none⟩ (.slice a1 nn c1)).setCell ⟨Z, 2, none⟩ (.slice a2 tn c2) = w5 at *
      exact bodyPost_ret (v := .agg #[.int .i64 10, .slice a1 nn c1, .slice a2 tn c2]) (by simp [results, Tryz.results17, go_sem, g0, g1, g2]) rfl (HR.out _ _ ⟨a1, c1, a2, c2, rfl, (R1b.out.after N5 (fun b hb e => by have : b = Z := e; omega)).base (by omega), (R2.out.after N5 (fun b hb e => by have : b = Z := e; omega)).base (by omega), K4.out.then_ N5 (fun i hi e => by omega)⟩)

set_option maxRecDepth 10000 in
set_option maxHeartbeats 4000000 in
theorem formK10 (cs : Array Value) (ns ts : List Value) (hp : ∀ wz, Calls Tryz.prog 73 #[.iface 188 (.agg cs)] wz (PartsV wz ns ts)) (w : World) : Calls Tryz.prog 17 #[.iface 188 (.agg cs)] w (FormV 10 ns ts w) := by
  refine opq fun R HR => ?_
  have HN := Lib.hid (fun w => numbers_of _ ns ts w hp)
  have HDt := Lib.hid (fun w => data_of _ ns ts w hp)
  unfold FormV at HR
  clear hp
  generalize hnn : ns.length = nn at *
  generalize htn : ts.length = tn at *
  clear hnn htn
  go_enter Tryz.func17, Tryz.ntmps17
  go_wp2_with fail
  have S0 := Lib.hid ((Mod.refl (fun _ => False) w).alloc (.cells #[.int .i64 0, .slice none 0 0, .slice none 0 0] 64))
  have B0 := Lib.hid (Blk.new w #[.int .i64 0, .slice none 0 0, .slice none 0 0] 64)
  generalize w.alloc _ = W at *
  generalize hZ : w.heap.size = Z at *
  refine (words16_any _).mono ?_
  rintro e w1 ⟨g, rfl, hB, M1⟩
  have K1 := Lib.hid (S0.out.same M1)
  have B1 := Lib.hid (B0.out.mod M1 (fun q => q))
  have KB := Lib.hid hB
  clear hB M1 S0 B0
  go_wp2_with fail
  go_loopw [5, 3] (fun i kk wr => ∃ j : Nat, 1 ≤ j ∧ j ≤ 16 ∧ i = .int .i64 (j : Int) ∧ kk = .int .i64 (kAt 10 j) ∧ Same w1 wr) (fun i _ _ => 16 - (intOf i).toNat)
  case atStart => exact ⟨1, by omega, by omega, rfl, rfl, Mod.refl _ _⟩
  case round =>
    obtain ⟨j, hj1, hj2, rfl, rfl, hM⟩ := hrel
    by_cases hlt : j < 16
    · obtain ⟨s, hs, hq⟩ := words16_at 10 j (by omega) hlt
      have hc : wr.cell? ⟨g, j, none⟩ = some (.string ⟨s.toArray⟩) := by
        refine (hM.cell KB.out.lt (fun q => q) j).trans ((KB.out.cell j).trans ?_)
        rw [List.getElem?_toArray, List.getElem?_map, hs]; rfl
      have hl : g < wr.heap.size := Nat.lt_of_lt_of_le KB.out.lt hM.size
      have L1 := Lib.hid hM
      clear hM hs
      by_cases hjk : j = 10 + 1
      · have hq2 : (s == [116, 105, 99, 107]) = true := hq.trans (decide_eq_true hjk)
        have HJ := Lib.hid hjk
        clear hjk hq
        go_wp2_with fail
        go_region_held3 (fun w' => w'.cell? ⟨g, j, none⟩ = some (.string ⟨s.toArray⟩)) (first | exact hc | assumption | go_keep) ((
          first
          | (go_at_call 244; refine (wordF10 _ _).mono ?_; rintro e w5 ⟨rfl, M5⟩; have A5 := Lib.hid ((Mod.refl (fun _ => False) wr).drew.same M5); have hc5 := (A5.out.cell hl (fun q => q) j).trans hc; clear M5)))
        all_goals
          go_wp2_with fail
          go_roundw
          case rel => exact ⟨j + 1, by omega, by omega, by go_num, by rw [HJ.out, kAt_hit], L1.out.same A5.out⟩
          case measure => simp [intOf]; omega
      · have hq2 : (s == [116, 105, 99, 107]) = false := hq.trans (decide_eq_false hjk)
        have HJ := Lib.hid hjk
        clear hjk hq
        go_wp2_with fail
        go_region_held3 (fun w' => w'.cell? ⟨g, j, none⟩ = some (.string ⟨s.toArray⟩)) (first | exact hc | assumption | go_keep) ((
          first
          | (go_at_call 244; refine (wordF10 _ _).mono ?_; rintro e w5 ⟨rfl, M5⟩; have A5 := Lib.hid ((Mod.refl (fun _ => False) wr).drew.same M5); have hc5 := (A5.out.cell hl (fun q => q) j).trans hc; clear M5)))
        all_goals
          go_wp2_with fail
          go_roundw
          case rel => exact ⟨j + 1, by omega, by omega, by go_num, by rw [kAt_miss _ _ HJ.out], L1.out.same A5.out⟩
          case measure => simp [intOf]; omega
    · obtain rfl : j = 16 := by omega
      rw [kAt_end 10 (by omega)]
      have K2 := Lib.hid (K1.out.same hM)
      have B2 := Lib.hid (B1.out.mod hM (fun q => q))
      clear hM KB B1 K1
      go_wp2_with fail
      refine (HN.out _).mono ?_
      rintro e w3 ⟨a1, c1, rfl, h1, M3⟩
      have R1 := Lib.hid h1
      have K3 := Lib.hid (K2.out.same M3)
      have B3 := Lib.hid (B2.out.mod M3 (fun q => q))
      have hZr : Z < wr.heap.size := B2.out.lt
      clear h1 M3 K2 B2
      go_wp2_with fail
      refine (HDt.out _).mono ?_
      rintro e w4 ⟨a2, c2, rfl, h2, M4⟩
      have R2 := Lib.hid h2
      have R1b := Lib.hid (R1.out.after M4 (fun _ _ q => q))
      have K4 := Lib.hid (K3.out.same M4)
      have B4 := Lib.hid (B3.out.mod M4 (fun q => q))
      have hZ3 : Z < w3.heap.size := B3.out.lt
      clear h2 M4 K3 B3 R1
      have hc := B4.out.cell
      have hf := B4.out.free
      have hlt4 := B4.out.lt
      go_wp2
      have M5 := fun (v0 v1 v2 : Value) => (((Mod.refl (fun i => i = Z) w4).setCell (p := ⟨Z, 0, none⟩) (fun _ => rfl) v0).setCell (p := ⟨Z, 1, none⟩) (fun _ => rfl) v1).setCell (p := ⟨Z, 2, none⟩) (fun _ => rfl) v2
      have BF := ((B4.out.set 0 (.int .i64 11)).set 1 (.slice a1 nn c1)).set 2 (.slice a2 tn c2)
      have g0 := BF.at_ (i := 0) (.int .i64 11) rfl
      have g1 := BF.at_ (i := 1) (.slice a1 nn c1) rfl
      have g2 := BF.at_ (i := 2) (.slice a2 tn c2) rfl
      have N5 := M5 (.int .i64 11) (.slice a1 nn c1) (.slice a2 tn c2)
      clear hc hf BF M5
      generalize ((w4.setCell ⟨Z, 0, none⟩ (.int .i64 11)).setCell ⟨Z, 1, none⟩ (.slice a1 nn c1)).setCell ⟨Z, 2, none⟩ (.slice a2 tn c2) = w5 at *
      exact bodyPost_ret (v := .agg #[.int .i64 11, .slice a1 nn c1, .slice a2 tn c2]) (by simp [results, Tryz.results17, go_sem, g0, g1, g2]) rfl (HR.out _ _ ⟨a1, c1, a2, c2, rfl, (R1b.out.after N5 (fun b hb e => by have : b = Z := e; omega)).base (by omega), (R2.out.after N5 (fun b hb e => by have : b = Z := e; omega)).base (by omega), K4.out.then_ N5 (fun i hi e => by omega)⟩)

set_option maxRecDepth 10000 in
set_option maxHeartbeats 4000000 in
theorem formK11 (cs : Array Value) (ns ts : List Value) (hp : ∀ wz, Calls Tryz.prog 73 #[.iface 189 (.agg cs)] wz (PartsV wz ns ts)) (w : World) : Calls Tryz.prog 17 #[.iface 189 (.agg cs)] w (FormV 11 ns ts w) := by
  refine opq fun R HR => ?_
  have HN := Lib.hid (fun w => numbers_of _ ns ts w hp)
  have HDt := Lib.hid (fun w => data_of _ ns ts w hp)
  unfold FormV at HR
  clear hp
  generalize hnn : ns.length = nn at *
  generalize htn : ts.length = tn at *
  clear hnn htn
  go_enter Tryz.func17, Tryz.ntmps17
  go_wp2_with fail
  have S0 := Lib.hid ((Mod.refl (fun _ => False) w).alloc (.cells #[.int .i64 0, .slice none 0 0, .slice none 0 0] 64))
  have B0 := Lib.hid (Blk.new w #[.int .i64 0, .slice none 0 0, .slice none 0 0] 64)
  generalize w.alloc _ = W at *
  generalize hZ : w.heap.size = Z at *
  refine (words16_any _).mono ?_
  rintro e w1 ⟨g, rfl, hB, M1⟩
  have K1 := Lib.hid (S0.out.same M1)
  have B1 := Lib.hid (B0.out.mod M1 (fun q => q))
  have KB := Lib.hid hB
  clear hB M1 S0 B0
  go_wp2_with fail
  go_loopw [5, 3] (fun i kk wr => ∃ j : Nat, 1 ≤ j ∧ j ≤ 16 ∧ i = .int .i64 (j : Int) ∧ kk = .int .i64 (kAt 11 j) ∧ Same w1 wr) (fun i _ _ => 16 - (intOf i).toNat)
  case atStart => exact ⟨1, by omega, by omega, rfl, rfl, Mod.refl _ _⟩
  case round =>
    obtain ⟨j, hj1, hj2, rfl, rfl, hM⟩ := hrel
    by_cases hlt : j < 16
    · obtain ⟨s, hs, hq⟩ := words16_at 11 j (by omega) hlt
      have hc : wr.cell? ⟨g, j, none⟩ = some (.string ⟨s.toArray⟩) := by
        refine (hM.cell KB.out.lt (fun q => q) j).trans ((KB.out.cell j).trans ?_)
        rw [List.getElem?_toArray, List.getElem?_map, hs]; rfl
      have hl : g < wr.heap.size := Nat.lt_of_lt_of_le KB.out.lt hM.size
      have L1 := Lib.hid hM
      clear hM hs
      by_cases hjk : j = 11 + 1
      · have hq2 : (s == [100, 101, 99, 97, 121]) = true := hq.trans (decide_eq_true hjk)
        have HJ := Lib.hid hjk
        clear hjk hq
        go_wp2_with fail
        go_region_held3 (fun w' => w'.cell? ⟨g, j, none⟩ = some (.string ⟨s.toArray⟩)) (first | exact hc | assumption | go_keep) ((
          first
          | (go_at_call 245; refine (wordF11 _ _).mono ?_; rintro e w5 ⟨rfl, M5⟩; have A5 := Lib.hid ((Mod.refl (fun _ => False) wr).drew.same M5); have hc5 := (A5.out.cell hl (fun q => q) j).trans hc; clear M5)))
        all_goals
          go_wp2_with fail
          go_roundw
          case rel => exact ⟨j + 1, by omega, by omega, by go_num, by rw [HJ.out, kAt_hit], L1.out.same A5.out⟩
          case measure => simp [intOf]; omega
      · have hq2 : (s == [100, 101, 99, 97, 121]) = false := hq.trans (decide_eq_false hjk)
        have HJ := Lib.hid hjk
        clear hjk hq
        go_wp2_with fail
        go_region_held3 (fun w' => w'.cell? ⟨g, j, none⟩ = some (.string ⟨s.toArray⟩)) (first | exact hc | assumption | go_keep) ((
          first
          | (go_at_call 245; refine (wordF11 _ _).mono ?_; rintro e w5 ⟨rfl, M5⟩; have A5 := Lib.hid ((Mod.refl (fun _ => False) wr).drew.same M5); have hc5 := (A5.out.cell hl (fun q => q) j).trans hc; clear M5)))
        all_goals
          go_wp2_with fail
          go_roundw
          case rel => exact ⟨j + 1, by omega, by omega, by go_num, by rw [kAt_miss _ _ HJ.out], L1.out.same A5.out⟩
          case measure => simp [intOf]; omega
    · obtain rfl : j = 16 := by omega
      rw [kAt_end 11 (by omega)]
      have K2 := Lib.hid (K1.out.same hM)
      have B2 := Lib.hid (B1.out.mod hM (fun q => q))
      clear hM KB B1 K1
      go_wp2_with fail
      refine (HN.out _).mono ?_
      rintro e w3 ⟨a1, c1, rfl, h1, M3⟩
      have R1 := Lib.hid h1
      have K3 := Lib.hid (K2.out.same M3)
      have B3 := Lib.hid (B2.out.mod M3 (fun q => q))
      have hZr : Z < wr.heap.size := B2.out.lt
      clear h1 M3 K2 B2
      go_wp2_with fail
      refine (HDt.out _).mono ?_
      rintro e w4 ⟨a2, c2, rfl, h2, M4⟩
      have R2 := Lib.hid h2
      have R1b := Lib.hid (R1.out.after M4 (fun _ _ q => q))
      have K4 := Lib.hid (K3.out.same M4)
      have B4 := Lib.hid (B3.out.mod M4 (fun q => q))
      have hZ3 : Z < w3.heap.size := B3.out.lt
      clear h2 M4 K3 B3 R1
      have hc := B4.out.cell
      have hf := B4.out.free
      have hlt4 := B4.out.lt
      go_wp2
      have M5 := fun (v0 v1 v2 : Value) => (((Mod.refl (fun i => i = Z) w4).setCell (p := ⟨Z, 0, none⟩) (fun _ => rfl) v0).setCell (p := ⟨Z, 1, none⟩) (fun _ => rfl) v1).setCell (p := ⟨Z, 2, none⟩) (fun _ => rfl) v2
      have BF := ((B4.out.set 0 (.int .i64 12)).set 1 (.slice a1 nn c1)).set 2 (.slice a2 tn c2)
      have g0 := BF.at_ (i := 0) (.int .i64 12) rfl
      have g1 := BF.at_ (i := 1) (.slice a1 nn c1) rfl
      have g2 := BF.at_ (i := 2) (.slice a2 tn c2) rfl
      have N5 := M5 (.int .i64 12) (.slice a1 nn c1) (.slice a2 tn c2)
      clear hc hf BF M5
      generalize ((w4.setCell ⟨Z, 0, none⟩ (.int .i64 12)).setCell ⟨Z, 1, none⟩ (.slice a1 nn c1)).setCell ⟨Z, 2, none⟩ (.slice a2 tn c2) = w5 at *
      exact bodyPost_ret (v := .agg #[.int .i64 12, .slice a1 nn c1, .slice a2 tn c2]) (by simp [results, Tryz.results17, go_sem, g0, g1, g2]) rfl (HR.out _ _ ⟨a1, c1, a2, c2, rfl, (R1b.out.after N5 (fun b hb e => by have : b = Z := e; omega)).base (by omega), (R2.out.after N5 (fun b hb e => by have : b = Z := e; omega)).base (by omega), K4.out.then_ N5 (fun i hi e => by omega)⟩)

set_option maxRecDepth 10000 in
set_option maxHeartbeats 4000000 in
theorem formK12 (cs : Array Value) (ns ts : List Value) (hp : ∀ wz, Calls Tryz.prog 73 #[.iface 117 (.agg cs)] wz (PartsV wz ns ts)) (w : World) : Calls Tryz.prog 17 #[.iface 117 (.agg cs)] w (FormV 12 ns ts w) := by
  refine opq fun R HR => ?_
  have HN := Lib.hid (fun w => numbers_of _ ns ts w hp)
  have HDt := Lib.hid (fun w => data_of _ ns ts w hp)
  unfold FormV at HR
  clear hp
  generalize hnn : ns.length = nn at *
  generalize htn : ts.length = tn at *
  clear hnn htn
  go_enter Tryz.func17, Tryz.ntmps17
  go_wp2_with fail
  have S0 := Lib.hid ((Mod.refl (fun _ => False) w).alloc (.cells #[.int .i64 0, .slice none 0 0, .slice none 0 0] 64))
  have B0 := Lib.hid (Blk.new w #[.int .i64 0, .slice none 0 0, .slice none 0 0] 64)
  generalize w.alloc _ = W at *
  generalize hZ : w.heap.size = Z at *
  refine (words16_any _).mono ?_
  rintro e w1 ⟨g, rfl, hB, M1⟩
  have K1 := Lib.hid (S0.out.same M1)
  have B1 := Lib.hid (B0.out.mod M1 (fun q => q))
  have KB := Lib.hid hB
  clear hB M1 S0 B0
  go_wp2_with fail
  go_loopw [5, 3] (fun i kk wr => ∃ j : Nat, 1 ≤ j ∧ j ≤ 16 ∧ i = .int .i64 (j : Int) ∧ kk = .int .i64 (kAt 12 j) ∧ Same w1 wr) (fun i _ _ => 16 - (intOf i).toNat)
  case atStart => exact ⟨1, by omega, by omega, rfl, rfl, Mod.refl _ _⟩
  case round =>
    obtain ⟨j, hj1, hj2, rfl, rfl, hM⟩ := hrel
    by_cases hlt : j < 16
    · obtain ⟨s, hs, hq⟩ := words16_at 12 j (by omega) hlt
      have hc : wr.cell? ⟨g, j, none⟩ = some (.string ⟨s.toArray⟩) := by
        refine (hM.cell KB.out.lt (fun q => q) j).trans ((KB.out.cell j).trans ?_)
        rw [List.getElem?_toArray, List.getElem?_map, hs]; rfl
      have hl : g < wr.heap.size := Nat.lt_of_lt_of_le KB.out.lt hM.size
      have L1 := Lib.hid hM
      clear hM hs
      by_cases hjk : j = 12 + 1
      · have hq2 : (s == [115, 116, 97, 116, 117, 115]) = true := hq.trans (decide_eq_true hjk)
        have HJ := Lib.hid hjk
        clear hjk hq
        go_wp2_with fail
        go_region_held3 (fun w' => w'.cell? ⟨g, j, none⟩ = some (.string ⟨s.toArray⟩)) (first | exact hc | assumption | go_keep) ((
          first
          | (go_at_call 240; refine (wordF12 _ _).mono ?_; rintro e w5 ⟨rfl, M5⟩; have A5 := Lib.hid ((Mod.refl (fun _ => False) wr).drew.same M5); have hc5 := (A5.out.cell hl (fun q => q) j).trans hc; clear M5)))
        all_goals
          go_wp2_with fail
          go_roundw
          case rel => exact ⟨j + 1, by omega, by omega, by go_num, by rw [HJ.out, kAt_hit], L1.out.same A5.out⟩
          case measure => simp [intOf]; omega
      · have hq2 : (s == [115, 116, 97, 116, 117, 115]) = false := hq.trans (decide_eq_false hjk)
        have HJ := Lib.hid hjk
        clear hjk hq
        go_wp2_with fail
        go_region_held3 (fun w' => w'.cell? ⟨g, j, none⟩ = some (.string ⟨s.toArray⟩)) (first | exact hc | assumption | go_keep) ((
          first
          | (go_at_call 240; refine (wordF12 _ _).mono ?_; rintro e w5 ⟨rfl, M5⟩; have A5 := Lib.hid ((Mod.refl (fun _ => False) wr).drew.same M5); have hc5 := (A5.out.cell hl (fun q => q) j).trans hc; clear M5)))
        all_goals
          go_wp2_with fail
          go_roundw
          case rel => exact ⟨j + 1, by omega, by omega, by go_num, by rw [kAt_miss _ _ HJ.out], L1.out.same A5.out⟩
          case measure => simp [intOf]; omega
    · obtain rfl : j = 16 := by omega
      rw [kAt_end 12 (by omega)]
      have K2 := Lib.hid (K1.out.same hM)
      have B2 := Lib.hid (B1.out.mod hM (fun q => q))
      clear hM KB B1 K1
      go_wp2_with fail
      refine (HN.out _).mono ?_
      rintro e w3 ⟨a1, c1, rfl, h1, M3⟩
      have R1 := Lib.hid h1
      have K3 := Lib.hid (K2.out.same M3)
      have B3 := Lib.hid (B2.out.mod M3 (fun q => q))
      have hZr : Z < wr.heap.size := B2.out.lt
      clear h1 M3 K2 B2
      go_wp2_with fail
      refine (HDt.out _).mono ?_
      rintro e w4 ⟨a2, c2, rfl, h2, M4⟩
      have R2 := Lib.hid h2
      have R1b := Lib.hid (R1.out.after M4 (fun _ _ q => q))
      have K4 := Lib.hid (K3.out.same M4)
      have B4 := Lib.hid (B3.out.mod M4 (fun q => q))
      have hZ3 : Z < w3.heap.size := B3.out.lt
      clear h2 M4 K3 B3 R1
      have hc := B4.out.cell
      have hf := B4.out.free
      have hlt4 := B4.out.lt
      go_wp2
      have M5 := fun (v0 v1 v2 : Value) => (((Mod.refl (fun i => i = Z) w4).setCell (p := ⟨Z, 0, none⟩) (fun _ => rfl) v0).setCell (p := ⟨Z, 1, none⟩) (fun _ => rfl) v1).setCell (p := ⟨Z, 2, none⟩) (fun _ => rfl) v2
      have BF := ((B4.out.set 0 (.int .i64 13)).set 1 (.slice a1 nn c1)).set 2 (.slice a2 tn c2)
      have g0 := BF.at_ (i := 0) (.int .i64 13) rfl
      have g1 := BF.at_ (i := 1) (.slice a1 nn c1) rfl
      have g2 := BF.at_ (i := 2) (.slice a2 tn c2) rfl
      have N5 := M5 (.int .i64 13) (.slice a1 nn c1) (.slice a2 tn c2)
      clear hc hf BF M5
      generalize ((w4.setCell ⟨Z, 0, none⟩ (.int .i64 13)).setCell ⟨Z, 1, none⟩ (.slice a1 nn c1)).setCell ⟨Z, 2, none⟩ (.slice a2 tn c2) = w5 at *
      exact bodyPost_ret (v := .agg #[.int .i64 13, .slice a1 nn c1, .slice a2 tn c2]) (by simp [results, Tryz.results17, go_sem, g0, g1, g2]) rfl (HR.out _ _ ⟨a1, c1, a2, c2, rfl, (R1b.out.after N5 (fun b hb e => by have : b = Z := e; omega)).base (by omega), (R2.out.after N5 (fun b hb e => by have : b = Z := e; omega)).base (by omega), K4.out.then_ N5 (fun i hi e => by omega)⟩)

set_option maxRecDepth 10000 in
set_option maxHeartbeats 4000000 in
theorem formK13 (cs : Array Value) (ns ts : List Value) (hp : ∀ wz, Calls Tryz.prog 73 #[.iface 191 (.agg cs)] wz (PartsV wz ns ts)) (w : World) : Calls Tryz.prog 17 #[.iface 191 (.agg cs)] w (FormV 13 ns ts w) := by
  refine opq fun R HR => ?_
  have HN := Lib.hid (fun w => numbers_of _ ns ts w hp)
  have HDt := Lib.hid (fun w => data_of _ ns ts w hp)
  unfold FormV at HR
  clear hp
  generalize hnn : ns.length = nn at *
  generalize htn : ts.length = tn at *
  clear hnn htn
  go_enter Tryz.func17, Tryz.ntmps17
  go_wp2_with fail
  have S0 := Lib.hid ((Mod.refl (fun _ => False) w).alloc (.cells #[.int .i64 0, .slice none 0 0, .slice none 0 0] 64))
  have B0 := Lib.hid (Blk.new w #[.int .i64 0, .slice none 0 0, .slice none 0 0] 64)
  generalize w.alloc _ = W at *
  generalize hZ : w.heap.size = Z at *
  refine (words16_any _).mono ?_
  rintro e w1 ⟨g, rfl, hB, M1⟩
  have K1 := Lib.hid (S0.out.same M1)
  have B1 := Lib.hid (B0.out.mod M1 (fun q => q))
  have KB := Lib.hid hB
  clear hB M1 S0 B0
  go_wp2_with fail
  go_loopw [5, 3] (fun i kk wr => ∃ j : Nat, 1 ≤ j ∧ j ≤ 16 ∧ i = .int .i64 (j : Int) ∧ kk = .int .i64 (kAt 13 j) ∧ Same w1 wr) (fun i _ _ => 16 - (intOf i).toNat)
  case atStart => exact ⟨1, by omega, by omega, rfl, rfl, Mod.refl _ _⟩
  case round =>
    obtain ⟨j, hj1, hj2, rfl, rfl, hM⟩ := hrel
    by_cases hlt : j < 16
    · obtain ⟨s, hs, hq⟩ := words16_at 13 j (by omega) hlt
      have hc : wr.cell? ⟨g, j, none⟩ = some (.string ⟨s.toArray⟩) := by
        refine (hM.cell KB.out.lt (fun q => q) j).trans ((KB.out.cell j).trans ?_)
        rw [List.getElem?_toArray, List.getElem?_map, hs]; rfl
      have hl : g < wr.heap.size := Nat.lt_of_lt_of_le KB.out.lt hM.size
      have L1 := Lib.hid hM
      clear hM hs
      by_cases hjk : j = 13 + 1
      · have hq2 : (s == [102, 117, 115, 101]) = true := hq.trans (decide_eq_true hjk)
        have HJ := Lib.hid hjk
        clear hjk hq
        go_wp2_with fail
        go_region_held3 (fun w' => w'.cell? ⟨g, j, none⟩ = some (.string ⟨s.toArray⟩)) (first | exact hc | assumption | go_keep) ((
          first
          | (go_at_call 246; refine (wordF13 _ _).mono ?_; rintro e w5 ⟨rfl, M5⟩; have A5 := Lib.hid ((Mod.refl (fun _ => False) wr).drew.same M5); have hc5 := (A5.out.cell hl (fun q => q) j).trans hc; clear M5)))
        all_goals
          go_wp2_with fail
          go_roundw
          case rel => exact ⟨j + 1, by omega, by omega, by go_num, by rw [HJ.out, kAt_hit], L1.out.same A5.out⟩
          case measure => simp [intOf]; omega
      · have hq2 : (s == [102, 117, 115, 101]) = false := hq.trans (decide_eq_false hjk)
        have HJ := Lib.hid hjk
        clear hjk hq
        go_wp2_with fail
        go_region_held3 (fun w' => w'.cell? ⟨g, j, none⟩ = some (.string ⟨s.toArray⟩)) (first | exact hc | assumption | go_keep) ((
          first
          | (go_at_call 246; refine (wordF13 _ _).mono ?_; rintro e w5 ⟨rfl, M5⟩; have A5 := Lib.hid ((Mod.refl (fun _ => False) wr).drew.same M5); have hc5 := (A5.out.cell hl (fun q => q) j).trans hc; clear M5)))
        all_goals
          go_wp2_with fail
          go_roundw
          case rel => exact ⟨j + 1, by omega, by omega, by go_num, by rw [kAt_miss _ _ HJ.out], L1.out.same A5.out⟩
          case measure => simp [intOf]; omega
    · obtain rfl : j = 16 := by omega
      rw [kAt_end 13 (by omega)]
      have K2 := Lib.hid (K1.out.same hM)
      have B2 := Lib.hid (B1.out.mod hM (fun q => q))
      clear hM KB B1 K1
      go_wp2_with fail
      refine (HN.out _).mono ?_
      rintro e w3 ⟨a1, c1, rfl, h1, M3⟩
      have R1 := Lib.hid h1
      have K3 := Lib.hid (K2.out.same M3)
      have B3 := Lib.hid (B2.out.mod M3 (fun q => q))
      have hZr : Z < wr.heap.size := B2.out.lt
      clear h1 M3 K2 B2
      go_wp2_with fail
      refine (HDt.out _).mono ?_
      rintro e w4 ⟨a2, c2, rfl, h2, M4⟩
      have R2 := Lib.hid h2
      have R1b := Lib.hid (R1.out.after M4 (fun _ _ q => q))
      have K4 := Lib.hid (K3.out.same M4)
      have B4 := Lib.hid (B3.out.mod M4 (fun q => q))
      have hZ3 : Z < w3.heap.size := B3.out.lt
      clear h2 M4 K3 B3 R1
      have hc := B4.out.cell
      have hf := B4.out.free
      have hlt4 := B4.out.lt
      go_wp2
      have M5 := fun (v0 v1 v2 : Value) => (((Mod.refl (fun i => i = Z) w4).setCell (p := ⟨Z, 0, none⟩) (fun _ => rfl) v0).setCell (p := ⟨Z, 1, none⟩) (fun _ => rfl) v1).setCell (p := ⟨Z, 2, none⟩) (fun _ => rfl) v2
      have BF := ((B4.out.set 0 (.int .i64 14)).set 1 (.slice a1 nn c1)).set 2 (.slice a2 tn c2)
      have g0 := BF.at_ (i := 0) (.int .i64 14) rfl
      have g1 := BF.at_ (i := 1) (.slice a1 nn c1) rfl
      have g2 := BF.at_ (i := 2) (.slice a2 tn c2) rfl
      have N5 := M5 (.int .i64 14) (.slice a1 nn c1) (.slice a2 tn c2)
      clear hc hf BF M5
      generalize ((w4.setCell ⟨Z, 0, none⟩ (.int .i64 14)).setCell ⟨Z, 1, none⟩ (.slice a1 nn c1)).setCell ⟨Z, 2, none⟩ (.slice a2 tn c2) = w5 at *
      exact bodyPost_ret (v := .agg #[.int .i64 14, .slice a1 nn c1, .slice a2 tn c2]) (by simp [results, Tryz.results17, go_sem, g0, g1, g2]) rfl (HR.out _ _ ⟨a1, c1, a2, c2, rfl, (R1b.out.after N5 (fun b hb e => by have : b = Z := e; omega)).base (by omega), (R2.out.after N5 (fun b hb e => by have : b = Z := e; omega)).base (by omega), K4.out.then_ N5 (fun i hi e => by omega)⟩)

set_option maxRecDepth 10000 in
set_option maxHeartbeats 4000000 in
theorem formK14 (cs : Array Value) (ns ts : List Value) (hp : ∀ wz, Calls Tryz.prog 73 #[.iface 45 (.agg cs)] wz (PartsV wz ns ts)) (w : World) : Calls Tryz.prog 17 #[.iface 45 (.agg cs)] w (FormV 14 ns ts w) := by
  refine opq fun R HR => ?_
  have HN := Lib.hid (fun w => numbers_of _ ns ts w hp)
  have HDt := Lib.hid (fun w => data_of _ ns ts w hp)
  unfold FormV at HR
  clear hp
  generalize hnn : ns.length = nn at *
  generalize htn : ts.length = tn at *
  clear hnn htn
  go_enter Tryz.func17, Tryz.ntmps17
  go_wp2_with fail
  have S0 := Lib.hid ((Mod.refl (fun _ => False) w).alloc (.cells #[.int .i64 0, .slice none 0 0, .slice none 0 0] 64))
  have B0 := Lib.hid (Blk.new w #[.int .i64 0, .slice none 0 0, .slice none 0 0] 64)
  generalize w.alloc _ = W at *
  generalize hZ : w.heap.size = Z at *
  refine (words16_any _).mono ?_
  rintro e w1 ⟨g, rfl, hB, M1⟩
  have K1 := Lib.hid (S0.out.same M1)
  have B1 := Lib.hid (B0.out.mod M1 (fun q => q))
  have KB := Lib.hid hB
  clear hB M1 S0 B0
  go_wp2_with fail
  go_loopw [5, 3] (fun i kk wr => ∃ j : Nat, 1 ≤ j ∧ j ≤ 16 ∧ i = .int .i64 (j : Int) ∧ kk = .int .i64 (kAt 14 j) ∧ Same w1 wr) (fun i _ _ => 16 - (intOf i).toNat)
  case atStart => exact ⟨1, by omega, by omega, rfl, rfl, Mod.refl _ _⟩
  case round =>
    obtain ⟨j, hj1, hj2, rfl, rfl, hM⟩ := hrel
    by_cases hlt : j < 16
    · obtain ⟨s, hs, hq⟩ := words16_at 14 j (by omega) hlt
      have hc : wr.cell? ⟨g, j, none⟩ = some (.string ⟨s.toArray⟩) := by
        refine (hM.cell KB.out.lt (fun q => q) j).trans ((KB.out.cell j).trans ?_)
        rw [List.getElem?_toArray, List.getElem?_map, hs]; rfl
      have hl : g < wr.heap.size := Nat.lt_of_lt_of_le KB.out.lt hM.size
      have L1 := Lib.hid hM
      clear hM hs
      by_cases hjk : j = 14 + 1
      · have hq2 : (s == [99, 114, 97, 115, 104]) = true := hq.trans (decide_eq_true hjk)
        have HJ := Lib.hid hjk
        clear hjk hq
        go_wp2_with fail
        go_region_held3 (fun w' => w'.cell? ⟨g, j, none⟩ = some (.string ⟨s.toArray⟩)) (first | exact hc | assumption | go_keep) ((
          first
          | (go_at_call 235; refine (wordF14 _ _).mono ?_; rintro e w5 ⟨rfl, M5⟩; have A5 := Lib.hid ((Mod.refl (fun _ => False) wr).drew.same M5); have hc5 := (A5.out.cell hl (fun q => q) j).trans hc; clear M5)))
        all_goals
          go_wp2_with fail
          go_roundw
          case rel => exact ⟨j + 1, by omega, by omega, by go_num, by rw [HJ.out, kAt_hit], L1.out.same A5.out⟩
          case measure => simp [intOf]; omega
      · have hq2 : (s == [99, 114, 97, 115, 104]) = false := hq.trans (decide_eq_false hjk)
        have HJ := Lib.hid hjk
        clear hjk hq
        go_wp2_with fail
        go_region_held3 (fun w' => w'.cell? ⟨g, j, none⟩ = some (.string ⟨s.toArray⟩)) (first | exact hc | assumption | go_keep) ((
          first
          | (go_at_call 235; refine (wordF14 _ _).mono ?_; rintro e w5 ⟨rfl, M5⟩; have A5 := Lib.hid ((Mod.refl (fun _ => False) wr).drew.same M5); have hc5 := (A5.out.cell hl (fun q => q) j).trans hc; clear M5)))
        all_goals
          go_wp2_with fail
          go_roundw
          case rel => exact ⟨j + 1, by omega, by omega, by go_num, by rw [kAt_miss _ _ HJ.out], L1.out.same A5.out⟩
          case measure => simp [intOf]; omega
    · obtain rfl : j = 16 := by omega
      rw [kAt_end 14 (by omega)]
      have K2 := Lib.hid (K1.out.same hM)
      have B2 := Lib.hid (B1.out.mod hM (fun q => q))
      clear hM KB B1 K1
      go_wp2_with fail
      refine (HN.out _).mono ?_
      rintro e w3 ⟨a1, c1, rfl, h1, M3⟩
      have R1 := Lib.hid h1
      have K3 := Lib.hid (K2.out.same M3)
      have B3 := Lib.hid (B2.out.mod M3 (fun q => q))
      have hZr : Z < wr.heap.size := B2.out.lt
      clear h1 M3 K2 B2
      go_wp2_with fail
      refine (HDt.out _).mono ?_
      rintro e w4 ⟨a2, c2, rfl, h2, M4⟩
      have R2 := Lib.hid h2
      have R1b := Lib.hid (R1.out.after M4 (fun _ _ q => q))
      have K4 := Lib.hid (K3.out.same M4)
      have B4 := Lib.hid (B3.out.mod M4 (fun q => q))
      have hZ3 : Z < w3.heap.size := B3.out.lt
      clear h2 M4 K3 B3 R1
      have hc := B4.out.cell
      have hf := B4.out.free
      have hlt4 := B4.out.lt
      go_wp2
      have M5 := fun (v0 v1 v2 : Value) => (((Mod.refl (fun i => i = Z) w4).setCell (p := ⟨Z, 0, none⟩) (fun _ => rfl) v0).setCell (p := ⟨Z, 1, none⟩) (fun _ => rfl) v1).setCell (p := ⟨Z, 2, none⟩) (fun _ => rfl) v2
      have BF := ((B4.out.set 0 (.int .i64 15)).set 1 (.slice a1 nn c1)).set 2 (.slice a2 tn c2)
      have g0 := BF.at_ (i := 0) (.int .i64 15) rfl
      have g1 := BF.at_ (i := 1) (.slice a1 nn c1) rfl
      have g2 := BF.at_ (i := 2) (.slice a2 tn c2) rfl
      have N5 := M5 (.int .i64 15) (.slice a1 nn c1) (.slice a2 tn c2)
      clear hc hf BF M5
      generalize ((w4.setCell ⟨Z, 0, none⟩ (.int .i64 15)).setCell ⟨Z, 1, none⟩ (.slice a1 nn c1)).setCell ⟨Z, 2, none⟩ (.slice a2 tn c2) = w5 at *
      exact bodyPost_ret (v := .agg #[.int .i64 15, .slice a1 nn c1, .slice a2 tn c2]) (by simp [results, Tryz.results17, go_sem, g0, g1, g2]) rfl (HR.out _ _ ⟨a1, c1, a2, c2, rfl, (R1b.out.after N5 (fun b hb e => by have : b = Z := e; omega)).base (by omega), (R2.out.after N5 (fun b hb e => by have : b = Z := e; omega)).base (by omega), K4.out.then_ N5 (fun i hi e => by omega)⟩)

theorem form_any (o : OW) (hf : o.form) (hfit : o.fits = true) (w : World) : Calls Tryz.prog 17 #[ordW o] w (FormV o.k (o.ns.map (Value.int .i64)) (o.ts.map strV) w) := by
  have hp := parts_all o hf
  rw [hfit] at hp
  have hp2 : ∀ wz, Calls Tryz.prog 73 #[ordW o] wz (PartsV wz (o.ns.map (Value.int .i64)) (o.ts.map strV)) := hp
  have hk := hf.lt
  unfold ordW at hp2 ⊢
  generalize o.ns.map (Value.int .i64) = ns at *
  generalize o.ts.map strV = ts at *
  generalize ordC o = cs at *
  generalize o.k = k at *
  rcases kinds15 hk with rfl | rfl | rfl | rfl | rfl | rfl | rfl | rfl | rfl | rfl | rfl | rfl | rfl | rfl | rfl
  · exact formK0 cs ns ts hp2 w
  · exact formK1 cs ns ts hp2 w
  · exact formK2 cs ns ts hp2 w
  · exact formK3 cs ns ts hp2 w
  · exact formK4 cs ns ts hp2 w
  · exact formK5 cs ns ts hp2 w
  · exact formK6 cs ns ts hp2 w
  · exact formK7 cs ns ts hp2 w
  · exact formK8 cs ns ts hp2 w
  · exact formK9 cs ns ts hp2 w
  · exact formK10 cs ns ts hp2 w
  · exact formK11 cs ns ts hp2 w
  · exact formK12 cs ns ts hp2 w
  · exact formK13 cs ns ts hp2 w
  · exact formK14 cs ns ts hp2 w
end Go.Proofs.YtlcepoagpocadaaGreatDoor
