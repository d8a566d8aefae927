import Derived.Test.YtlcepoagpocadaaGreatDoorOrdU
import Derived.Test.YtlcepoagpocadaaGreatDoorMfC
set_option linter.unusedSimpArgs false
set_option linter.unusedVariables false
set_option maxRecDepth 100000
/- The orders of lines. -/
namespace Go.Proofs.YtlcepoagpocadaaGreatDoor
open Go Go.RowKit
/-- A row in memory. -/
def RowAt (w : World) (a : Option Addr) (vs : List Value) : Prop := 0 < vs.length → ∃ b o, a = some ⟨b, o, none⟩ ∧ b < w.heap.size ∧ ∀ i v, vs[i]? = some v → w.cell? ⟨b, o + i, none⟩ = some v
theorem RowAt.same {w w' : World} {a : Option Addr} {vs : List Value} (h : RowAt w a vs) (M : Same w w') : RowAt w' a vs := by
  intro hp
  obtain ⟨b, o, ha, hl, hc⟩ := h hp
  exact ⟨b, o, ha, Nat.lt_of_lt_of_le hl M.size, fun i v hi => (M.cell hl (fun q => q) _).trans (hc i v hi)⟩
/-- A row in memory, in a block that is not older than B. -/
def RowFrom (B : Nat) (w : World) (a : Option Addr) (vs : List Value) : Prop := 0 < vs.length → ∃ b o, a = some ⟨b, o, none⟩ ∧ B ≤ b ∧ b < w.heap.size ∧ ∀ i v, vs[i]? = some v → w.cell? ⟨b, o + i, none⟩ = some v
theorem RowFrom.at_ {B : Nat} {w : World} {a : Option Addr} {vs : List Value} (h : RowFrom B w a vs) : RowAt w a vs := fun hp => by
  obtain ⟨b, o, ha, _, hl, hc⟩ := h hp
  exact ⟨b, o, ha, hl, hc⟩
theorem RowFrom.mod {S : Nat → Prop} {B : Nat} {w w' : World} {a : Option Addr} {vs : List Value} (h : RowFrom B w a vs) (M : Mod S w w') (hS : ∀ i, B ≤ i → i < w.heap.size → ¬ S i) : RowFrom B w' a vs := fun hp => by
  obtain ⟨b, o, ha, hB, hl, hc⟩ := h hp
  exact ⟨b, o, ha, hB, Nat.lt_of_lt_of_le hl M.size, fun i v hi => (M.cell hl (hS b hB hl) _).trans (hc i v hi)⟩
theorem info24 : (Tryz.prog.info? 27).map (fun i => (i.zero, i.size, i.bytes)) = some (some .nilIface, 1, 16) := by kernel_rfl
def pickO (l : List UInt8) : Option OW := if 2000 < l.length then none else parseL l
/-- The orders of lines. -/
def ordersL (ls : List (List UInt8)) : List OW := (ls.take 60).filterMap pickO
theorem pick_some (ls : List (List UInt8)) (j : Nat) (x : List UInt8) (hx : ls[j]? = some x) (o : OW) (h : pickO x = some o) : (ls.take (j + 1)).filterMap pickO = (ls.take j).filterMap pickO ++ [o] := by
  obtain ⟨hk, rfl⟩ := List.getElem?_eq_some_iff.1 hx
  rw [List.take_succ_eq_append_getElem hk, List.filterMap_append]
  simp [h]
theorem pick_none (ls : List (List UInt8)) (j : Nat) (x : List UInt8) (hx : ls[j]? = some x) (h : pickO x = none) : (ls.take (j + 1)).filterMap pickO = (ls.take j).filterMap pickO := by
  obtain ⟨hk, rfl⟩ := List.getElem?_eq_some_iff.1 hx
  rw [List.take_succ_eq_append_getElem hk, List.filterMap_append]
  simp [h]
theorem orders_len (ls : List (List UInt8)) : (ordersL ls).length ≤ 60 := by
  unfold ordersL
  have := List.length_filterMap_le pickO (ls.take 60)
  rw [List.length_take] at this; omega
theorem orders_form (ls : List (List UInt8)) : ∀ o ∈ ordersL ls, o.form ∧ o.fits = true := by
  intro o ho
  unfold ordersL at ho
  obtain ⟨l, _, hl⟩ := List.mem_filterMap.1 ho
  unfold pickO at hl
  split at hl
  · cases hl
  · exact parse_form hl
theorem ordW_if (o : OW) : ∃ T v, ordW o = .iface T v := ⟨_, _, rfl⟩
theorem ordV_snoc (xs : List OW) (x : OW) : (xs ++ [x]).map ordW = xs.map ordW ++ [ordW x] := by rw [List.map_append]; rfl
theorem owns_rowAt24 {w : World} {B n : Nat} {a : Option Addr} {c : Nat} {xs : List Value} (h : w.ownsRow B 27 1 (.slice a n c) n xs) : RowFrom B w a xs := by
  intro hp
  have hn : 0 < n := by have := h.1; omega
  obtain ⟨g, cap, hv, hb, hc, hrow⟩ := RowV.of_owns h hn
  injection hv with ha _ _
  refine ⟨g, 0, ha, hb, hrow.lt, fun i v hi => ?_⟩
  have hl : i < xs.length := (List.getElem?_eq_some_iff.1 hi).1
  rw [Nat.zero_add]
  refine (hrow.cell i (by have := h.1; omega)).trans ?_
  rw [List.getD_eq_getElem?_getD, hi]; rfl
set_option maxRecDepth 10000 in
set_option maxHeartbeats 4000000 in
theorem orders_any (ls : List (List UInt8)) (a : Option Addr) (n c : Nat) (hn : ls.length = n) (w : World) (hL : LibOK w) (hr : RowAt w a (ls.map strV)) :
    Calls Tryz.prog 16 #[.slice a n c] w fun e w' => ∃ a' c', e = .returned (.slice a' (ordersL ls).length c') ∧ RowFrom w.heap.size w' a' ((ordersL ls).map ordW) ∧ Same w w' := by
  refine opq fun R HR => ?_
  have HL := Lib.hid hL
  have HRw := Lib.hid hr
  have HN := Lib.hid hn
  clear hL hr hn
  obtain ⟨i0, hi, hz0, hz1, hz2⟩ := info_parts info24
  have I0 := Lib.hid hi
  have Z0 := Lib.hid hz0
  have Z1 := Lib.hid hz1
  have Z2 := Lib.hid hz2
  clear hi hz0 hz1 hz2
  go_enter Tryz.func16, Tryz.ntmps16
  go_wp2_with fail
  go_loopw [3, 4, 5, 6] (fun v i _ _ wr => ∃ (j m : Nat), j ≤ n ∧ j ≤ 60 ∧ i = .int .i64 j ∧ m ≤ j ∧ wr.ownsRow w.heap.size 27 1 v m (((ls.take j).filterMap pickO).map ordW) ∧ Same w wr) (fun _ i _ _ _ => n - (intOf i).toNat)
  case atStart => exact ⟨0, 0, by omega, by omega, rfl, by omega, ⟨rfl, .inr ⟨_, 0, #[], rfl, Nat.le_refl _, heap_new _ _, Nat.le_refl _, by unfold maxLen; omega, rfl, rfl⟩⟩, (Mod.refl _ _).alloc _⟩
  case round =>
    obtain ⟨j, m, hj, hj30, rfl, hmj, hown, hM⟩ := hrel
    have K1 := Lib.hid hown
    have K2 := Lib.hid hM
    have hsz := hM.size
    clear hown hM
    by_cases hlt : j < n
    · by_cases h30 : j < 60
      · obtain ⟨x, hx⟩ : ∃ x, ls[j]? = some x := ⟨_, List.getElem?_eq_getElem (by rw [HN.out]; exact hlt)⟩
        obtain ⟨b, o0, rfl, hb, hcc⟩ := HRw.out (by rw [List.length_map, HN.out]; omega)
        have hcx := (K2.out.cell hb (fun q => q) (o0 + j)).trans (hcc j (strV x) (by rw [List.getElem?_map, hx]; rfl))
        unfold strV at hcx
        have hbs := bytes_size x
        have hbr : b < wr.heap.size := by omega
        have HX := Lib.hid hx
        clear hx hcc
        by_cases h3 : 2000 < x.length
        · have hq : decide ((2000 : Int) < (x.length : Int)) = true := decide_eq_true (by omega)
          have E := Lib.hid (pick_none ls j x HX.out (by unfold pickO; rw [if_pos h3]))
          clear h3
          go_wp2_with fail
          go_roundw
          case rel => exact ⟨j + 1, m, by omega, by omega, by go_num, by omega, by rw [E.out]; exact K1.out, K2.out⟩
          case measure => simp [intOf]; omega
        · have hq : decide ((2000 : Int) < (x.length : Int)) = false := decide_eq_false (by omega)
          have HP := Lib.hid (parse_any x (by omega) wr (HL.out.same K2.out))
          cases hp : parseL x with
          | none =>
            have E := Lib.hid (pick_none ls j x HX.out (by unfold pickO; rw [if_neg h3]; exact hp))
            rw [hp] at HP
            unfold ansP at HP
            dsimp only at HP
            clear h3 hp
            go_wp2_with fail
            refine HP.out.mono ?_
            rintro e w1 ⟨rfl, M1⟩
            have P1 := Lib.hid (owns_same K1.out M1)
            have P2 := Lib.hid (K2.out.same M1)
            clear M1 HP K1 K2 hcx
            go_wp2_with fail
            go_roundw
            case rel => exact ⟨j + 1, m, by omega, by omega, by go_num, by omega, by rw [E.out]; exact P1.out, P2.out⟩
            case measure => simp [intOf]; omega
          | some q =>
            have E := Lib.hid (pick_some ls j x HX.out q (by unfold pickO; rw [if_neg h3]; exact hp))
            rw [hp] at HP
            unfold ansP at HP
            dsimp only at HP
            have EV := Lib.hid (ordV_snoc ((ls.take j).filterMap pickO) q)
            obtain ⟨T, v, hv⟩ := ordW_if q
            rw [hv] at HP EV
            clear h3 hp hv
            go_wp2_with fail
            refine HP.out.mono ?_
            rintro e w1 ⟨rfl, M1⟩
            have P1 := Lib.hid (owns_same K1.out M1)
            have P2 := Lib.hid (K2.out.same M1)
            have hsz1 : w.heap.size ≤ w1.heap.size := P2.out.size
            clear M1 HP K1 K2 hcx
            go_wp2_with (at_builtin; refine wpList_append_own _ rfl (.tmp 34) (.tmp 36) 60 rfl w.heap.size 27 i0 .nilIface 1 16 Tryz.underlying60 I0.out Z0.out Z1.out Z2.out rfl (by decide) _ _ _ rfl (P1.out.alloc _) ⟨w1.heap.size, 0, none⟩ 1 1 [.iface T v] rfl rfl (one_new _ _ _) (fun u hu => (by simp at hu; subst hu; rfl)) (by unfold maxLen; omega) (by omega) (by simp only [World.size_alloc]; omega) ?_; intro v' w3 hown' hgrow _)
            have Q1 := Lib.hid (same_append P2.out P1.out hgrow)
            have Q2 := Lib.hid hown'
            clear hown' hgrow P1 P2
            go_roundw
            case rel => exact ⟨j + 1, m + 1, by omega, by omega, by go_num, by omega, by rw [E.out, EV.out]; exact Q2.out, Q1.out⟩
            case measure => simp [intOf]; omega
      · obtain rfl : j = 60 := by omega
        obtain ⟨va, vc, rfl⟩ := owns_slice K1.out
        have hl := K1.out.1
        rw [List.length_map, Nat.mul_one] at hl
        have HL2 := Lib.hid (show (ordersL ls).length = m from hl)
        rw [HL2.out] at HR
        clear hl
        go_wp2
        exact HR.out _ _ ⟨va, vc, rfl, owns_rowAt24 K1.out, K2.out⟩
    · obtain rfl : j = n := by omega
      have e1 : ls.take j = ls.take 60 := by rw [List.take_of_length_le (by have := HN.out; omega), List.take_of_length_le (by have := HN.out; omega)]
      rw [e1] at K1
      obtain ⟨va, vc, rfl⟩ := owns_slice K1.out
      have hl := K1.out.1
      rw [List.length_map, Nat.mul_one] at hl
      have HL2 := Lib.hid (show (ordersL ls).length = m from hl)
      rw [HL2.out] at HR
      clear hl e1
      go_wp2
      exact HR.out _ _ ⟨va, vc, rfl, owns_rowAt24 K1.out, K2.out⟩
end Go.Proofs.YtlcepoagpocadaaGreatDoor
