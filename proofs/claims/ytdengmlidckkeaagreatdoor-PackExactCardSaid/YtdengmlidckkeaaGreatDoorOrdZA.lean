import Derived.Test.YtdengmlidckkeaaGreatDoorOrdY
import Derived.Deep.RegionHeld3
import Derived.Deep.QuietTactic
import Derived.BigQuiet
set_option linter.unusedSimpArgs false
set_option linter.unusedVariables false
namespace Go.Proofs.YtdengmlidckkeaaGreatDoor
open Go Go.RowKit
/-- A row in memory. -/
def RowAt (w : World) (a : Option Addr) (vs : List Value) : Prop := 0 < vs.length → ∃ b o, a = some ⟨b, o, none⟩ ∧ b < w.heap.size ∧ ∀ i v, vs[i]? = some v → w.cell? ⟨b, o + i, none⟩ = some v
theorem RowNew.row {w w' : World} {a : Option Addr} {vs : List Value} (h : RowNew w w' a vs) : RowAt w' a vs := by
  intro hp
  obtain ⟨b, o, ha, _, hl, _, hc⟩ := h hp
  exact ⟨b, o, ha, hl, hc⟩
theorem RowAt.same {w w' : World} {a : Option Addr} {vs : List Value} (h : RowAt w a vs) (M : Same w w') : RowAt w' a vs := by
  intro hp
  obtain ⟨b, o, ha, hl, hc⟩ := h hp
  exact ⟨b, o, ha, Nat.lt_of_lt_of_le hl M.size, fun i v hi => (M.cell hl (fun q => q) _).trans (hc i v hi)⟩
theorem take_eq_succ {α : Type} [DecidableEq α] (a b : List α) (i : Nat) (x y : α) (hx : a[i]? = some x) (hy : b[i]? = some y) (h : a.take i = b.take i) : (x = y → a.take (i + 1) = b.take (i + 1)) ∧ (x ≠ y → a ≠ b) := by
  obtain ⟨h1, rfl⟩ := List.getElem?_eq_some_iff.1 hx
  obtain ⟨h2, rfl⟩ := List.getElem?_eq_some_iff.1 hy
  constructor
  · intro e; rw [List.take_succ_eq_append_getElem h1, List.take_succ_eq_append_getElem h2, h, e]
  · intro e q; subst q; exact e rfl
/-- Whether two told orders are the same. -/
def sameO (k1 k2 : Int) (n1 n2 : List Int) (t1 t2 : List (List UInt8)) : Bool := decide (k1 = k2) && decide (n1 = n2) && decide (t1 = t2)
set_option maxRecDepth 10000 in
set_option maxHeartbeats 4000000 in
theorem same_any (k1 k2 : Int) (n1 n2 : List Int) (t1 t2 : List (List UInt8)) (a1 a2 b1 b2 : Option Addr) (c1 c2 d1 d2 : Nat) (hln1 : n1.length ≤ 1000) (hln2 : n2.length ≤ 1000) (hlt1 : t1.length ≤ 1000) (hlt2 : t2.length ≤ 1000) (w : World)
    (hn1 : RowAt w a1 (n1.map (Value.int .i64))) (hn2 : RowAt w a2 (n2.map (Value.int .i64))) (ht1 : RowAt w b1 (t1.map strV)) (ht2 : RowAt w b2 (t2.map strV)) :
    Calls Tryz.prog 13 #[.agg #[.int .i64 k1, .slice a1 n1.length c1, .slice b1 t1.length d1], .agg #[.int .i64 k2, .slice a2 n2.length c2, .slice b2 t2.length d2]] w fun e w' => e = .returned (.bool (sameO k1 k2 n1 n2 t1 t2)) ∧ Same w w' := by
  refine opq fun R HR => ?_
  have N1 := Lib.hid hn1
  have N2 := Lib.hid hn2
  have T1 := Lib.hid ht1
  have T2 := Lib.hid ht2
  unfold sameO at HR
  clear hn1 hn2 ht1 ht2
  obtain ⟨p1, hp1⟩ : ∃ p, n1.length = p := ⟨_, rfl⟩
  obtain ⟨p2, hp2⟩ : ∃ p, n2.length = p := ⟨_, rfl⟩
  obtain ⟨q1, hq1⟩ : ∃ p, t1.length = p := ⟨_, rfl⟩
  obtain ⟨q2, hq2⟩ : ∃ p, t2.length = p := ⟨_, rfl⟩
  have P1 := Lib.hid hp1
  have P2 := Lib.hid hp2
  have Q1 := Lib.hid hq1
  have Q2 := Lib.hid hq2
  rw [hp1, hp2, hq1, hq2]
  rw [hp1] at hln1
  rw [hp2] at hln2
  rw [hq1] at hlt1
  rw [hq2] at hlt2
  clear hp1 hp2 hq1 hq2
  by_cases hk : k1 = k2
  · have d1' : (k1 != k2) = false := by rw [hk]; simp
    by_cases hpn : p1 = p2
    · have d2' : ((p1 : Int) != (p2 : Int)) = false := by rw [hpn]; simp
      by_cases hqn : q1 = q2
      · have d3' : ((q1 : Int) != (q2 : Int)) = false := by rw [hqn]; simp
        have HK := Lib.hid hk
        have HP := Lib.hid hpn
        have HQ := Lib.hid hqn
        clear hk hpn hqn
        go_enter Tryz.func13, Tryz.ntmps13
        go_wp2_with fail
        clear d1' d2' d3'
        have S0 := Lib.hid (((Mod.refl (fun _ => False) w).alloc (.cells #[.int .i64 k1, .slice a1 p1 c1, .slice b1 q1 d1] 32)).alloc (.cells #[.int .i64 k2, .slice a2 p2 c2, .slice b2 q2 d2] 32))
        have B1 := Lib.hid ((Blk.new w #[.int .i64 k1, .slice a1 p1 c1, .slice b1 q1 d1] 32).alloc (.cells #[.int .i64 k2, .slice a2 p2 c2, .slice b2 q2 d2] 32))
        have B2 := Blk.new (w.alloc (.cells #[.int .i64 k1, .slice a1 p1 c1, .slice b1 q1 d1] 32)) #[.int .i64 k2, .slice a2 p2 c2, .slice b2 q2 d2] 32
        rw [World.size_alloc] at B2
        have B2 := Lib.hid B2
        generalize (w.alloc _).alloc _ = W at *
        generalize hZ : w.heap.size = Z at *
        have N1 := Lib.hid (N1.out.same S0.out)
        have N2 := Lib.hid (N2.out.same S0.out)
        have T1 := Lib.hid (T1.out.same S0.out)
        have T2 := Lib.hid (T2.out.same S0.out)
        go_loopw [5, 4] (fun i r wr => ∃ j : Nat, j ≤ p1 ∧ i = .int .i64 (j : Int) ∧ r = .bool false ∧ n1.take j = n2.take j ∧ Same W wr) (fun i _ _ => p1 - (intOf i).toNat)
        case atStart => exact ⟨0, by omega, rfl, rfl, by simp, Mod.refl _ _⟩
        case round =>
          obtain ⟨j, hj, rfl, rfl, htk, hM⟩ := hrel
          have L1 := Lib.hid hM
          have HTK := Lib.hid htk
          have hb1 := (B1.out.mod hM (fun q => q)).cell
          have hb2 := (B2.out.mod hM (fun q => q)).cell
          clear htk
          by_cases hlt : j < p1
          · obtain ⟨x, hx⟩ : ∃ x, n1[j]? = some x := ⟨_, List.getElem?_eq_getElem (by rw [P1.out]; exact hlt)⟩
            obtain ⟨y, hy⟩ : ∃ y, n2[j]? = some y := ⟨_, List.getElem?_eq_getElem (by rw [P2.out, ← HP.out]; exact hlt)⟩
            obtain ⟨g1, o1, e1, hg1, hc1⟩ := N1.out (by rw [List.length_map, P1.out]; omega)
            obtain ⟨g2, o2, e2, hg2, hc2⟩ := N2.out (by rw [List.length_map, P2.out, ← HP.out]; omega)
            subst e1
            subst e2
            have hcx := (hM.cell hg1 (fun q => q) (o1 + j)).trans (hc1 j (.int .i64 x) (by rw [List.getElem?_map, hx]; rfl))
            have hcy := (hM.cell hg2 (fun q => q) (o2 + j)).trans (hc2 j (.int .i64 y) (by rw [List.getElem?_map, hy]; rfl))
            have HE := Lib.hid (take_eq_succ n1 n2 j x y hx hy HTK.out)
            have hlt2' : (j : Int) < (p2 : Int) := by have := HP.out; omega
            clear hM hx hy hc1 hc2 hg1 hg2
            by_cases hxy : x = y
            · have dx : (x != y) = false := by rw [hxy]; simp
              have HXY := Lib.hid hxy
              clear hxy
              go_wp2_with fail
              go_big_quiet (fail)
              go_wp2_with fail
              go_roundw
              case rel => exact ⟨j + 1, by omega, by go_num, rfl, HE.out.1 HXY.out, L1.out.drewN _⟩
              case measure => simp [intOf]; omega
            · have dx : (x != y) = true := by simpa using hxy
              have HXY := Lib.hid hxy
              clear hxy
              go_wp2_with fail
              go_big_quiet (fail)
              go_wp2_with fail
              exact HR.out _ _ ⟨by rw [decide_eq_false (HE.out.2 HXY.out)]; simp, (S0.out.same L1.out).drewN _⟩
          · obtain rfl : j = p1 := by omega
            have hnn : n1 = n2 := by
              have := HTK.out
              rwa [List.take_of_length_le (by rw [P1.out]; exact Nat.le_refl _), List.take_of_length_le (by rw [P2.out, ← HP.out]; exact Nat.le_refl _)] at this
            have HNN := Lib.hid hnn
            clear hM hnn HTK
            go_wp2_with fail
            clear hb1 hb2
            go_loopw [6, 4] (fun i r wr => ∃ j : Nat, j ≤ q1 ∧ i = .int .i64 (j : Int) ∧ r = .bool false ∧ t1.take j = t2.take j ∧ Same W wr) (fun i _ _ => q1 - (intOf i).toNat)
            case atStart => exact ⟨0, by omega, rfl, rfl, by simp, L1.out⟩
            case round =>
              obtain ⟨j, hj, rfl, rfl, htk, hM⟩ := hrel
              have L2 := Lib.hid hM
              have HTK := Lib.hid htk
              have hb1 := (B1.out.mod hM (fun q => q)).cell
              have hb2 := (B2.out.mod hM (fun q => q)).cell
              clear htk L1
              by_cases hlt : j < q1
              · obtain ⟨x, hx⟩ : ∃ x, t1[j]? = some x := ⟨_, List.getElem?_eq_getElem (by rw [Q1.out]; exact hlt)⟩
                obtain ⟨y, hy⟩ : ∃ y, t2[j]? = some y := ⟨_, List.getElem?_eq_getElem (by rw [Q2.out, ← HQ.out]; exact hlt)⟩
                obtain ⟨g1, o1, e1, hg1, hc1⟩ := T1.out (by rw [List.length_map, Q1.out]; omega)
                obtain ⟨g2, o2, e2, hg2, hc2⟩ := T2.out (by rw [List.length_map, Q2.out, ← HQ.out]; omega)
                subst e1
                subst e2
                have hcx := (hM.cell hg1 (fun q => q) (o1 + j)).trans (hc1 j (strV x) (by rw [List.getElem?_map, hx]; rfl))
                have hcy := (hM.cell hg2 (fun q => q) (o2 + j)).trans (hc2 j (strV y) (by rw [List.getElem?_map, hy]; rfl))
                unfold strV at hcx hcy
                have HE := Lib.hid (take_eq_succ t1 t2 j x y hx hy HTK.out)
                have hlt2' : (j : Int) < (q2 : Int) := by have := HQ.out; omega
                clear hM hx hy hc1 hc2 hg1 hg2
                by_cases hxy : x = y
                · have dx : (x != y) = false := by rw [hxy]; simp
                  have dx2 : (x == y) = true := by rw [hxy]; simp
                  have HXY := Lib.hid hxy
                  clear hxy
                  go_wp2_with fail
                  go_big_quiet (fail)
                  go_wp2_with fail
                  go_roundw
                  case rel => exact ⟨j + 1, by omega, by go_num, rfl, HE.out.1 HXY.out, L2.out.drewN _⟩
                  case measure => simp [intOf]; omega
                · have dx : (x != y) = true := by simpa using hxy
                  have dx2 : (x == y) = false := by simpa using hxy
                  have HXY := Lib.hid hxy
                  clear hxy
                  go_wp2_with fail
                  go_big_quiet (fail)
                  go_wp2_with fail
                  exact HR.out _ _ ⟨by rw [decide_eq_false (HE.out.2 HXY.out)]; simp, (S0.out.same L2.out).drewN _⟩
              · obtain rfl : j = q1 := by omega
                have htt : t1 = t2 := by
                  have := HTK.out
                  rwa [List.take_of_length_le (by rw [Q1.out]; exact Nat.le_refl _), List.take_of_length_le (by rw [Q2.out, ← HQ.out]; exact Nat.le_refl _)] at this
                have HTT := Lib.hid htt
                clear hM htt HTK
                go_wp2_with fail
                exact HR.out _ _ ⟨by rw [HK.out, HNN.out, HTT.out]; simp, S0.out.same L2.out⟩
      · have d3' : ((q1 : Int) != (q2 : Int)) = true := bne_iff_ne.2 (by omega)
        have HX := Lib.hid (show ¬ t1 = t2 from fun e => hqn (by rw [← Q1.out, ← Q2.out, e]))
        clear hk hpn hqn
        go_enter Tryz.func13, Tryz.ntmps13
        go_wp2_with fail
        exact HR.out _ _ ⟨by rw [decide_eq_false HX.out]; simp, ((Mod.refl _ _).alloc _).alloc _⟩
    · have d2' : ((p1 : Int) != (p2 : Int)) = true := bne_iff_ne.2 (by omega)
      have HX := Lib.hid (show ¬ n1 = n2 from fun e => hpn (by rw [← P1.out, ← P2.out, e]))
      clear hk hpn
      go_enter Tryz.func13, Tryz.ntmps13
      go_wp2_with fail
      exact HR.out _ _ ⟨by rw [decide_eq_false HX.out]; simp, ((Mod.refl _ _).alloc _).alloc _⟩
  · have d1' : (k1 != k2) = true := by simpa using hk
    have HX := Lib.hid hk
    clear hk
    go_enter Tryz.func13, Tryz.ntmps13
    go_wp2_with fail
    exact HR.out _ _ ⟨by rw [decide_eq_false HX.out]; simp, ((Mod.refl _ _).alloc _).alloc _⟩
end Go.Proofs.YtdengmlidckkeaaGreatDoor
