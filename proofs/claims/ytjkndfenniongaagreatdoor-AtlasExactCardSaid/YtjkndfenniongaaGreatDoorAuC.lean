import Derived.Test.YtjkndfenniongaaGreatDoorAuB
set_option linter.unusedSimpArgs false
set_option linter.unusedVariables false
set_option maxRecDepth 100000
/- leaf.Good. -/
namespace Go.Proofs.YtjkndfenniongaaGreatDoor
open Go Go.RowKit
theorem far_iff (L : List (Int × Int)) : farL L = true ↔ ∃ (k : Nat) (p : Int × Int), L[k]? = some p ∧ (decide (p.2 < 1) || decide (512 ≤ p.2)) = true := by
  unfold farL
  rw [List.any_eq_true]
  constructor
  · rintro ⟨p, hp, h⟩
    obtain ⟨k, hk⟩ := List.getElem?_of_mem hp
    exact ⟨k, p, hk, h⟩
  · rintro ⟨k, p, hk, h⟩
    exact ⟨p, List.mem_of_getElem? hk, h⟩
set_option maxHeartbeats 2000000 in
theorem idxfar_any (a : Option Addr) (c : Nat) (L : List (Int × Int)) (w : World) (hl : L.length ≤ 1000000) (hP : Prs w a L) : Calls Tryz.prog 93 #[.slice a L.length c, .func (.func 97) #[] #[]] w fun e w' => (∃ i : Int, e = .returned (.int .i64 i) ∧ decide (i ≥ 0) = farL L ∧ -1 ≤ i) ∧ Same w w' := by
  refine opq fun R HR => ?_
  have HP := Lib.hid hP
  obtain ⟨n, hn⟩ : ∃ n, L.length = n := ⟨_, rfl⟩
  rw [hn] at hl ⊢
  have HN := Lib.hid hn
  clear hn hP
  go_enter Tryz.func93, Tryz.ntmps93
  go_wp2_with fail
  go_loopw [8, 5] (fun vi _ wr => ∃ k : Nat, k ≤ n ∧ vi = .int .i64 (k : Int) ∧ (∀ i p, i < k → L[i]? = some p → (decide (p.2 < 1) || decide (512 ≤ p.2)) = false) ∧ Same w wr) (fun vi _ _ => n - (intOf vi).toNat)
  case atStart => exact ⟨0, by omega, rfl, fun i p h => by omega, Mod.refl _ _⟩
  case round =>
    obtain ⟨k, hk, rfl, hok, M⟩ := hrel
    have J := Lib.hid M
    have OK := Lib.hid hok
    clear M hok
    by_cases hlt : k < n
    · obtain ⟨b, o, rfl, hb, hc⟩ := HP.out (by rw [HN.out]; omega)
      obtain ⟨x, hx⟩ : ∃ x, L[k]? = some x := ⟨_, List.getElem?_eq_getElem (by rw [HN.out]; omega)⟩
      have e0 := (J.out.cell hb (fun q => q) _).trans (hc k x hx).1
      have e1 := (J.out.cell hb (fun q => q) _).trans (hc k x hx).2
      have HX := Lib.hid hx
      clear hc hx
      obtain ⟨y, v⟩ := x
      dsimp only at e0 e1
      go_wp2_with fail
      refine (far1_any (y, v) _).mono ?_
      rintro e w3 ⟨rfl, M⟩
      have J3 := Lib.hid (J.out.same M)
      clear M J e0 e1
      dsimp only
      cases hf : (decide (v < 1) || decide (512 ≤ v)) with
      | true =>
        have hfl : farL L = true := (far_iff L).2 ⟨k, _, HX.out, hf⟩
        rw [hfl] at HR
        go_wp2
        exact HR.out _ _ ⟨⟨(k : Int), rfl, by simp, by omega⟩, J3.out⟩
      | false =>
        go_wp2_with fail
        go_roundw
        case rel => exact ⟨k + 1, by omega, by go_num, (fun i p h1 h2 => by
          by_cases q : i = k
          · subst q; rw [HX.out] at h2; cases h2; exact hf
          · exact OK.out i p (by omega) h2), J3.out⟩
        case measure => simp [intOf]; omega
    · have hfl : farL L = false := by
        cases hq : farL L with
        | false => rfl
        | true =>
          obtain ⟨i, p, h1, h2⟩ := (far_iff L).1 hq
          rw [OK.out i p (by have := (List.getElem?_eq_some_iff.1 h1).1; rw [HN.out] at this; omega) h1] at h2
          cases h2
      rw [hfl] at HR
      go_wp2
      exact HR.out _ _ ⟨⟨-1, rfl, by decide, by omega⟩, J.out⟩
theorem cfar_any (a : Option Addr) (c : Nat) (L : List (Int × Int)) (w : World) (hl : L.length ≤ 1000000) (hP : Prs w a L) : Calls Tryz.prog 98 #[.slice a L.length c, .func (.func 97) #[] #[]] w fun e w' => e = .returned (.bool (farL L)) ∧ Same w w' := by
  refine opq fun R HR => ?_
  have HI := Lib.hid (idxfar_any a c L w hl hP)
  clear hP
  generalize L.length = n at *
  go_enter Tryz.func98, Tryz.ntmps98
  go_wp2_with fail
  refine HI.out.mono ?_
  rintro e w1 ⟨⟨i, rfl, hi, _⟩, M⟩
  go_wp2
  exact HR.out _ _ ⟨rfl, M⟩
set_option maxHeartbeats 4000000 in
theorem lgood_any (lv : Int) (a : Option Addr) (c : Nat) (L : List (Int × Int)) (w : World) (hl : L.length ≤ 1000000) (hP : Prs w a L) : Calls Tryz.prog 87 #[.agg #[.int .i64 lv, .slice a L.length c]] w fun e w' => e = .returned (.bool (goodL lv L)) ∧ Same w w' := by
  refine opq fun R HR => ?_
  have HRi := Lib.hid (fun w' (M : Same w w') => rise_any a c L w' hl (hP.same M))
  have HCf := Lib.hid (fun w' (M : Same w w') => cfar_any a c L w' hl (hP.same M))
  unfold goodL at HR
  have B0 := Lib.hid (Blk.new w #[.int .i64 lv, .slice a L.length c] 75)
  have M0 := Lib.hid (show Same w (w.alloc (.cells #[.int .i64 lv, .slice a L.length c] 75)) from (Mod.refl _ _).alloc _)
  clear hP
  generalize L.length = n at *
  by_cases h0 : 0 ≤ lv
  · by_cases h8 : lv < 8
    · by_cases hn : n ≤ 15
      · go_enter Tryz.func87, Tryz.ntmps87
        go_wp2_with fail
        generalize w.alloc _ = W at *
        refine (HRi.out _ M0.out).mono ?_
        rintro e w1 ⟨rfl, M⟩
        have K1 := Lib.hid (M0.out.same M)
        have B1 := Lib.hid (B0.out.mod M (fun q => q))
        have e0 := B1.out.at_ (i := 0) _ rfl
        have e1 := B1.out.at_ (i := 1) _ rfl
        clear M M0 B0
        cases hr : riseL L with
        | false =>
          rw [hr] at HR
          go_wp2
          exact HR.out _ _ ⟨by simp, K1.out⟩
        | true =>
          rw [hr] at HR
          by_cases hl0 : lv = 0
          · subst hl0
            go_wp2
            exact HR.out _ _ ⟨by simp [hn], K1.out⟩
          · have hb : (lv == 0) = false := beq_eq_false_iff_ne.2 hl0
            by_cases hn0 : 0 < n
            · go_wp2_with fail
              refine (HCf.out _ K1.out).mono ?_
              rintro e w2 ⟨rfl, M⟩
              have K2 := Lib.hid (K1.out.same M)
              clear M K1
              go_wp2
              exact HR.out _ _ ⟨by simp [h0, h8, hn, hl0, hn0], K2.out⟩
            · go_wp2
              exact HR.out _ _ ⟨by simp [h0, h8, hn, hl0, hn0], K1.out⟩
      · go_enter Tryz.func87, Tryz.ntmps87
        go_wp2
        exact HR.out _ _ ⟨by simp [hn], M0.out⟩
    · go_enter Tryz.func87, Tryz.ntmps87
      go_wp2
      exact HR.out _ _ ⟨by simp; intro _ q; omega, M0.out⟩
  · go_enter Tryz.func87, Tryz.ntmps87
    go_wp2
    exact HR.out _ _ ⟨by simp; intro q; omega, M0.out⟩
end Go.Proofs.YtjkndfenniongaaGreatDoor
