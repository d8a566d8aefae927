import Derived.Test.YtjkndfenniongaaGreatDoorAvX
import Derived.Test.YtjkndfenniongaaGreatDoorAuR
set_option linter.unusedSimpArgs false
set_option linter.unusedVariables false
set_option maxRecDepth 100000
/- The document's nodes: which can be. -/
namespace Go.Proofs.YtjkndfenniongaaGreatDoor
open Go Go.RowKit
set_option maxHeartbeats 8000000 in
theorem rgood5_any (lv : Int) (a : Option Addr) (c : Nat) (L : List (Int × Int)) (w : World) (hl : L.length ≤ 1000000) (hP : Prs w a L) : Calls Tryz.prog 66 #[.agg #[.int .i64 lv, .slice a L.length c]] w fun e w' => e = .returned (.bool (goodL lv L)) ∧ Same w w' := by
  refine opq fun R HR => ?_
  have X0 := Lib.hid (Blk.new w #[.int .i64 lv, .slice a L.length c] 75)
  have M0 := Lib.hid (show Same w (w.alloc (.cells #[.int .i64 lv, .slice a L.length c] 75)) from (Mod.refl _ _).alloc _)
  have HP := Lib.hid (hP.same M0.out)
  obtain ⟨n, hn⟩ : ∃ n, L.length = n := ⟨_, rfl⟩
  have HN := Lib.hid hn
  have HG := Lib.hid (show goodL lv L = (decide (0 ≤ lv) && decide (lv < 8) && decide (L.length ≤ 15) && riseL L && (decide (lv = 0) || (decide (0 < L.length) && !farL L))) from rfl)
  rw [hn] at X0 M0 hl HP HG ⊢
  clear hP hn
  by_cases h1 : lv < 0
  · have hb : goodL lv L = false := by rw [HG.out, decide_eq_false (by omega : ¬ 0 ≤ lv)]; rfl
    rw [hb] at HR
    have g1 : decide (lv < 0) = true := decide_eq_true (by omega)
    go_enter Tryz.func66, Tryz.ntmps66
    go_wp2
    exact HR.out _ _ ⟨rfl, M0.out⟩
  have g1 : decide (lv < 0) = false := decide_eq_false (by omega)
  by_cases h2 : 7 < lv
  · have hb : goodL lv L = false := by rw [HG.out, decide_eq_false (by omega : ¬ lv < 8)]; simp
    rw [hb] at HR
    have g2 : decide (7 < lv) = true := decide_eq_true (by omega)
    go_enter Tryz.func66, Tryz.ntmps66
    go_wp2
    exact HR.out _ _ ⟨rfl, M0.out⟩
  have g2 : decide (7 < lv) = false := decide_eq_false (by omega)
  by_cases h3 : 15 < n
  · have hb : goodL lv L = false := by rw [HG.out, decide_eq_false (by omega : ¬ n ≤ 15)]; simp
    rw [hb] at HR
    have g3 : decide ((15 : Int) < (n : Int)) = true := decide_eq_true (by omega)
    have g4 : decide (15 < n) = true := decide_eq_true (by omega)
    go_enter Tryz.func66, Tryz.ntmps66
    go_wp2
    exact HR.out _ _ ⟨rfl, M0.out⟩
  have g3 : decide ((15 : Int) < (n : Int)) = false := decide_eq_false (by omega)
  have g4 : decide (15 < n) = false := decide_eq_false (by omega)
  by_cases h4 : 0 < lv ∧ n = 0
  · have hb : goodL lv L = false := by rw [HG.out, decide_eq_false (by omega : ¬ lv = 0), decide_eq_false (by omega : ¬ 0 < n)]; simp
    rw [hb] at HR
    obtain ⟨h5, rfl⟩ := h4
    have g5 : decide (0 < lv) = true := decide_eq_true h5
    go_enter Tryz.func66, Tryz.ntmps66
    go_wp2
    exact HR.out _ _ ⟨rfl, M0.out⟩
  have HGl := Lib.hid (show goodL lv L = (riseL L && (decide (lv = 0) || !farL L)) by
    rw [HG.out, decide_eq_true (by omega : 0 ≤ lv), decide_eq_true (by omega : lv < 8), decide_eq_true (by omega : n ≤ 15)]
    by_cases q : lv = 0
    · rw [decide_eq_true q]; simp
    · rw [decide_eq_false q, decide_eq_true (by omega : 0 < n)]; simp)
  have hlp : (0 < lv) ∨ lv = 0 := by omega
  have xn : (w.alloc (.cells #[.int .i64 lv, .slice a n c] 75)).heap.size = w.heap.size + 1 := by simp
  clear HG
  rcases hlp with hp | hp
  · have g5 : decide (0 < lv) = true := decide_eq_true hp
    have hn0 : ((n : Int) == 0) = false := beq_eq_false_iff_ne.2 (by omega)
    go_enter Tryz.func66, Tryz.ntmps66
    go_wp2_with fail
    go_loopw [3] (fun vi wr => ∃ k : Nat, k ≤ n ∧ vi = .int .i64 (k : Int) ∧ (∀ i x y, i + 1 < k → L[i]? = some x → L[i + 1]? = some y → x.1 < y.1) ∧ (0 < lv → ∀ i p, i < k → L[i]? = some p → (decide (p.2 < 1) || decide (512 ≤ p.2)) = false) ∧ Same (w.alloc (.cells #[.int .i64 lv, .slice a n c] 75)) wr) (fun vi _ => n - (intOf vi).toNat)
    case atStart => exact ⟨0, by omega, rfl, fun i x y h => by omega, fun _ i p h => by omega, Mod.refl _ _⟩
    case round =>
      obtain ⟨k, hk, rfl, hok, hfo, M⟩ := hrel
      have J := Lib.hid M
      have OK := Lib.hid hok
      have FO := Lib.hid hfo
      have x1 := (X0.out.mod M (fun q => q)).at_ (i := 1) _ rfl
      have x0 := (X0.out.mod M (fun q => q)).at_ (i := 0) _ rfl
      clear M hok hfo
      by_cases hlt : k < n
      · obtain ⟨b, o, rfl, hb, hc⟩ := HP.out (by rw [HN.out]; omega)
        obtain ⟨y, hy⟩ : ∃ y, L[k]? = some y := ⟨_, List.getElem?_eq_getElem (by rw [HN.out]; omega)⟩
        have e1 := (J.out.cell hb (fun q => q) _).trans (hc k y hy).1
        have e2 := (J.out.cell hb (fun q => q) _).trans (hc k y hy).2
        have HY := Lib.hid hy
        have hw1 : k = 0 ∨ IntKind.i64.wrap ((k : Int) - 1) = ((k - 1 : Nat) : Int) := by
          by_cases q : k = 0
          · exact .inl q
          · exact .inr (by rw [IntWalk.i64_in _ (by omega)]; omega)
        have key : (k = 0 ∨ (0 < k ∧ ∃ x, L[k - 1]? = some x)) := by
          by_cases q : k = 0
          · exact .inl q
          · exact .inr ⟨by omega, _, List.getElem?_eq_getElem (by rw [HN.out]; omega)⟩
        rcases key with hk0 | ⟨hk0, x, hx⟩
        · subst hk0
          rw [Nat.zero_mul, Nat.add_zero] at e1 e2
          have OK2 := Lib.hid (show ∀ i x y, i + 1 < 0 + 1 → L[i]? = some x → L[i + 1]? = some y → x.1 < y.1 from fun i x y h => by omega)
          clear hc hy hw1
          by_cases v1 : y.2 < 1
          · have hb : goodL lv L = false := by
              rw [HGl.out, (far_iff L).2 ⟨0, y, HY.out, by rw [decide_eq_true v1]; rfl⟩, decide_eq_false (by omega : ¬ lv = 0)]; simp
            have d5 : decide (y.2 < 1) = true := decide_eq_true v1
            rw [hb] at HR
            go_wp2_with fail
            go_big_quiet (fail)
            go_wp2
            exact HR.out _ _ ⟨rfl, M0.out.same (by first | exact J.out.drewN _ | exact (J.out.drewN _).drewN _)⟩
          have d5 : decide (y.2 < 1) = false := decide_eq_false v1
          by_cases v2 : 511 < y.2
          · have hb : goodL lv L = false := by
              rw [HGl.out, (far_iff L).2 ⟨0, y, HY.out, by rw [decide_eq_true (by omega : 512 ≤ y.2)]; simp⟩, decide_eq_false (by omega : ¬ lv = 0)]; simp
            have d6 : decide (511 < y.2) = true := decide_eq_true v2
            rw [hb] at HR
            go_wp2_with fail
            go_big_quiet (fail)
            go_wp2
            exact HR.out _ _ ⟨rfl, M0.out.same (by first | exact J.out.drewN _ | exact (J.out.drewN _).drewN _)⟩
          have d6 : decide (511 < y.2) = false := decide_eq_false v2
          have FO2 := Lib.hid (show 0 < lv → ∀ i p, i < 0 + 1 → L[i]? = some p → (decide (p.2 < 1) || decide (512 ≤ p.2)) = false from fun h i p h1 h2 => by
            by_cases q : i = 0
            · subst q
              rw [HY.out] at h2
              cases h2
              rw [d5, decide_eq_false (by omega : ¬ 512 ≤ y.2)]; rfl
            · exact FO.out h i p (by omega) h2)
          go_wp2_with fail
          go_big_quiet (fail)
          go_wp2_with fail
          go_roundw
          case rel => exact ⟨0 + 1, by omega, by go_num, OK2.out, FO2.out, by first | exact J.out.drewN _ | exact (J.out.drewN _).drewN _⟩
          case measure => simp [intOf]; omega
        · have e0 := (J.out.cell hb (fun q => q) _).trans (hc (k - 1) x hx).1
          have HX := Lib.hid hx
          have hw2 : IntKind.i64.wrap ((k : Int) - 1) = ((k - 1 : Nat) : Int) := by rw [IntWalk.i64_in _ (by omega)]; omega
          have d0 : decide ((0 : Int) < (k : Int)) = true := decide_eq_true (by omega)
          have d0' : decide (0 < k) = true := decide_eq_true (by omega)
          clear hc hx hy hw1
          by_cases hxy : x.1 < y.1
          · have d1 : decide (x.1 ≥ y.1) = false := decide_eq_false (by omega)
            have d2 : decide (y.1 ≤ x.1) = false := decide_eq_false (by omega)
            have d3 : ¬ y.1 ≤ x.1 := by omega
            have OK2 := Lib.hid (show ∀ i x y, i + 1 < k + 1 → L[i]? = some x → L[i + 1]? = some y → x.1 < y.1 from fun i x' y' h1 h2 h3 => by
              by_cases q : i + 1 = k
              · obtain rfl : i = k - 1 := by omega
                rw [HX.out] at h2
                rw [show k - 1 + 1 = k by omega, HY.out] at h3
                cases h2; cases h3; exact hxy
              · exact OK.out i x' y' (by omega) h2 h3)
            by_cases v1 : y.2 < 1
            · have hb : goodL lv L = false := by
                rw [HGl.out, (far_iff L).2 ⟨k, y, HY.out, by rw [decide_eq_true v1]; rfl⟩, decide_eq_false (by omega : ¬ lv = 0)]; simp
              have d5 : decide (y.2 < 1) = true := decide_eq_true v1
              rw [hb] at HR
              go_wp2_with fail
              go_big_quiet (fail)
              go_wp2
              exact HR.out _ _ ⟨rfl, M0.out.same (by first | exact J.out.drewN _ | exact (J.out.drewN _).drewN _)⟩
            have d5 : decide (y.2 < 1) = false := decide_eq_false v1
            by_cases v2 : 511 < y.2
            · have hb : goodL lv L = false := by
                rw [HGl.out, (far_iff L).2 ⟨k, y, HY.out, by rw [decide_eq_true (by omega : 512 ≤ y.2)]; simp⟩, decide_eq_false (by omega : ¬ lv = 0)]; simp
              have d6 : decide (511 < y.2) = true := decide_eq_true v2
              rw [hb] at HR
              go_wp2_with fail
              go_big_quiet (fail)
              go_wp2
              exact HR.out _ _ ⟨rfl, M0.out.same (by first | exact J.out.drewN _ | exact (J.out.drewN _).drewN _)⟩
            have d6 : decide (511 < y.2) = false := decide_eq_false v2
            have FO2 := Lib.hid (show 0 < lv → ∀ i p, i < k + 1 → L[i]? = some p → (decide (p.2 < 1) || decide (512 ≤ p.2)) = false from fun h i p h1 h2 => by
              by_cases q : i = k
              · subst q
                rw [HY.out] at h2
                cases h2
                rw [d5, decide_eq_false (by omega : ¬ 512 ≤ y.2)]; rfl
              · exact FO.out h i p (by omega) h2)
            go_wp2_with fail
            go_big_quiet (fail)
            go_wp2_with fail
            go_roundw
            case rel => exact ⟨k + 1, by omega, by go_num, OK2.out, FO2.out, by first | exact J.out.drewN _ | exact (J.out.drewN _).drewN _⟩
            case measure => simp [intOf]; omega
          · have d1 : decide (x.1 ≥ y.1) = true := decide_eq_true (by omega)
            have d2 : decide (y.1 ≤ x.1) = true := decide_eq_true (by omega)
            have d3 : y.1 ≤ x.1 := by omega
            have hb : goodL lv L = false := by
              have hr : riseL L = false := by
                cases hq : riseL L with
                | false => rfl
                | true => exact absurd ((rise_iff L).1 hq (k - 1) x y HX.out (by rw [show k - 1 + 1 = k by omega]; exact HY.out)) hxy
              rw [HGl.out, hr]; rfl
            rw [hb] at HR
            go_wp2_with fail
            go_big_quiet (fail)
            go_wp2
            exact HR.out _ _ ⟨rfl, M0.out.same (by first | exact J.out.drewN _ | exact (J.out.drewN _).drewN _)⟩
      · obtain rfl : k = n := by omega
        have hr : riseL L = true := (rise_iff L).2 (fun i x y h1 h2 => OK.out i x y (by have := (List.getElem?_eq_some_iff.1 h2).1; rw [HN.out] at this; omega) h1 h2)
        have hb : goodL lv L = true := by
          rw [HGl.out, hr]
          by_cases q : lv = 0
          · first | (rw [decide_eq_true q]; rfl) | simp
          · have hf : farL L = false := by
              cases hq : farL L with
              | false => rfl
              | true =>
                obtain ⟨i, p, h1, h2⟩ := (far_iff L).1 hq
                rw [FO.out (by omega) i p (by have := (List.getElem?_eq_some_iff.1 h1).1; rw [HN.out] at this; omega) h1] at h2
                cases h2
            rw [hf]; simp
        rw [hb] at HR
        go_wp2
        exact HR.out _ _ ⟨rfl, M0.out.same J.out⟩
  · subst hp
    go_enter Tryz.func66, Tryz.ntmps66
    go_wp2_with fail
    go_loopw [3] (fun vi wr => ∃ k : Nat, k ≤ n ∧ vi = .int .i64 (k : Int) ∧ (∀ i x y, i + 1 < k → L[i]? = some x → L[i + 1]? = some y → x.1 < y.1) ∧ ((0 : Int) < 0 → ∀ i p, i < k → L[i]? = some p → (decide (p.2 < 1) || decide (512 ≤ p.2)) = false) ∧ Same (w.alloc (.cells #[.int .i64 0, .slice a n c] 75)) wr) (fun vi _ => n - (intOf vi).toNat)
    case atStart => exact ⟨0, by omega, rfl, fun i x y h => by omega, fun _ i p h => by omega, Mod.refl _ _⟩
    case round =>
      obtain ⟨k, hk, rfl, hok, hfo, M⟩ := hrel
      have J := Lib.hid M
      have OK := Lib.hid hok
      have FO := Lib.hid hfo
      have x1 := (X0.out.mod M (fun q => q)).at_ (i := 1) _ rfl
      have x0 := (X0.out.mod M (fun q => q)).at_ (i := 0) _ rfl
      clear M hok hfo
      by_cases hlt : k < n
      · obtain ⟨b, o, rfl, hb, hc⟩ := HP.out (by rw [HN.out]; omega)
        obtain ⟨y, hy⟩ : ∃ y, L[k]? = some y := ⟨_, List.getElem?_eq_getElem (by rw [HN.out]; omega)⟩
        have e1 := (J.out.cell hb (fun q => q) _).trans (hc k y hy).1
        have e2 := (J.out.cell hb (fun q => q) _).trans (hc k y hy).2
        have HY := Lib.hid hy
        have hw1 : k = 0 ∨ IntKind.i64.wrap ((k : Int) - 1) = ((k - 1 : Nat) : Int) := by
          by_cases q : k = 0
          · exact .inl q
          · exact .inr (by rw [IntWalk.i64_in _ (by omega)]; omega)
        have key : (k = 0 ∨ (0 < k ∧ ∃ x, L[k - 1]? = some x)) := by
          by_cases q : k = 0
          · exact .inl q
          · exact .inr ⟨by omega, _, List.getElem?_eq_getElem (by rw [HN.out]; omega)⟩
        rcases key with hk0 | ⟨hk0, x, hx⟩
        · subst hk0
          rw [Nat.zero_mul, Nat.add_zero] at e1 e2
          have OK2 := Lib.hid (show ∀ i x y, i + 1 < 0 + 1 → L[i]? = some x → L[i + 1]? = some y → x.1 < y.1 from fun i x y h => by omega)
          clear hc hy hw1
          have FO2 := Lib.hid (show (0 : Int) < 0 → ∀ i p, i < 0 + 1 → L[i]? = some p → (decide (p.2 < 1) || decide (512 ≤ p.2)) = false from fun h => by omega)
          go_wp2_with fail
          go_big_quiet (fail)
          go_wp2_with fail
          go_roundw
          case rel => exact ⟨0 + 1, by omega, by go_num, OK2.out, FO2.out, by first | exact J.out.drewN _ | exact (J.out.drewN _).drewN _⟩
          case measure => simp [intOf]; omega
        · have e0 := (J.out.cell hb (fun q => q) _).trans (hc (k - 1) x hx).1
          have HX := Lib.hid hx
          have hw2 : IntKind.i64.wrap ((k : Int) - 1) = ((k - 1 : Nat) : Int) := by rw [IntWalk.i64_in _ (by omega)]; omega
          have d0 : decide ((0 : Int) < (k : Int)) = true := decide_eq_true (by omega)
          have d0' : decide (0 < k) = true := decide_eq_true (by omega)
          clear hc hx hy hw1
          by_cases hxy : x.1 < y.1
          · have d1 : decide (x.1 ≥ y.1) = false := decide_eq_false (by omega)
            have d2 : decide (y.1 ≤ x.1) = false := decide_eq_false (by omega)
            have d3 : ¬ y.1 ≤ x.1 := by omega
            have OK2 := Lib.hid (show ∀ i x y, i + 1 < k + 1 → L[i]? = some x → L[i + 1]? = some y → x.1 < y.1 from fun i x' y' h1 h2 h3 => by
              by_cases q : i + 1 = k
              · obtain rfl : i = k - 1 := by omega
                rw [HX.out] at h2
                rw [show k - 1 + 1 = k by omega, HY.out] at h3
                cases h2; cases h3; exact hxy
              · exact OK.out i x' y' (by omega) h2 h3)
            have FO2 := Lib.hid (show (0 : Int) < 0 → ∀ i p, i < k + 1 → L[i]? = some p → (decide (p.2 < 1) || decide (512 ≤ p.2)) = false from fun h => by omega)
            go_wp2_with fail
            go_big_quiet (fail)
            go_wp2_with fail
            go_roundw
            case rel => exact ⟨k + 1, by omega, by go_num, OK2.out, FO2.out, by first | exact J.out.drewN _ | exact (J.out.drewN _).drewN _⟩
            case measure => simp [intOf]; omega
          · have d1 : decide (x.1 ≥ y.1) = true := decide_eq_true (by omega)
            have d2 : decide (y.1 ≤ x.1) = true := decide_eq_true (by omega)
            have d3 : y.1 ≤ x.1 := by omega
            have hb : goodL 0 L = false := by
              have hr : riseL L = false := by
                cases hq : riseL L with
                | false => rfl
                | true => exact absurd ((rise_iff L).1 hq (k - 1) x y HX.out (by rw [show k - 1 + 1 = k by omega]; exact HY.out)) hxy
              rw [HGl.out, hr]; rfl
            rw [hb] at HR
            go_wp2_with fail
            go_big_quiet (fail)
            go_wp2
            exact HR.out _ _ ⟨rfl, M0.out.same (by first | exact J.out.drewN _ | exact (J.out.drewN _).drewN _)⟩
      · obtain rfl : k = n := by omega
        have hr : riseL L = true := (rise_iff L).2 (fun i x y h1 h2 => OK.out i x y (by have := (List.getElem?_eq_some_iff.1 h2).1; rw [HN.out] at this; omega) h1 h2)
        have hb : goodL 0 L = true := by
          rw [HGl.out, hr]
          by_cases q : (0 : Int) = 0
          · first | (rw [decide_eq_true q]; rfl) | simp
          · have hf : farL L = false := by
              cases hq : farL L with
              | false => rfl
              | true =>
                obtain ⟨i, p, h1, h2⟩ := (far_iff L).1 hq
                rw [FO.out (by omega) i p (by have := (List.getElem?_eq_some_iff.1 h1).1; rw [HN.out] at this; omega) h1] at h2
                cases h2
            rw [hf]; simp
        rw [hb] at HR
        go_wp2
        exact HR.out _ _ ⟨rfl, M0.out.same J.out⟩
end Go.Proofs.YtjkndfenniongaaGreatDoor
