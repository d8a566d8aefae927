import Derived.Test.YthkcdoneghcglaaDoorScrC
import Derived.Deep.RegionHeld3
import Derived.BigQuiet
import Derived.Deep.QuietTactic
set_option linter.unusedSimpArgs false
set_option linter.unusedVariables false
/- Whether sums can be: the program's look and the document's. -/
namespace Go.Proofs.YthkcdoneghcglaaDoor
open Go Go.RowKit
theorem getD_of {L : List Sm} {k : Nat} {x : Sm} (h : L[k]? = some x) : L.getD k sm0 = x := by rw [List.getD_eq_getElem?_getD, h]; rfl
theorem okAt_zero {L : List Sm} {x : Sm} (h : L[0]? = some x) : okAt L 0 = can x := by unfold okAt; rw [getD_of h]; simp
theorem okAt_succ {L : List Sm} {k : Nat} {x y : Sm} (h : L[k + 1]? = some x) (h2 : L[k]? = some y) : okAt L (k + 1) = (can x && decide (y.c < x.c)) := by
  unfold okAt; rw [getD_of h, show k + 1 - 1 = k from rfl, getD_of h2]; simp
theorem ok_next {L : List Sm} {k : Nat} (h : ∀ j, j < k → okAt L j = true) (hk : okAt L k = true) : ∀ j, j < k + 1 → okAt L j = true := by
  intro j hj
  by_cases e : j = k
  · subst e; exact hk
  · exact h j (by omega)
set_option maxHeartbeats 4000000 in
theorem isGood_any (a : Option Addr) (cap : Nat) (L : List Sm) (w : World) (hl : L.length ≤ 1000000) (hI : Sms w a L) :
    Calls Tryd.prog 30 #[.slice a L.length cap] w fun e w' => e = .returned (.bool (goodL L)) ∧ Same w w' := by
  refine opq fun R HR => ?_
  have HI := Lib.hid hI
  clear hI
  obtain ⟨n, hn⟩ : ∃ n, L.length = n := ⟨_, rfl⟩
  rw [hn] at hl ⊢
  have HN := Lib.hid hn
  clear hn
  go_enter Tryd.func30, Tryd.ntmps30
  go_wp2_with fail
  go_loopw [7] (fun i wr => ∃ k : Nat, k ≤ n ∧ i = .int .i64 k ∧ (∀ j, j < k → okAt L j = true) ∧ Same w wr) (fun i _ => n - (intOf i).toNat)
  case atStart => exact ⟨0, by omega, rfl, (fun j hj => by omega), Mod.refl _ _⟩
  case round =>
    obtain ⟨k, hk, rfl, hok, M⟩ := hrel
    by_cases hlt : k < n
    · obtain ⟨b1, o1, rfl, hb1, hc1⟩ := HI.out (by rw [HN.out]; omega)
      have hkL : k < L.length := by rw [HN.out]; exact hlt
      obtain ⟨x, hx⟩ : ∃ x, L[k]? = some x := ⟨_, List.getElem?_eq_getElem hkL⟩
      obtain ⟨e0, e1, e2, e3⟩ := cell4_same M hb1 (hc1 k x hx)
      have HX := Lib.hid hx
      have HO := Lib.hid hok
      have J := Lib.hid M
      have hgf := Lib.hid (fun (h : okAt L k = false) => goodL_false hkL h)
      have hbad := Lib.hid (fun (h : can x = false) => show okAt L k = false by unfold okAt; rw [getD_of hx, h]; rfl)
      have HC := Lib.hid (fun (i : Nat) (y : Sm) (hy : L[i]? = some y) => cell4_same (M.alloc (.cells #[.int .i64 x.c, .int .i64 x.t, .int .i64 x.s, .int .u32 (x.h : Int)] 46)) hb1 (hc1 i y hy))
      clear hx hok M hc1
      obtain ⟨c, t, s, h⟩ := x
      dsimp only at e0 e1 e2 e3
      by_cases h1 : 1 ≤ c
      · have d1 : decide (c < 1) = false := decide_eq_false (by omega)
        by_cases h2 : c ≤ 1023
        · have d2 : decide (c > 1023) = false := decide_eq_false (by omega)
          have d2' : decide (1023 < c) = false := decide_eq_false (by omega)
          rcases Nat.eq_zero_or_pos k with hk0 | hpos
          · have hok0 := fun (h : can ⟨c, t, s, h⟩ = true) => show okAt L k = true by subst hk0; rw [okAt_zero HX.out]; exact h
            have hg2 : decide ((0 : Int) < (k : Int)) = false := decide_eq_false (by omega)
            have hg3 : decide (0 < k) = false := decide_eq_false (by omega)
            have hg4 : decide ((k : Int) > 0) = false := decide_eq_false (by omega)
            clear hk0
            by_cases h3 : t = 0
            · subst h3
              by_cases h4 : 0 ≤ s
              · by_cases h5 : s ≤ 255
                · have HN2 := Lib.hid (ok_next HO.out (hok0 (by unfold can; exact decide_eq_true ⟨h1, h2, .inl rfl, h4, h5⟩)))
                  go_wp2_with fail
                  go_big_quiet (fail)
                  go_wp2
                  go_roundw
                  case rel => exact ⟨k + 1, by omega, by go_num, HN2.out, (J.out.alloc _).drewN _⟩
                  case measure => simp [intOf]; omega
                · rw [hgf.out (hbad.out (by unfold can; exact decide_eq_false (fun q => h5 q.2.2.2.2)))] at HR
                  go_wp2_with fail
                  go_big_quiet (fail)
                  go_wp2
                  exact HR.out _ _ ⟨rfl, (J.out.alloc _).drewN _⟩
              · rw [hgf.out (hbad.out (by unfold can; exact decide_eq_false (fun q => h4 q.2.2.2.1)))] at HR
                go_wp2_with fail
                go_big_quiet (fail)
                go_wp2
                exact HR.out _ _ ⟨rfl, (J.out.alloc _).drewN _⟩
            · have b1 := beqF h3
              by_cases h6 : t = 1
              · subst h6
                by_cases h4 : 0 ≤ s
                · by_cases h5 : s ≤ 255
                  · have HN2 := Lib.hid (ok_next HO.out (hok0 (by unfold can; exact decide_eq_true ⟨h1, h2, .inr rfl, h4, h5⟩)))
                    go_wp2_with fail
                    go_big_quiet (fail)
                    go_wp2
                    go_roundw
                    case rel => exact ⟨k + 1, by omega, by go_num, HN2.out, (J.out.alloc _).drewN _⟩
                    case measure => simp [intOf]; omega
                  · rw [hgf.out (hbad.out (by unfold can; exact decide_eq_false (fun q => h5 q.2.2.2.2)))] at HR
                    go_wp2_with fail
                    go_big_quiet (fail)
                    go_wp2
                    exact HR.out _ _ ⟨rfl, (J.out.alloc _).drewN _⟩
                · rw [hgf.out (hbad.out (by unfold can; exact decide_eq_false (fun q => h4 q.2.2.2.1)))] at HR
                  go_wp2_with fail
                  go_big_quiet (fail)
                  go_wp2
                  exact HR.out _ _ ⟨rfl, (J.out.alloc _).drewN _⟩
              · have b2 := beqF h6
                rw [hgf.out (hbad.out (by unfold can; exact decide_eq_false (fun q => q.2.2.1.elim h3 h6)))] at HR
                go_wp2_with fail
                go_big_quiet (fail)
                go_wp2
                exact HR.out _ _ ⟨rfl, (J.out.alloc _).drewN _⟩
          · obtain ⟨m, hkm⟩ : ∃ m, k = m + 1 := ⟨k - 1, by omega⟩
            obtain ⟨y, hy⟩ : ∃ y, L[m]? = some y := ⟨_, List.getElem?_eq_getElem (by omega)⟩
            obtain ⟨y0, _, _, _⟩ := HC.out m y hy
            have hw : IntKind.i64.wrap ((k : Int) - 1) = (m : Int) := by rw [show ((k : Int) - 1) = (m : Int) by omega]; exact IntWalk.i64_in _ (by omega)
            have hg2 : decide ((0 : Int) < (k : Int)) = true := decide_eq_true (by omega)
            have hg3 : decide (0 < k) = true := decide_eq_true (by omega)
            have hg4 : decide ((k : Int) > 0) = true := decide_eq_true (by omega)
            have hmn : m < n := by omega
            have hoks := Lib.hid (show okAt L k = (can ⟨c, t, s, h⟩ && decide (y.c < c)) by subst hkm; exact okAt_succ HX.out hy)
            clear hkm hy
            generalize y.c = yc at *
            by_cases hyc : yc < c
            · have hok1 := fun (h : can ⟨c, t, s, h⟩ = true) => show okAt L k = true by rw [hoks.out, h, decide_eq_true hyc]; rfl
              have d3 : decide (yc ≥ c) = false := decide_eq_false (by omega)
              have d3' : decide (c ≤ yc) = false := decide_eq_false (by omega)
              by_cases h3 : t = 0
              · subst h3
                by_cases h4 : 0 ≤ s
                · by_cases h5 : s ≤ 255
                  · have HN2 := Lib.hid (ok_next HO.out (hok1 (by unfold can; exact decide_eq_true ⟨h1, h2, .inl rfl, h4, h5⟩)))
                    go_wp2_with fail
                    go_big_quiet (fail)
                    go_wp2
                    go_roundw
                    case rel => exact ⟨k + 1, by omega, by go_num, HN2.out, (J.out.alloc _).drewN _⟩
                    case measure => simp [intOf]; omega
                  · rw [hgf.out (hbad.out (by unfold can; exact decide_eq_false (fun q => h5 q.2.2.2.2)))] at HR
                    go_wp2_with fail
                    go_big_quiet (fail)
                    go_wp2
                    exact HR.out _ _ ⟨rfl, (J.out.alloc _).drewN _⟩
                · rw [hgf.out (hbad.out (by unfold can; exact decide_eq_false (fun q => h4 q.2.2.2.1)))] at HR
                  go_wp2_with fail
                  go_big_quiet (fail)
                  go_wp2
                  exact HR.out _ _ ⟨rfl, (J.out.alloc _).drewN _⟩
              · have b1 := beqF h3
                by_cases h6 : t = 1
                · subst h6
                  by_cases h4 : 0 ≤ s
                  · by_cases h5 : s ≤ 255
                    · have HN2 := Lib.hid (ok_next HO.out (hok1 (by unfold can; exact decide_eq_true ⟨h1, h2, .inr rfl, h4, h5⟩)))
                      go_wp2_with fail
                      go_big_quiet (fail)
                      go_wp2
                      go_roundw
                      case rel => exact ⟨k + 1, by omega, by go_num, HN2.out, (J.out.alloc _).drewN _⟩
                      case measure => simp [intOf]; omega
                    · rw [hgf.out (hbad.out (by unfold can; exact decide_eq_false (fun q => h5 q.2.2.2.2)))] at HR
                      go_wp2_with fail
                      go_big_quiet (fail)
                      go_wp2
                      exact HR.out _ _ ⟨rfl, (J.out.alloc _).drewN _⟩
                  · rw [hgf.out (hbad.out (by unfold can; exact decide_eq_false (fun q => h4 q.2.2.2.1)))] at HR
                    go_wp2_with fail
                    go_big_quiet (fail)
                    go_wp2
                    exact HR.out _ _ ⟨rfl, (J.out.alloc _).drewN _⟩
                · have b2 := beqF h6
                  rw [hgf.out (hbad.out (by unfold can; exact decide_eq_false (fun q => q.2.2.1.elim h3 h6)))] at HR
                  go_wp2_with fail
                  go_big_quiet (fail)
                  go_wp2
                  exact HR.out _ _ ⟨rfl, (J.out.alloc _).drewN _⟩
            · have d3 : decide (yc ≥ c) = true := decide_eq_true (by omega)
              have d3' : decide (c ≤ yc) = true := decide_eq_true (by omega)
              rw [hgf.out (by rw [hoks.out, decide_eq_false hyc, Bool.and_false])] at HR
              go_wp2_with fail
              go_big_quiet (fail)
              go_wp2
              exact HR.out _ _ ⟨rfl, (J.out.alloc _).drewN _⟩
        · have d2 : decide (c > 1023) = true := decide_eq_true (by omega)
          have d2' : decide (1023 < c) = true := decide_eq_true (by omega)
          rw [hgf.out (hbad.out (by unfold can; exact decide_eq_false (fun q => h2 q.2.1)))] at HR
          go_wp2_with fail
          go_big_quiet (fail)
          go_wp2
          exact HR.out _ _ ⟨rfl, (J.out.alloc _).drewN _⟩
      · have d1 : decide (c < 1) = true := decide_eq_true (by omega)
        rw [hgf.out (hbad.out (by unfold can; exact decide_eq_false (fun q => h1 q.1)))] at HR
        go_wp2_with fail
        go_big_quiet (fail)
        go_wp2
        exact HR.out _ _ ⟨rfl, (J.out.alloc _).drewN _⟩
    · obtain rfl : k = n := by omega
      have hg := goodL_true (fun j hj => hok j (by rw [← HN.out]; exact hj))
      rw [hg] at HR
      have J := Lib.hid M
      clear M hok hg
      go_wp2
      exact HR.out _ _ ⟨rfl, J.out⟩
end Go.Proofs.YthkcdoneghcglaaDoor
