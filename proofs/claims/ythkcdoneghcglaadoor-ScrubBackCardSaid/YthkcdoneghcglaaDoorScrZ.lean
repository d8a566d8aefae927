import Derived.Test.YthkcdoneghcglaaDoorScrD
set_option linter.unusedSimpArgs false
set_option linter.unusedVariables false
/- The law's same, of equal sums. -/
namespace Go.Proofs.YthkcdoneghcglaaDoor
open Go Go.RowKit
set_option maxRecDepth 10000 in
set_option maxHeartbeats 8000000 in
theorem same_any (a1 a2 : Option Addr) (c1 c2 : Nat) (L : List Sm) (w : World) (hl : L.length ≤ 1000000) (hI1 : Sms w a1 L) (hI2 : Sms w a2 L) :
    Calls Tryd.prog 17 #[.slice a1 L.length c1, .slice a2 L.length c2] w fun e w' => e = .returned (.bool true) ∧ Same w w' := by
  refine opq fun R HR => ?_
  have H1 := Lib.hid hI1
  have H2 := Lib.hid hI2
  clear hI1 hI2
  obtain ⟨n, hn⟩ : ∃ n, L.length = n := ⟨_, rfl⟩
  rw [hn] at hl ⊢
  have HN := Lib.hid hn
  clear hn
  go_enter Tryd.func17, Tryd.ntmps17
  go_wp2_with fail
  go_loopw [5] (fun i wr => ∃ k : Nat, k ≤ n ∧ i = .int .i64 k ∧ Same w wr) (fun i _ => n - (intOf i).toNat)
  case atStart => exact ⟨0, by omega, rfl, Mod.refl _ _⟩
  case round =>
    obtain ⟨k, hk, rfl, M⟩ := hrel
    by_cases hlt : k < n
    · obtain ⟨b1, o1, rfl, hb1, hc1⟩ := H1.out (by rw [HN.out]; omega)
      obtain ⟨b2, o2, rfl, hb2, hc2⟩ := H2.out (by rw [HN.out]; omega)
      have hkL : k < L.length := by rw [HN.out]; exact hlt
      obtain ⟨x, hx⟩ : ∃ x, L[k]? = some x := ⟨_, List.getElem?_eq_getElem hkL⟩
      obtain ⟨x0, x1, x2, x3⟩ := cell4_same M hb1 (hc1 k x hx)
      obtain ⟨y0, y1, y2, y3⟩ := cell4_same M hb2 (hc2 k x hx)
      have J := Lib.hid M
      clear hc1 hc2 hx M
      obtain ⟨xc, xt, xs, xh⟩ := x
      dsimp only at x0 x1 x2 x3 y0 y1 y2 y3
      go_wp2_with fail
      go_big_quiet (fail)
      go_wp2
      go_roundw
      case rel => exact ⟨k + 1, by omega, by go_num, J.out.drewN _⟩
      case measure => simp [intOf]; omega
    · obtain rfl : k = n := by omega
      have J := Lib.hid M
      clear M
      go_wp2
      exact HR.out _ _ ⟨rfl, J.out⟩
end Go.Proofs.YthkcdoneghcglaaDoor
