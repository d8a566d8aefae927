import Derived.Test.YthkcdoneghcglaaDoorBndH
set_option linter.unusedSimpArgs false
set_option linter.unusedVariables false
/- The document's number. -/
namespace Go.Proofs.YthkcdoneghcglaaDoor
open Go Go.RowKit
theorem numG_nil (k : Nat) (n : Int) : numG k n [] = (n, 0) := by cases k <;> rfl
theorem numG_non (k : Nat) (n : Int) {c : UInt8} {r : List UInt8} (h : isDigit c = false) : numG k n (c :: r) = (n, 0) := by
  cases k with
  | zero => rfl
  | succ k => rw [numG, if_neg (by rw [h]; decide)]
theorem numG_yes {k : Nat} (n : Int) {c : UInt8} {r : List UInt8} (h : isDigit c = true) : numG (k + 1) n (c :: r) = ((numG k (n * 10 + ((c.toNat : Int) - 48)) r).1, (numG k (n * 10 + ((c.toNat : Int) - 48)) r).2 + 1) := by
  rw [numG, if_pos h]
def NuR (S : List UInt8) (p : Nat) (e : Ending) : Prop := e = .returned (.tuple #[.int .i64 (numB (S.drop p)).1, .int .i64 (((numB (S.drop p)).2 : Nat) : Int)])
set_option maxRecDepth 10000 in
set_option maxHeartbeats 4000000 in
theorem bnumr_any (S : List UInt8) (hS : S.length ≤ 1000000) (p : Nat) (hp : p ≤ 2000000) (w : World) :
    Calls Tryd.prog 49 #[strV S, .int .i64 (p : Int)] w fun e w' => NuR S p e ∧ Same w w' := by
  refine opq fun R HR => ?_
  unfold NuR at HR
  obtain ⟨N, hN⟩ : ∃ N, numB (S.drop p) = N := ⟨_, rfl⟩
  rw [hN] at HR
  unfold numB at hN
  have HN := Lib.hid hN
  clear hN
  unfold strV
  go_enter Tryd.func49, Tryd.ntmps49
  go_wp2_with fail
  go_loopw [6, 7] (fun vn vk wr => ∃ (n : Int) (k : Nat), vn = .int .i64 n ∧ vk = .int .i64 (k : Int) ∧ 0 ≤ n ∧ ((k = 0 ∧ n = 0) ∨ (k = 1 ∧ n ≤ 9) ∨ (k = 2 ∧ n ≤ 99) ∨ (k = 3 ∧ n ≤ 999) ∨ (k = 4 ∧ n ≤ 9999)) ∧ ((numG (4 - k) n (S.drop (p + k))).1, (numG (4 - k) n (S.drop (p + k))).2 + k) = N ∧ Same w wr) (fun _ vk _ => 4 - (intOf vk).toNat)
  case atStart => exact ⟨0, 0, rfl, rfl, by omega, by omega, by rw [← HN.out]; rfl, Mod.refl _ _⟩
  case round =>
    obtain ⟨n, k, rfl, rfl, hn0, hnk, hnum, M⟩ := hrel
    have J := Lib.hid M
    have HM := Lib.hid hnum
    clear M hnum
    have hw1 : IntKind.i64.wrap ((p : Int) + (k : Int)) = ((p + k : Nat) : Int) := by rw [show (p : Int) + (k : Int) = ((p + k : Nat) : Int) by omega]; exact IntWalk.i64_in _ (by omega)
    by_cases hlt : p + k < S.length
    · have g1 : decide (((p + k : Nat) : Int) < (S.length : Int)) = true := decide_eq_true (by omega)
      have g2 : decide ((p : Int) + (k : Int) < (S.length : Int)) = true := decide_eq_true (by omega)
      have g3 : decide (p + k < S.length) = true := decide_eq_true (by omega)
      obtain ⟨x, hx⟩ : ∃ x, S[p + k]? = some x := ⟨_, List.getElem?_eq_getElem hlt⟩
      have HD := Lib.hid (dropL hx)
      have kx := fun W => idx_any S (p + k) x hx ((p + k : Nat) : Int) rfl W
      have kx2 := fun W => idx_any S (p + k) x hx ((p : Int) + (k : Int)) (by omega) W
      have hx256 : x.toNat < 256 := x.toNat_lt
      clear hx
      by_cases hk4 : k < 4
      · have c1 : decide ((k : Int) < 4) = true := decide_eq_true (by omega)
        have c2 : decide (k < 4) = true := decide_eq_true (by omega)
        by_cases hlo : 48 ≤ x.toNat
        · have l1 : decide (48 ≤ (x.toNat : Int)) = true := decide_eq_true (by omega)
          have l2 : decide (48 ≤ x.toNat) = true := decide_eq_true hlo
          have l3 : decide ((x.toNat : Int) ≥ 48) = true := decide_eq_true (by omega)
          have l4 : decide (x.toNat ≥ 48) = true := decide_eq_true hlo
          by_cases hhi : x.toNat ≤ 57
          · have u1 : decide ((x.toNat : Int) ≤ 57) = true := decide_eq_true (by omega)
            have u2 : decide (x.toNat ≤ 57) = true := decide_eq_true hhi
            have hdg : isDigit x = true := by unfold isDigit; rw [l2, u2]; rfl
            have hwu : IntKind.u8.wrap ((x.toNat : Int) - 48) = (x.toNat : Int) - 48 := by rw [u8wrap]; omega
            have hwi : IntKind.i64.wrap ((x.toNat : Int) - 48) = (x.toNat : Int) - 48 := IntWalk.i64_in _ (by omega)
            have hst := numG_yes (k := 4 - (k + 1)) (r := S.drop (p + (k + 1))) n hdg
            have HS := Lib.hid (show ((numG (4 - (k + 1)) (n * 10 + ((x.toNat : Int) - 48)) (S.drop (p + (k + 1)))).1, (numG (4 - (k + 1)) (n * 10 + ((x.toNat : Int) - 48)) (S.drop (p + (k + 1)))).2 + (k + 1)) = N by
              rw [← HM.out, HD.out, show 4 - k = (4 - (k + 1)) + 1 by omega, show p + k + 1 = p + (k + 1) by omega, hst]
              dsimp only; congr 1; omega)
            clear hst hdg
            go_wp2_with fail
            go_roundw
            case rel => exact ⟨_, k + 1, by first | rfl | go_num, by go_num, by omega, by omega, HS.out, J.out⟩
            case measure => simp [intOf]; omega
          · have u1 : decide ((x.toNat : Int) ≤ 57) = false := decide_eq_false (by omega)
            have u2 : decide (x.toNat ≤ 57) = false := decide_eq_false hhi
            have hdg : isDigit x = false := by unfold isDigit; rw [u2, Bool.and_false]
            have HE := Lib.hid (show N = (n, k) by rw [← HM.out, HD.out, numG_non _ _ hdg]; simp)
            rw [HE.out] at HR
            clear hdg
            go_wp2_with fail
            exact HR.out _ _ ⟨rfl, J.out⟩
        · have l1 : decide (48 ≤ (x.toNat : Int)) = false := decide_eq_false (by omega)
          have l2 : decide (48 ≤ x.toNat) = false := decide_eq_false hlo
          have l3 : decide ((x.toNat : Int) ≥ 48) = false := decide_eq_false (by omega)
          have l4 : decide (x.toNat ≥ 48) = false := decide_eq_false hlo
          have hdg : isDigit x = false := by unfold isDigit; rw [l2, Bool.false_and]
          have HE := Lib.hid (show N = (n, k) by rw [← HM.out, HD.out, numG_non _ _ hdg]; simp)
          rw [HE.out] at HR
          clear hdg
          go_wp2_with fail
          exact HR.out _ _ ⟨rfl, J.out⟩
      · obtain rfl : k = 4 := by omega
        have HE := Lib.hid (show N = (n, 4) by rw [← HM.out]; simp [numG])
        rw [HE.out] at HR
        go_wp2_with fail
        exact HR.out _ _ ⟨rfl, J.out⟩
    · have g1 : decide (((p + k : Nat) : Int) < (S.length : Int)) = false := decide_eq_false (by omega)
      have g2 : decide ((p : Int) + (k : Int) < (S.length : Int)) = false := decide_eq_false (by omega)
      have g3 : decide (p + k < S.length) = false := decide_eq_false (by omega)
      have HE := Lib.hid (show N = (n, k) by rw [← HM.out, List.drop_of_length_le (by omega), numG_nil]; simp)
      rw [HE.out] at HR
      go_wp2_with fail
      exact HR.out _ _ ⟨rfl, J.out⟩
end Go.Proofs.YthkcdoneghcglaaDoor
