import Derived.Test.YthkpmmkddgjhmaaMillA
set_option linter.unusedSimpArgs false
set_option linter.unusedVariables false
namespace Go.Proofs.Ythkpmmkddgjhmaa
open Go Go.RowKit
theorem dretB {b b' : Bool} (h : b = b') : Ending.returned (.bool b) = .returned (.bool b') := by rw [h]
theorem dretI {b b' : Int} (h : b = b') : Ending.returned (.int .i64 b) = .returned (.int .i64 b') := by rw [h]
def cwF (n : Int) : Int := min (max n 0) 2147483647
theorem cw_cases (n : Int) : (n < 0 ∧ cwF n = 0) ∨ (0 ≤ n ∧ n ≤ 2147483647 ∧ cwF n = n) ∨ (2147483647 < n ∧ cwF n = 2147483647) := by unfold cwF; omega
theorem cw_bd (n : Int) : 0 ≤ cwF n ∧ cwF n ≤ 2147483647 := by unfold cwF; omega
theorem counted_any (n : Int) (w : World) : Calls Try.prog 20 #[.int .i64 n] w fun e w' => e = .returned (.int .i64 (cwF n)) ∧ w = w' := by
  refine opq fun R HR => ?_
  rcases cw_cases n with ⟨u1, hu⟩ | ⟨u1, u2, hu⟩ | ⟨u1, hu⟩
  all_goals
    rw [hu] at HR
    clear hu
    go_enter Try.func20, Try.ntmps20
    go_wp2
    exact HR.out _ _ ⟨rfl, rfl⟩
def sumW (zs : Nat → Int) : Nat → Int
  | 0 => 0
  | k + 1 => sumW zs k + cwF (zs k)
theorem sumW_bd (zs : Nat → Int) (k : Nat) : 0 ≤ sumW zs k ∧ sumW zs k ≤ 2147483647 * k := by
  induction k with
  | zero => simp [sumW]
  | succ k ih => have := cw_bd (zs k); simp only [sumW]; omega
def fa (zs : Nat → Int) (b : Int) : Nat → Nat → Int
  | _, 0 => -1
  | i, n + 1 => if b < sumW zs (i + 1) then i else fa zs b (i + 1) n
def weighV (zs : Nat → Int) (len : Nat) (s : Int) : Int := if sumW zs len = 0 then -1 else fa zs (belV (sumW zs len) s) 0 len
def weighS (zs : Nat → Int) (len : Nat) (s : Int) : Int := if sumW zs len = 0 then s else belS (sumW zs len) s
/-- A slice of ints that came in, with its values; not the die's block. -/
def IntsAt (w : World) (D : Nat) (a : Option Addr) (len : Nat) (zs : Nat → Int) : Prop := 0 < len → ∃ b o, a = some ⟨b, o, none⟩ ∧ b < w.heap.size ∧ b ≠ D ∧ ∀ i, i < len → w.cell? ⟨b, o + i, none⟩ = some (.int .i64 (zs i))
set_option maxHeartbeats 2000000 in
theorem dweigh_any (D : Nat) (s : Int) (a : Option Addr) (len cap : Nat) (zs : Nat → Int) (w : World) (h : DS w D s) (hs : U64 s) (hl : len ≤ 1000) (hz : IntsAt w D a len zs) :
    Calls Try.prog 13 #[dptr D, .slice a len cap] w (Dealt w D (.int .i64 (weighV zs len s)) (weighS zs len s)) := by
  refine opq fun R HR => ?_
  have HZ := Lib.hid hz
  have H := Lib.hid h
  clear h hz
  go_enter Try.func13, Try.ntmps13
  go_wp2_with fail
  go_loop [5, 13] (fun t i => ∃ k : Nat, k ≤ len ∧ i = .int .i64 k ∧ t = .int .i64 (sumW zs k)) (fun _ i => len - (intOf i).toNat)
  case atStart => exact ⟨0, by omega, rfl, rfl⟩
  case round =>
    obtain ⟨k, hk, rfl, rfl⟩ := hrel
    by_cases hlt : k < len
    · obtain ⟨b, o, rfl, hb, hbD, hc⟩ := HZ.out (by omega)
      have hck := hc k hlt
      clear hc
      have hsk := sumW_bd zs k
      have hcw := cw_bd (zs k)
      go_wp2_with (go_at_call 20; refine (counted_any _ _).mono ?_; rintro e w1 ⟨rfl, rfl⟩)
      go_round
      case rel => exact ⟨k + 1, by omega, by go_num, by simp [sumW]⟩
      case measure => simp [intOf]; omega
    · obtain rfl : k = len := by omega
      have hsk := sumW_bd zs k
      by_cases h0 : sumW zs k = 0
      · have e1 : weighV zs k s = -1 := if_pos h0
        have e2 : weighS zs k s = s := if_pos h0
        rw [e1, e2] at HR
        clear e1 e2
        have h0' : (sumW zs k == 0) = true := by simp [h0]
        clear h0
        go_wp2
        exact HR.out _ _ ⟨rfl, H.out, Mod.refl _ _⟩
      · have e1 : weighV zs k s = fa zs (belV (sumW zs k) s) 0 k := if_neg h0
        have e2 : weighS zs k s = belS (sumW zs k) s := if_neg h0
        rw [e1, e2] at HR
        clear e1 e2
        have h0' : (sumW zs k == 0) = false := by simp [h0]
        have hbb := belV_bd (sumW zs k) s
        have HT := Lib.hid (dbelow_any D s (sumW zs k) w H.out hs (by omega))
        generalize belV (sumW zs k) s = v at *
        generalize belS (sumW zs k) s = t at *
        have hvs : v < sumW zs k := by omega
        go_wp2_with fail
        refine HT.out.mono ?_
        rintro e w1 ⟨rfl, h1, M1⟩
        have J1 := Lib.hid h1
        have J2 := Lib.hid M1
        clear h1 M1 HT h0 h0'
        go_wp2_with fail
        go_loop [8, 29] (fun t i => ∃ j : Nat, j ≤ k ∧ i = .int .i64 j ∧ t = .int .i64 (v - sumW zs j) ∧ sumW zs j ≤ v ∧ fa zs v j (k - j) = fa zs v 0 k) (fun _ i => k - (intOf i).toNat)
        case atStart => exact ⟨0, by omega, rfl, by simp [sumW], by simp [sumW]; omega, rfl⟩
        case round =>
          obtain ⟨j, hj, rfl, rfl, hjv, hfa⟩ := hrel
          have HF := Lib.hid hfa
          clear hfa
          by_cases hlt2 : j < k
          · obtain ⟨b, o, rfl, hb, hbD, hc⟩ := HZ.out (by omega)
            have hck := (J2.out.cell hb hbD (o + j)).trans (hc j hlt2)
            clear hc
            have hsj := sumW_bd zs j
            have hcw := cw_bd (zs j)
            have hstep : fa zs v j (k - j) = if v < sumW zs (j + 1) then (j : Int) else fa zs v (j + 1) (k - (j + 1)) := by
              rw [show k - j = (k - (j + 1)) + 1 from by omega]; rfl
            have hsucc : sumW zs (j + 1) = sumW zs j + cwF (zs j) := rfl
            have HS := Lib.hid hstep
            have HU := Lib.hid hsucc
            clear hstep hsucc
            by_cases hv : v - sumW zs j - cwF (zs j) < 0
            · go_wp2_with (go_at_call 20; refine (counted_any _ _).mono ?_; rintro e w2 ⟨rfl, rfl⟩)
              refine HR.out _ _ ⟨?_, J1.out, J2.out⟩
              rw [← HF.out, HS.out, if_pos (by rw [HU.out]; omega)]
              rfl
            · go_wp2_with (go_at_call 20; refine (counted_any _ _).mono ?_; rintro e w2 ⟨rfl, rfl⟩)
              go_round
              case rel => exact ⟨j + 1, by omega, by go_num, by rw [HU.out]; congr 1; omega, by rw [HU.out]; omega, by rw [← HF.out, HS.out, if_neg (by rw [HU.out]; omega)]⟩
              case measure => simp [intOf]; omega
          · obtain rfl : j = k := by omega
            exfalso
            omega
set_option maxHeartbeats 2000000 in
theorem rdweigh_any (D : Nat) (s : Int) (a : Option Addr) (len cap : Nat) (zs : Nat → Int) (w : World) (h : DS w D s) (hs : U64 s) (hl : len ≤ 1000) (hz : IntsAt w D a len zs) :
    Calls Try.prog 15 #[dptr D, .slice a len cap] w (Dealt w D (.int .i64 (weighV zs len s)) (weighS zs len s)) := by
  refine opq fun R HR => ?_
  have HZ := Lib.hid hz
  have H := Lib.hid h
  clear h hz
  go_enter Try.func15, Try.ntmps15
  go_wp2_with fail
  go_loop [5, 6] (fun t i => ∃ k : Nat, k ≤ len ∧ i = .int .i64 k ∧ t = .int .i64 (sumW zs k)) (fun _ i => len - (intOf i).toNat)
  case atStart => exact ⟨0, by omega, rfl, rfl⟩
  case round =>
    obtain ⟨k, hk, rfl, rfl⟩ := hrel
    by_cases hlt : k < len
    · obtain ⟨b, o, rfl, hb, hbD, hc⟩ := HZ.out (by omega)
      have hck := hc k hlt
      clear hc
      have hsk := sumW_bd zs k
      rcases cw_cases (zs k) with ⟨u1, hu⟩ | ⟨u1, u2, hu⟩ | ⟨u1, hu⟩
      all_goals
        have HU := Lib.hid hu
        clear hu
        go_wp2
        go_round
        case rel => exact ⟨k + 1, by omega, by go_num, by simp [sumW, HU.out]⟩
        case measure => simp [intOf]; omega
    · obtain rfl : k = len := by omega
      have hsk := sumW_bd zs k
      by_cases h0 : sumW zs k = 0
      · have e1 : weighV zs k s = -1 := if_pos h0
        have e2 : weighS zs k s = s := if_pos h0
        rw [e1, e2] at HR
        clear e1 e2
        have h0' : (sumW zs k == 0) = true := by simp [h0]
        clear h0
        go_wp2
        exact HR.out _ _ ⟨rfl, H.out, Mod.refl _ _⟩
      · have e1 : weighV zs k s = fa zs (belV (sumW zs k) s) 0 k := if_neg h0
        have e2 : weighS zs k s = belS (sumW zs k) s := if_neg h0
        rw [e1, e2] at HR
        clear e1 e2
        have h0' : (sumW zs k == 0) = false := by simp [h0]
        have hbb := belV_bd (sumW zs k) s
        have HT := Lib.hid (rdbelow_any D s (sumW zs k) w H.out hs (by omega))
        generalize belV (sumW zs k) s = v at *
        generalize belS (sumW zs k) s = t at *
        have hvs : v < sumW zs k := by omega
        go_wp2_with fail
        refine HT.out.mono ?_
        rintro e w1 ⟨rfl, h1, M1⟩
        have J1 := Lib.hid h1
        have J2 := Lib.hid M1
        clear h1 M1 HT h0 h0'
        go_wp2_with fail
        go_loop [8, 9] (fun t i => ∃ j : Nat, j ≤ k ∧ i = .int .i64 j ∧ t = .int .i64 (sumW zs j) ∧ sumW zs j ≤ v ∧ fa zs v j (k - j) = fa zs v 0 k) (fun _ i => k - (intOf i).toNat)
        case atStart => exact ⟨0, by omega, rfl, by simp [sumW], by simp [sumW]; omega, rfl⟩
        case round =>
          obtain ⟨j, hj, rfl, rfl, hjv, hfa⟩ := hrel
          have HF := Lib.hid hfa
          clear hfa
          by_cases hlt2 : j < k
          · obtain ⟨b, o, rfl, hb, hbD, hc⟩ := HZ.out (by omega)
            have hck := (J2.out.cell hb hbD (o + j)).trans (hc j hlt2)
            clear hc
            have hsj := sumW_bd zs j
            have hcw := cw_bd (zs j)
            have hstep : fa zs v j (k - j) = if v < sumW zs (j + 1) then (j : Int) else fa zs v (j + 1) (k - (j + 1)) := by
              rw [show k - j = (k - (j + 1)) + 1 from by omega]; rfl
            have hsucc : sumW zs (j + 1) = sumW zs j + cwF (zs j) := rfl
            have HS := Lib.hid hstep
            have HU := Lib.hid hsucc
            clear hstep hsucc
            rcases cw_cases (zs j) with ⟨u1, hu⟩ | ⟨u1, u2, hu⟩ | ⟨u1, hu⟩
            all_goals
              rw [hu] at HU
              clear hu hcw
              by_cases hv : v < sumW zs (j + 1)
              · have hv' := hv
                rw [HU.out] at hv
                have HV := Lib.hid hv'
                clear hv'
                try simp only [Int.add_zero] at hv
                go_wp2
                refine HR.out _ _ ⟨?_, J1.out, J2.out⟩
                rw [← HF.out, HS.out, if_pos HV.out]
              · have hv' := hv
                rw [HU.out] at hv
                have HV := Lib.hid hv'
                clear hv'
                try simp only [Int.add_zero] at hv
                go_wp2
                go_round
                case rel => exact ⟨j + 1, by omega, by go_num, by rw [HU.out]; try simp, by have := HV.out; omega, by rw [← HF.out, HS.out, if_neg HV.out]⟩
                case measure => simp [intOf]; omega
          · obtain rfl : j = k := by omega
            exfalso
            omega
end Go.Proofs.Ythkpmmkddgjhmaa
