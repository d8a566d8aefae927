import Derived.Test.YteommjbbjdbhkaaSlotsR
import Derived.Deep.DeepCutAuto
set_option linter.unusedSimpArgs false
set_option linter.unusedVariables false
namespace Go.Proofs.Yteommjbbjdbhkaa
open Go Go.RowKit
theorem dmod' (n k : Int) (hk : 0 < k) : 0 ≤ (IntKind.u64.wrap n).tmod k ∧ (IntKind.u64.wrap n).tmod k < k := by
  have h : 0 ≤ IntKind.u64.wrap n := (u64wrap_nonneg n).1
  rw [Int.tmod_eq_emod_of_nonneg h]
  exact ⟨Int.emod_nonneg _ (by omega), Int.emod_lt_of_pos _ hk⟩
set_option maxRecDepth 100000 in
set_option maxHeartbeats 4000000 in
theorem slotsAgain_walk (n' : Int) (a1 : Option Addr) (l1 c1 : Nat) (w : World) (hl1 : l1 ≤ 9223372036854775807) (h1 : Ints w a1 l1) :
    Calls Try.prog 3 #[.int .i64 n', .slice a1 l1 c1] w fun e w' => e = .returned (.bool true) ∧ Below w.heap.size w w' := by
  refine opq fun R HR => ?_
  have H1 := Lib.hid h1
  clear h1
  obtain ⟨K', hK'⟩ : ∃ K', wrap64 (2 + wrap64 ((IntKind.u64.wrap n').tmod 30)) = K' := ⟨_, rfl⟩
  have hKb : 2 ≤ K' ∧ K' ≤ 31 := by
    have := dmod' n' 30 (by omega)
    rw [← hK']; generalize (IntKind.u64.wrap n').tmod 30 = q at *; unfold wrap64; omega
  obtain ⟨n, rfl⟩ : ∃ n : Nat, K' = n := ⟨K'.toNat, by omega⟩
  have hnl : n ≤ 9223372036854775807 := by omega
  go_enter Try.func3, Try.ntmps3
  go_wp2_with fail
  refine (sawake_any _).mono ?_
  rintro e w1 ⟨rfl, M⟩
  have J1 := Lib.hid M
  clear M
  go_wp2_with fail
  rw [hK']
  clear hK'
  refine (new_any n _ (by omega)).mono ?_
  rintro e w2 ⟨P, g, rfl, hP, hg, hS, M⟩
  have hP' : w.heap.size ≤ P := by have := J1.out.size; omega
  have hg' : w.heap.size ≤ g := by have := J1.out.size; omega
  have J2 := Lib.hid (J1.out.same M)
  have J3 := Lib.hid hS
  clear hS M J1 hP hg
  go_wp2_with fail
  go_loopw [7] (fun i wr => ∃ (k : Nat) (f : Nat → Int), i = .int .i64 k ∧ k ≤ 60 ∧ St f n ∧ SL wr P g n f ∧ Same w wr) (fun i _ => 60 - (intOf i).toNat)
  case atStart => exact ⟨0, z0, rfl, by omega, fun i _ => by simp, J3.out, J2.out⟩
  case round =>
    clear J2 J3
    obtain ⟨k, f, rfl, hk, hst, hS, M⟩ := hrel
    have J1 := Lib.hid hS
    have J3 := Lib.hid M
    have HST := Lib.hid hst
    clear hS M hst
    by_cases hlt : k < l1 ∧ k < 60
    · obtain ⟨k1, k2⟩ := hlt
      obtain ⟨b1, o1, rfl, hb1, hc1⟩ := H1.out (by omega)
      obtain ⟨u, hu, _⟩ := hc1 k k1
      clear hc1
      rw [← J3.out.cell hb1 (fun q => q)] at hu
      have hk60 : ((k : Int) < 60) := by omega
      obtain ⟨X, hX⟩ : ∃ X, wrap64 ((IntKind.u64.wrap u).tmod 90) = X := ⟨_, rfl⟩
      have hXb : 0 ≤ X ∧ X ≤ 89 := by
        have := dmod' u 90 (by omega)
        rw [← hX]; generalize (IntKind.u64.wrap u).tmod 90 = q at *; unfold wrap64; omega
      go_upto_if 39 with fail
      rw [hX]
      clear hX
      have hn0 : ¬ (n : Int) = 0 := by omega
      have hn1 : (1 : Int) ≤ (n : Int) := by omega
      go_cut [] (fun wx => ∃ f' : Nat → Int, St f' n ∧ SL wx P g n f' ∧ Same w wx)
      case first =>
        by_cases h3 : X % 3 = 0
        · have b3 : (X % 3 == 0) = true := by rw [beq_iff_eq]; exact h3
          clear h3
          go_wp2_with fail
          refine (give_any P g n f _ _ J1.out hnl).mono ?_
          rintro e w4 ⟨rfl, hS4, M4⟩
          go_wp2_with fail
          go_meet
          exact ⟨_, st_give HST.out _, hS4, J3.out.then_ M4 (fun i h1 h2 => by omega)⟩
        · have b3 : (X % 3 == 0) = false := by rw [beq_eq_false_iff_ne]; exact h3
          clear h3
          by_cases h4 : X % 3 = 1
          · have b4 : (X % 3 == 1) = true := by rw [beq_iff_eq]; exact h4
            clear h4
            go_wp2_with fail
            refine (Take_any P g n f _ J1.out hnl).mono ?_
            rintro e w4 ⟨rfl, hS4, M4⟩
            go_wp2_with fail
            go_meet
            exact ⟨_, st_take HST.out _, hS4, J3.out.then_ M4 (fun i h1 h2 => by omega)⟩
          · have b4 : (X % 3 == 1) = false := by rw [beq_eq_false_iff_ne]; exact h4
            clear h4
            go_wp2_with fail
            refine (Move_any P g n f _ J1.out hnl).mono ?_
            rintro e w4 ⟨rfl, hS4, M4⟩
            go_wp2_with fail
            go_meet
            exact ⟨_, st_take HST.out _, hS4, J3.out.then_ M4 (fun i h1 h2 => by omega)⟩
      case rest =>
        obtain ⟨f', hst, hS, M⟩ := hcut
        clear J1 J3 HST hu
        have J1 := Lib.hid hS
        have J3 := Lib.hid M
        have A1 := again1 hst
        have A2 := again2 hst
        have A3 := Lib.hid (again3 (f := f') (n := n))
        have HST := Lib.hid hst
        clear hS M hst
        by_cases h60 : 60 < X
        · go_wp2_with fail
          refine (commit_any P g n f' _ J1.out hnl).mono ?_
          have hle := usedL_le (comF f') n
          have G2 := fun (wz : World) (hz : SL wz P g n (comF f')) => used_any' P g n (comF f') wz hz (by omega)
          obtain ⟨m, hm⟩ : ∃ m, (usedL (comF f') n).length = m := ⟨_, rfl⟩
          rw [hm] at hle
          have AA := A1
          rw [hm] at A1 A2 A3
          simp only [hm] at G2
          rintro e w4 ⟨rfl, hS4, M4⟩
          have G2' := Lib.hid G2
          have L1 := Lib.hid hS4
          have L3 := Lib.hid (J3.out.then_ M4 (fun i h1 h2 => by omega))
          clear hS4 M4 J1 J3 hm G2 AA
          go_wp2_with fail
          refine (G2'.out _ L1.out).mono ?_
          rintro e w5 ⟨ua, uc, rfl, hur, M5⟩
          have hgw4 := L1.out.row.lt
          have HUR := Lib.hid hur
          have P1 := Lib.hid (L1.out.same M5)
          have P3 := Lib.hid (L3.out.same M5)
          clear hur M5 L1 L3 G2'
          obtain ⟨a11, a12⟩ := A1
          obtain ⟨a21, a22⟩ := A2
          have d1 := Lib.hid (waits_any P g n _ _ P1.out hnl)
          have d2 := Lib.hid (free_any P g n _ _ P1.out hnl)
          have hcf := cnt_le (comF f') 0 n
          rw [a11] at d1
          generalize hcf0 : cnt (comF f') 0 n = c0 at *
          clear hcf0
          go_wp2_with fail
          refine d1.out.mono ?_
          rintro e w6 ⟨rfl, rfl⟩
          go_wp2_with fail
          refine d2.out.mono ?_
          rintro e w6 ⟨rfl, rfl⟩
          have hsum : (c0 : Int) + (m : Int) = (n : Int) := by omega
          have HSUM := Lib.hid hsum
          go_wp2_with fail
          refine (commit_any P g n _ _ P1.out hnl).mono ?_
          rintro e w6 ⟨rfl, hS6, M6⟩
          have Q1 := Lib.hid hS6
          have Q3 := Lib.hid (P3.out.then_ M6 (fun i h1 h2 => by omega))
          have HM6 := Lib.hid M6
          clear hS6 M6 d1 d2 P3
          have d1 := Lib.hid (waits_any P g n _ _ Q1.out hnl)
          have d2 := Lib.hid (used_any' P g n _ _ Q1.out (by omega))
          have d3 := Lib.hid (fun wz (hz : SL wz P g n (comF (comF f'))) => free_any P g n _ wz hz hnl)
          rw [a21] at d1
          rw [a22] at d2
          have A4 := fun (u : Nat) (h1 : u < n) (h2 : comF (comF f') u = 2) => again4 (g := comF (comF f')) h1 h2 a21
          have A4' := Lib.hid A4
          clear A4 a21 a22 a11 a12
          go_wp2_with fail
          refine d1.out.mono ?_
          rintro e w7 ⟨rfl, rfl⟩
          go_wp2_with fail
          refine d2.out.mono ?_
          rintro e w7 ⟨ua2, uc2, rfl, _, M7⟩
          have S1 := Lib.hid (Q1.out.same M7)
          have S3 := Lib.hid (Q3.out.same M7)
          by_cases hm0 : m = 0
          · subst hm0
            clear M7
            go_wp2
            go_roundw
            case rel => exact ⟨k + 1, _, by go_num, by omega, st_com (st_com HST.out), S1.out, S3.out⟩
            case measure => simp [intOf]; omega
          · have hmp : 0 < m := by omega
            obtain ⟨g', rfl, hg'4, hrow⟩ := HUR.out hmp
            have hne : ¬ g' = g := by omega
            obtain ⟨hu0, hu2⟩ := A3.out hmp
            have hg5 := hrow.lt
            have hrow0 : w5.cell? ⟨g', 0, none⟩ = some (.int .i64 ((usedL (comF f') n).getD 0 0 : Nat)) := hrow.cell 0 hmp
            clear hrow
            generalize (usedL (comF f') n).getD 0 0 = u0 at *
            have hg6 : g' < w6.heap.size := Nat.lt_of_lt_of_le hg5 HM6.out.size
            have hc7 := (M7.cell hg6 (fun q => q) 0).trans ((HM6.out.cell hg5 hne 0).trans hrow0)
            have hg7 : g' < w7.heap.size := Nat.lt_of_lt_of_le hg6 M7.size
            obtain ⟨e1, e2, e3, e4, e5, e6, e7, e8⟩ := A4'.out u0 hu0 hu2
            have hst3 : St (comF (upd (comF (comF f')) u0 3)) n := st_com (st_upd (st_com (st_com HST.out)) u0 3 (by omega))
            have T1 := fun wz (hz : SL wz P g n (comF (comF f'))) => give_any P g n _ (u0 : Int) wz hz hnl
            have T2 := fun wz (hz : SL wz P g n (upd (comF (comF f')) u0 3)) => waits_any P g n _ wz hz hnl
            have T3 := fun wz (hz : SL wz P g n (upd (comF (comF f')) u0 3)) => free_any P g n _ wz hz hnl
            have T4 := fun wz (hz : SL wz P g n (upd (comF (comF f')) u0 3)) => give_any P g n _ (u0 : Int) wz hz hnl
            have T5 := fun wz (hz : SL wz P g n (comF (upd (comF (comF f')) u0 3))) => waits_any P g n _ wz hz hnl
            have T6 := fun wz (hz : SL wz P g n (comF (upd (comF (comF f')) u0 3))) => free_any P g n _ wz hz hnl
            have T7 := fun wz (hz : SL wz P g n (upd (comF (comF f')) u0 3)) => commit_any P g n _ wz hz hnl
            rw [e1, e2] at T1
            rw [e3] at T2
            rw [e4] at T3
            rw [e5, e6] at T4
            rw [e7] at T5
            rw [e8] at T6
            have hc2 := cnt_le (comF (comF f')) 0 n
            clear M7 hrow0 hg5 hg6 hg'4 e1 e2 e3 e4 e5 e6 e7 e8 hu2
            generalize cnt (comF (comF f')) 0 n = c2 at *
            generalize upd (comF (comF f')) u0 3 = G3 at *
            generalize comF G3 = G4 at *
            have t1 := Lib.hid T1
            have t2 := Lib.hid T2
            have t3 := Lib.hid T3
            have t4 := Lib.hid T4
            have t5 := Lib.hid T5
            have t6 := Lib.hid T6
            have t7 := Lib.hid T7
            have HST4 := Lib.hid hst3
            clear T1 T2 T3 T4 T5 T6 T7 hst3
            have hm1 : (0 : Int) < (m : Int) := by omega
            go_wp2_with fail
            refine (d3.out _ S1.out).mono ?_
            rintro e w8 ⟨rfl, rfl⟩
            go_wp2_with fail
            refine (t1.out _ S1.out).mono ?_
            rintro e w8 ⟨rfl, hS8, M8⟩
            have U1 := Lib.hid hS8
            have U3 := Lib.hid (S3.out.then_ M8 (fun i h1 h2 => by omega))
            have hc8 := (M8.cell hg7 hne 0).trans hc7
            clear hS8 M8 hc7
            go_wp2_with fail
            refine (t2.out _ U1.out).mono ?_
            rintro e w9 ⟨rfl, rfl⟩
            go_wp2_with fail
            refine (t3.out _ U1.out).mono ?_
            rintro e w9 ⟨rfl, rfl⟩
            go_wp2_with fail
            refine (t4.out _ U1.out).mono ?_
            rintro e w9 ⟨rfl, hS9, M9⟩
            have V1 := Lib.hid hS9
            have V3 := Lib.hid (U3.out.then_ M9 (fun i h1 h2 => by omega))
            clear hS9 M9 hc8
            go_wp2_with fail
            refine (t7.out _ V1.out).mono ?_
            rintro e w10 ⟨rfl, hS10, M10⟩
            have X1 := Lib.hid hS10
            have X3 := Lib.hid (V3.out.then_ M10 (fun i h1 h2 => by omega))
            clear hS10 M10
            go_wp2_with fail
            refine (t5.out _ X1.out).mono ?_
            rintro e w11 ⟨rfl, rfl⟩
            go_wp2_with fail
            refine (t6.out _ X1.out).mono ?_
            rintro e w11 ⟨rfl, rfl⟩
            go_wp2
            go_roundw
            case rel => exact ⟨k + 1, _, by go_num, by omega, HST4.out, X1.out, X3.out⟩
            case measure => simp [intOf]; omega
        · go_wp2
          go_roundw
          case rel => exact ⟨k + 1, f', by go_num, by omega, HST.out, J1.out, J3.out⟩
          case measure => simp [intOf]; omega
    · go_wp2
      all_goals exact HR.out _ _ ⟨rfl, Same.below J3.out⟩
end Go.Proofs.Yteommjbbjdbhkaa
