import Derived.Test.YtifkdjecdmmegaaDiceE
set_option linter.unusedSimpArgs false
set_option linter.unusedVariables false
namespace Go.Proofs.Ytifkdjecdmmegaa
open Go Go.RowKit
def Ints (w : World) (a : Option Addr) (len : Nat) : Prop := 0 < len → ∃ b o, a = some ⟨b, o, none⟩ ∧ b < w.heap.size ∧ ∀ i, i < len → ∃ z, w.cell? ⟨b, o + i, none⟩ = some (.int .i64 z) ∧ (Lit.int .i64 z).wf = true
theorem du64 (n : Int) : 0 ≤ IntKind.u64.wrap n ∧ IntKind.u64.wrap n ≤ 18446744073709551615 := by
  unfold IntKind.wrap; simp [IntKind.bits, IntKind.signed]; omega
theorem dmod (n k : Int) (hk : 0 < k) : 0 ≤ (IntKind.u64.wrap n).tmod k ∧ (IntKind.u64.wrap n).tmod k < k := by
  have h := du64 n
  rw [Int.tmod_eq_emod_of_nonneg h.1]
  exact ⟨Int.emod_nonneg _ (by omega), Int.emod_lt_of_pos _ hk⟩
theorem weigh2 (n t : Int) (h : 2 ≤ n ∧ n ≤ 1000) : weighV (fun i => if i = 0 then (0 : Int) else n) 2 t = 1 ∧ weighS (fun i => if i = 0 then (0 : Int) else n) 2 t = stF t := by
  have h1 : sumW (fun i => if i = 0 then (0 : Int) else n) 1 = 0 := rfl
  have h2 : sumW (fun i => if i = 0 then (0 : Int) else n) 2 = n := by show (0 + cwF 0) + cwF n = n; unfold cwF; omega
  unfold weighV weighS
  rw [h2, if_neg (by omega), if_neg (by omega)]
  have hb := belV_bd n t
  refine ⟨?_, by unfold belS; rw [if_neg (by omega)]⟩
  show (if belV n t < sumW (fun i => if i = 0 then (0 : Int) else n) (0 + 1) then ((0 : Nat) : Int) else if belV n t < sumW (fun i => if i = 0 then (0 : Int) else n) (0 + 1 + 1) then ((0 + 1 : Nat) : Int) else -1) = 1
  rw [show (0 + 1 : Nat) = 1 from rfl, show (1 + 1 : Nat) = 2 from rfl, h1, h2, if_neg (by omega), if_pos (by omega)]
  rfl
set_option maxRecDepth 100000 in
set_option maxHeartbeats 4000000 in
theorem diceOne_walk (s : Int) (a1 : Option Addr) (l1 c1 : Nat) (w : World) (hs : U64 s) (hl1 : l1 ≤ 9223372036854775807) (h1 : Ints w a1 l1) :
    Calls Try.prog 11 #[.int .u64 s, .slice a1 l1 c1] w fun e w' => e = .returned (.bool true) ∧ Below w.heap.size w w' := by
  refine opq fun R HR => ?_
  have H1 := Lib.hid h1
  clear h1
  go_enter Try.func11, Try.ntmps11
  go_wp2_with fail
  refine (dawake_any _).mono ?_
  rintro e w1 ⟨rfl, M⟩
  go_wp2_with fail
  refine (dnew_any _ _).mono ?_
  rintro e w2 ⟨ga, rfl, hga, hA, M2⟩
  have hga' : w.heap.size ≤ ga := by have := M.size; omega
  replace M := M.same M2
  clear M2 hga
  go_wp2_with fail
  refine (dnew_any _ _).mono ?_
  rintro e w3 ⟨gb, rfl, hgb, hB, M2⟩
  have hgb' : ga < gb := by have := hA.lt; omega
  replace hA := hA.mod M2 (fun q => q)
  replace M := M.same M2
  have hne : ¬ ga = gb := by omega
  have hne' : ¬ gb = ga := by omega
  clear M2 hgb
  go_wp2_with fail
  go_loopw [7, 8, 9] (fun i _ _ wr => ∃ (t : Int) (k : Nat), i = .int .i64 k ∧ k ≤ 60 ∧ U64 t ∧ DS wr ga t ∧ DS wr gb t ∧ Same w wr) (fun i _ _ _ => 60 - (intOf i).toNat)
  case atStart => exact ⟨s, 0, rfl, by omega, hs, hA, hB, M⟩
  case round =>
    clear hA hB M
    obtain ⟨t, k, rfl, hk, ht, hA, hB, M⟩ := hrel
    by_cases hlt : k < l1 ∧ k < 60
    · obtain ⟨k1, k2⟩ := hlt
      obtain ⟨b1, o1, rfl, hb1, hc1⟩ := H1.out (by omega)
      obtain ⟨u, hu, _⟩ := hc1 k k1
      clear hc1
      rw [← M.cell hb1 (fun q => q)] at hu
      have hk60 : ((k : Int) < 60) := by omega
      have hb1w : b1 < wr.heap.size := Nat.lt_of_lt_of_le hb1 M.size
      obtain ⟨N, hN⟩ : ∃ N, wrap64 (2 + wrap64 ((IntKind.u64.wrap u).tmod 100)) = N := ⟨_, rfl⟩
      have hNb : 2 ≤ N ∧ N ≤ 101 := by
        have := dmod u 100 (by omega)
        rw [← hN]; generalize (IntKind.u64.wrap u).tmod 100 = q at *; unfold wrap64; omega
      have h3 := dmod u 3 (by omega)
      have hmx := mixF_u (stF t)
      have hbel : belV N t = mixF (stF t) % N := if_neg (by omega)
      have hbs : belS N t = stF t := if_neg (by omega)
      have hst := stF_u t
      have hbb := belV_bd N t
      rw [hbel] at hbb
      have HT1 := fun (wz : World) (hz : DS wz ga t) => dbelow_any ga t N wz hz ht (by omega)
      have HT2 := fun (wz : World) (hz : DS wz ga t) => dchance_any ga t 1 N wz hz ht (by omega)
      have HT3 := fun (wz : World) (hz : DS wz ga t) => dweigh_any ga t (some ⟨wz.heap.size, 0, none⟩) 2 2 _ _ (hz.alloc _) ht (by omega) (ints2 wz ga hz.lt 0 N)
      rw [hbel, hbs] at HT1 HT2
      have hwg := (weigh2 N t (by omega))
      rw [hwg.1, hwg.2] at HT3
      clear hwg
      have HN0 := dnext_any gb t wr hB ht
      clear hbel hbs
      generalize mixF (stF t) = x at *
      generalize stF t = t' at *
      have hdec : decide (x % N < 1) = (x % N == 0) := by
        have := Int.emod_nonneg (x) (by omega : N ≠ 0)
        rw [Bool.eq_iff_iff, decide_eq_true_eq, beq_iff_eq]; omega
      rw [hdec] at HT2
      clear hdec
      have hww : wrap64 (x % N) = x % N := wrap64_in' (by omega)
      have hwi : IntKind.i64.wrap (x % N) = x % N := IntWalk.i64_in _ (by omega)
      have hzn2 : ¬ N = 0 := by omega
      have hzn : (N == 0) = false := by rw [beq_eq_false_iff_ne]; omega
      have hun : IntKind.u64.wrap N = N := IntWalk.u64_in _ (by omega)
      have htm : x.tmod N = x % N := Int.tmod_eq_emod_of_nonneg hmx.1
      have J1 := Lib.hid hA
      have J2 := Lib.hid M
      have J3 := Lib.hid HT1
      have J4 := Lib.hid HT2
      have J5 := Lib.hid HN0
      have J6 := Lib.hid hbb
      have J12 := Lib.hid HT3
      clear hA hB M HT1 HT2 HT3 HN0 hbb
      go_wp2_with fail
      rw [hN]
      refine J5.out.mono ?_
      rintro e w4 ⟨rfl, hB4, M4⟩
      have hu4 := (M4.cell hb1w (by omega) (o1 + k)).trans hu
      have J7 := Lib.hid (J1.out.mod M4 hne)
      have J8 := Lib.hid hB4
      have J9 := Lib.hid (J2.out.then_ M4 (fun i h1 h2 => by omega))
      clear J1 J2 J5 hu hB4 M4
      have hcs : (IntKind.u64.wrap u).tmod 3 = 0 ∨ (IntKind.u64.wrap u).tmod 3 = 1 ∨ (IntKind.u64.wrap u).tmod 3 = 2 := by omega
      clear h3
      rcases hcs with h3 | h3 | h3
      · go_wp2_with fail
        go_region_held3 (fun w' => DS w' gb t') (first | exact J8.out.drew | assumption | go_keep) ((
          go_at_call 34
          refine (J3.out _ J7.out.drew).mono ?_
          rintro e w5 ⟨rfl, hA5, M5⟩
          have hB5 := J8.out.drew.mod M5 hne'))
        have J10 := Lib.hid hA5
        have J11 := Lib.hid (J9.out.drew.then_ M5 (fun i h1 h2 => by omega))
        have J13 := Lib.hid hB5
        clear hA5 hB5 M5 hu4
        go_wp2
        go_roundw
        case rel => exact ⟨t', k + 1, by go_num, by omega, hst, J10.out, J13.out, J11.out⟩
        case measure => simp [intOf]; omega
      · go_wp2_with fail
        go_region_held3 (fun w' => DS w' gb t') (first | exact J8.out.drew | assumption | go_keep) ((
          go_at_call 36
          refine (J4.out _ J7.out.drew).mono ?_
          rintro e w5 ⟨rfl, hA5, M5⟩
          have hB5 := J8.out.drew.mod M5 hne'))
        have J10 := Lib.hid hA5
        have J11 := Lib.hid (J9.out.drew.then_ M5 (fun i h1 h2 => by omega))
        have J13 := Lib.hid hB5
        clear hA5 hB5 M5 hu4
        go_wp2
        go_roundw
        case rel => exact ⟨t', k + 1, by go_num, by omega, hst, J10.out, J13.out, J11.out⟩
        case measure => simp [intOf]; omega
      · go_wp2_with fail
        refine (J12.out _ J7.out).mono ?_
        rintro e w5 ⟨rfl, hA5, M5⟩
        have J10 := Lib.hid hA5
        have J11 := Lib.hid ((J9.out.alloc _).then_ M5 (fun i h1 h2 => by omega))
        have J13 := Lib.hid ((J8.out.alloc _).mod M5 hne')
        clear hA5 M5 hu4
        go_wp2
        go_roundw
        case rel => exact ⟨t', k + 1, by go_num, by omega, hst, J10.out, J13.out, J11.out⟩
        case measure => simp [intOf]; omega
    · have hst := stF_u t
      have HA1 := dnext_any ga t wr hA ht
      have HB1 := fun (wz : World) (hz : DS wz gb t) => dnext_any gb t wz hz ht
      generalize mixF (stF t) = x at *
      generalize stF t = t' at *
      have HC1 := fun (wz : World) (hz : DS wz ga t') => dbelow_any ga t' 1 wz hz hst (by omega)
      rw [show belV 1 t' = 0 from rfl, show belS 1 t' = t' from rfl] at HC1
      have HA2 := fun (wz : World) (hz : DS wz ga t') => dnext_any ga t' wz hz hst
      have HB2 := fun (wz : World) (hz : DS wz gb t') => dnext_any gb t' wz hz hst
      generalize mixF (stF t') = y at *
      generalize stF t' = t'' at *
      have J1 := Lib.hid HA1
      have J2 := Lib.hid HB1
      have J3 := Lib.hid HC1
      have J4 := Lib.hid HA2
      have J5 := Lib.hid HB2
      have J6 := Lib.hid hB
      have J7 := Lib.hid M
      clear HA1 HB1 HC1 HA2 HB2 hB hA M
      go_wp2_with fail
      all_goals
        refine J1.out.mono ?_
        rintro e w4 ⟨rfl, hA4, M4⟩
        have K1 := Lib.hid (J6.out.mod M4 hne')
        have K2 := Lib.hid hA4
        have K3 := Lib.hid (J7.out.then_ M4 (fun i h1 h2 => by omega))
        clear hA4 M4
        go_wp2_with fail
        refine (J2.out _ K1.out).mono ?_
        rintro e w5 ⟨rfl, hB5, M5⟩
        have K4 := Lib.hid hB5
        have K5 := Lib.hid (K2.out.mod M5 hne)
        have K6 := Lib.hid (K3.out.then_ M5 (fun i h1 h2 => by omega))
        clear hB5 M5 K1 K2 K3
        go_wp2_with fail
        refine (J3.out _ K5.out).mono ?_
        rintro e w6 ⟨rfl, hA6, M6⟩
        have K7 := Lib.hid hA6
        have K8 := Lib.hid (K4.out.mod M6 hne')
        have K9 := Lib.hid (K6.out.then_ M6 (fun i h1 h2 => by omega))
        clear hA6 M6 K4 K5 K6
        go_wp2_with fail
        refine (J4.out _ K7.out).mono ?_
        rintro e w7 ⟨rfl, hA7, M7⟩
        have L1 := Lib.hid (K8.out.mod M7 hne')
        have L2 := Lib.hid (K9.out.then_ M7 (fun i h1 h2 => by omega))
        clear hA7 M7 K7 K8 K9
        go_wp2_with fail
        refine (J5.out _ L1.out).mono ?_
        rintro e w8 ⟨rfl, hB8, M8⟩
        have L3 := Lib.hid (L2.out.then_ M8 (fun i h1 h2 => by omega))
        clear hB8 M8
        go_wp2
        exact HR.out _ _ ⟨rfl, Same.below L3.out⟩
end Go.Proofs.Ytifkdjecdmmegaa
