import Derived.Test.YtifkdjecdmmegaaDiceG
import Derived.Test.YtifkdjecdmmegaaDiceH
set_option linter.unusedSimpArgs false
set_option linter.unusedVariables false
namespace Go.Proofs.Ytifkdjecdmmegaa
open Go Go.RowKit
theorem info4 : (Try.prog.info? 4).map (fun i => (i.zero, i.size, i.bytes)) = some (some (.bool false), 1, 1) := by kernel_rfl
theorem madeB_get (n i : Nat) (h : i < n) : (madeCells (Value.cells (.bool false)) n).toList.getD i undef = .bool false := by
  rw [List.getD_eq_getElem?_getD, Array.getElem?_toList]
  simp [madeCells, Value.cells, h, Nat.mod_one]
set_option maxRecDepth 100000 in
set_option maxHeartbeats 4000000 in
theorem diceBounds_walk (s n : Int) (a1 : Option Addr) (l1 c1 : Nat) (zs : Nat → Int) (w : World) (hs : U64 s) (hl1 : l1 ≤ 9223372036854775807) (h1 : IntsZ w a1 l1 zs) :
    Calls Try.prog 10 #[.int .u64 s, .int .i64 n, .slice a1 l1 c1] w fun e w' => e = .returned (.bool true) ∧ Below w.heap.size w w' := by
  refine opq fun R HR => ?_
  have H1 := Lib.hid h1
  clear h1
  by_cases h40 : 40 < l1
  · go_enter Try.func10, Try.ntmps10
    go_wp2_with fail
    refine (dawake_any _).mono ?_
    rintro e w1 ⟨rfl, M⟩
    have L := Lib.hid M
    clear M
    go_wp2
    exact HR.out _ _ ⟨rfl, Same.below L.out⟩
  · obtain ⟨K', hK'⟩ : ∃ K', wrap64 ((IntKind.u64.wrap n).tmod 200) = K' := ⟨_, rfl⟩
    have hKb : 0 ≤ K' ∧ K' ≤ 199 := by
      have := dmod' n 200 (by omega)
      rw [← hK']; generalize (IntKind.u64.wrap n).tmod 200 = q at *; unfold wrap64; omega
    obtain ⟨K, rfl⟩ : ∃ K : Nat, K' = K := ⟨K'.toNat, by omega⟩
    obtain ⟨i0, hi, hz0, hz1, hz2⟩ := info_parts info4
    have hz2' : i0.bytes * K ≤ 281474976710656 := by rw [hz2]; omega
    have hmx : K ≤ maxLen := by unfold maxLen; omega
    have HI := Lib.hid hi
    have HZ0 := Lib.hid hz0
    have HZ1 := Lib.hid hz1
    have HZ2 := Lib.hid hz2'
    clear hi hz0 hz1 hz2 hz2'
    go_enter Try.func10, Try.ntmps10
    go_wp2_with fail
    refine (dawake_any _).mono ?_
    rintro e w1 ⟨rfl, M⟩
    go_wp2_with fail
    refine (dnew_any _ _).mono ?_
    rintro e w2 ⟨ga, rfl, hga, hA, M2⟩
    have hga' : w.heap.size ≤ ga := by have := M.size; omega
    replace M := M.same M2
    clear M2 hga
    go_wp2_with fail
    refine (dnew_any _ _).mono ?_
    rintro e w3 ⟨gb, rfl, hgb, hB, M2⟩
    have hgb' : ga < gb := by have := hA.lt; omega
    replace hA := hA.mod M2 (fun q => q)
    replace M := M.same M2
    have hne : ¬ ga = gb := by omega
    have hne' : ¬ gb = ga := by omega
    clear M2 hgb
    go_wp2_with fail
    rw [hK']
    clear hK'
    go_loopw [10, 11] (fun i _ wr => ∃ (t : Int) (k : Nat), i = .int .i64 k ∧ k ≤ 20 ∧ U64 t ∧ DS wr ga t ∧ DS wr gb t ∧ Same w wr) (fun i _ _ => 20 - (intOf i).toNat)
    case atStart => exact ⟨s, 0, rfl, by omega, hs, hA, hB, M⟩
    case round =>
      clear hA hB M
      obtain ⟨t, k, rfl, hk, ht, hA, hB, M⟩ := hrel
      by_cases hk20 : (k : Int) < 20
      · have hbd := belV_bd K t
        have ht' := belS_u K t ht
        have HT1 := Lib.hid (dbelow_any ga t K wr hA ht (by omega))
        have HT2 := Lib.hid (fun (wz : World) (hz : DS wz gb t) => dbelow_any gb t K wz hz ht (by omega))
        generalize belV K t = v at *
        generalize belS K t = t' at *
        have J2 := Lib.hid hB
        have J3 := Lib.hid M
        clear hA hB M
        have hv0 : 0 ≤ v := hbd.1
        have hv1 : K < 1 → v < 1 := by omega
        have hv2 : 1 ≤ K → v < K := by omega
        clear hbd
        by_cases hK1 : (K : Int) < 1
        · have hv3 : v < 1 := by omega
          clear hv1 hv2
          go_wp2_with fail
          refine HT1.out.mono ?_
          rintro e w4 ⟨rfl, hA4, M4⟩
          have L1 := Lib.hid hA4
          have L2 := Lib.hid (J2.out.mod M4 hne')
          have L3 := Lib.hid (J3.out.then_ M4 (fun i h1 h2 => by omega))
          clear hA4 M4
          go_wp2_with fail
          refine (HT2.out _ L2.out).mono ?_
          rintro e w5 ⟨rfl, hB5, M5⟩
          have P1 := Lib.hid (L1.out.mod M5 hne)
          have P2 := Lib.hid hB5
          have P3 := Lib.hid (L3.out.then_ M5 (fun i h1 h2 => by omega))
          clear hB5 M5
          go_wp2
          go_roundw
          case rel => exact ⟨t', k + 1, by go_num, by omega, ht', P1.out, P2.out, P3.out⟩
          case measure => simp [intOf]; omega
        · have hv3 : v < K := by omega
          clear hv1 hv2
          go_wp2_with fail
          refine HT1.out.mono ?_
          rintro e w4 ⟨rfl, hA4, M4⟩
          have L1 := Lib.hid hA4
          have L2 := Lib.hid (J2.out.mod M4 hne')
          have L3 := Lib.hid (J3.out.then_ M4 (fun i h1 h2 => by omega))
          clear hA4 M4
          go_wp2_with fail
          refine (HT2.out _ L2.out).mono ?_
          rintro e w5 ⟨rfl, hB5, M5⟩
          have P1 := Lib.hid (L1.out.mod M5 hne)
          have P2 := Lib.hid hB5
          have P3 := Lib.hid (L3.out.then_ M5 (fun i h1 h2 => by omega))
          clear hB5 M5
          go_wp2
          go_roundw
          case rel => exact ⟨t', k + 1, by go_num, by omega, ht', P1.out, P2.out, P3.out⟩
          case measure => simp [intOf]; omega
      · have J1 := Lib.hid hA
        have J2 := Lib.hid hB
        have J3 := Lib.hid M
        clear hA hB M
        rcases weigh_spec zs l1 t with ⟨hv, hp⟩ | ⟨j, hj, hv, hzj, hp⟩
        · skip
          have HW1 := Lib.hid (fun (wz : World) (hz : DS wz ga t) (M : Same w wz) => dweigh_any ga t a1 l1 c1 zs wz hz ht (by omega) (H1.out.at_ M hga'))
          have HW2 := Lib.hid (fun (wz : World) (hz : DS wz gb t) (M : Same w wz) => dweigh_any gb t a1 l1 c1 zs wz hz ht (by omega) (H1.out.at_ M (by omega)))
          have ht' : U64 (weighS zs l1 t) := by unfold weighS; split; exact ht; exact belS_u _ _ ht
          rw [hv] at HW1 HW2
          generalize weighS zs l1 t = t' at *
          have HP := Lib.hid hp
          clear hv hp
          go_wp2_with fail
          refine (HW1.out _ J1.out J3.out).mono ?_
          rintro e w4 ⟨rfl, hA4, M4⟩
          have L1 := Lib.hid hA4
          have L2 := Lib.hid (J2.out.mod M4 hne')
          have L3 := Lib.hid (J3.out.then_ M4 (fun i h1 h2 => by omega))
          clear hA4 M4 J1 J2 J3
          go_wp2_with fail
          refine (HW2.out _ L2.out L3.out).mono ?_
          rintro e w5 ⟨rfl, hB5, M5⟩
          have P1 := Lib.hid (L1.out.mod M5 hne)
          have P3 := Lib.hid (L3.out.then_ M5 (fun i h1 h2 => by omega))
          clear hB5 M5 L1 L2 L3 HW1 HW2
          go_wp2_with fail
          go_loop [13, 14] (fun x i => ∃ k : Nat, k ≤ l1 ∧ i = .int .i64 k ∧ x = .bool (posB zs k)) (fun _ i => l1 - (intOf i).toNat)
          case atStart => exact ⟨0, by omega, rfl, rfl⟩
          case round =>
            obtain ⟨k, hk, rfl, rfl⟩ := hrel
            by_cases hlt : k < l1
            · obtain ⟨b1', o1', hee, hb1', hc1⟩ := H1.out (by omega)
              subst hee
              have hck := (P3.out.cell hb1' (fun q => q) (o1' + k)).trans (hc1 k hlt)
              clear hc1
              have hps : posB zs (k + 1) = (posB zs k || decide (0 < zs k)) := rfl
              rcases hpk : posB zs k with _ | _
              all_goals
                rw [hpk] at hps
                have HPS := Lib.hid hps
                clear hps hpk
                go_wp2
                go_round
                case rel => exact ⟨k + 1, by omega, by go_num, by rw [HPS.out]; simp⟩
                case measure => simp [intOf]; omega
            · obtain rfl : k = l1 := by omega
              rw [HP.out]
              by_cases hK0 : K = 0
              · subst hK0
                go_wp2_with fail
                refine (dshuffle_low ga t' _ _ P1.out (by omega)).mono ?_
                rintro e w6 ⟨a6, c6, rfl, _, hA6, M6⟩
                have Q1 := Lib.hid hA6
                have Q3 := Lib.hid (P3.out.then_ M6 (fun i h1 h2 => by omega))
                clear hA6 M6
                go_wp2_with (at_make; refine wpList_make_full w6 rfl _ _ 35 rfl w6.heap.size 4 i0 (.bool false) 1 Try.underlying35 HI.out HZ0.out HZ1.out .i64 .i64 _ _ 0 rfl rfl rfl rfl HZ2.out (Nat.zero_le _) (Nat.le_refl _) ?_; intro w7 hown hgrow)
                have S1 := Lib.hid (Q1.out.mod ((Mod.refl (fun _ => False) w6).grown hgrow (fun k hk => by cases hk)) (fun q => q))
                have S3 := Lib.hid (Q3.out.grown hgrow (fun k hk => by cases hk))
                clear hown hgrow Q1 Q3
                go_wp2_with fail
                refine wp_loop_rounds 1 ?_
                rw [rounds_succ]
                go_wp2_with fail
                have hb7 := belV_bd 7 t'
                have HC1 := Lib.hid (dchance_any ga t' 0 7 _ S1.out ht' (by omega))
                have HC2 := Lib.hid (fun (wz : World) (hz : DS wz ga (belS 7 t')) => dchance_any ga (belS 7 t') 7 7 wz hz (belS_u _ _ ht') (by omega))
                have hb8 := belV_bd 7 (belS 7 t')
                generalize belV 7 (belS 7 t') = v2 at *
                generalize belV 7 t' = v1 at *
                generalize belS 7 (belS 7 t') = s2 at *
                generalize belS 7 t' = s1 at *
                have hv1 : decide (v1 < 0) = false := by rw [decide_eq_false_iff_not]; omega
                have hv2 : decide (v2 < 7) = true := by rw [decide_eq_true_eq]; omega
                clear hb7 hb8
                go_wp2_with fail
                refine HC1.out.mono ?_
                rintro e w8 ⟨rfl, hA8, M8⟩
                have U1 := Lib.hid hA8
                have U3 := Lib.hid (S3.out.then_ M8 (fun i h1 h2 => by omega))
                clear hA8 M8
                go_wp2_with fail
                refine (HC2.out _ U1.out).mono ?_
                rintro e w9 ⟨rfl, hA9, M9⟩
                have U4 := Lib.hid (U3.out.then_ M9 (fun i h1 h2 => by omega))
                clear hA9 M9
                go_wp2
                exact HR.out _ _ ⟨rfl, Same.below U4.out⟩
              · have hpm := perm_run (m := K) (K - 1) (iotaF, t') (by omega) (perm_iota K)
                have hut := shRun_u (K - 1) (iotaF, t') ht'
                have HSH := Lib.hid (dshuffle_any ga t' K _ P1.out ht' (by omega))
                generalize (shRun (K - 1) (iotaF, t')).1 = f at *
                generalize (shRun (K - 1) (iotaF, t')).2 = t'' at *
                have HPM := Lib.hid hpm
                clear hpm
                go_wp2_with fail
                refine HSH.out.mono ?_
                rintro e w6 ⟨a6, c6, rfl, hr6, hA6, M6⟩
                obtain ⟨g6, rfl, hg6, hR6⟩ := hr6 (by omega)
                have Q1 := Lib.hid hA6
                have Q2 := Lib.hid hR6
                have Q3 := Lib.hid (P3.out.then_ M6 (fun i h1 h2 => by omega))
                clear hA6 M6 hR6 hg6
                go_wp2_with (at_make; refine wpList_make_full w6 rfl _ _ 35 rfl w6.heap.size 4 i0 (.bool false) 1 Try.underlying35 HI.out HZ0.out HZ1.out .i64 .i64 _ _ K rfl rfl rfl rfl HZ2.out hmx (Nat.le_refl _) ?_; intro w7 hown hgrow)
                have S1 := Lib.hid (Q1.out.mod ((Mod.refl (fun _ => False) w6).grown hgrow (fun k hk => by cases hk)) (fun q => q))
                have S2 := Lib.hid (Q2.out.mod ((Mod.refl (fun _ => False) w6).grown hgrow (fun k hk => by cases hk)) (fun q => q))
                have S3 := Lib.hid (Q3.out.grown hgrow (fun k hk => by cases hk))
                obtain ⟨g, cap, hv, hbg, _, hrow⟩ := RowV.of_owns hown (by omega)
                obtain rfl : w6.heap.size = g := by injection hv with h1; injection h1 with h2; injection h2
                have S4 : RowV w7 w6.heap.size K (fun x => .bool (seenB f 0 x)) := by
                  rw [Nat.mul_one] at hrow
                  exact hrow.congr (fun i hi => by rw [madeB_get K i hi]; rfl)
                have hx1 : ¬ ga = w6.heap.size := by have := Q1.out.lt; omega
                have hx2 : ¬ g6 = w6.heap.size := by have := Q2.out.lt; omega
                have hx3 : w.heap.size ≤ w6.heap.size := Q3.out.size
                clear hown hgrow Q1 Q2 Q3 hv hrow hbg
                replace S4 := Lib.hid S4
                generalize w6.heap.size = G at *
                have hGge : ¬ G < w.heap.size := by omega
                go_wp2_with fail
                go_loopw [17] (fun i wx => ∃ z : Nat, i = .int .i64 z ∧ z ≤ K ∧ RowI wx g6 K f ∧ RowV wx G K (fun x => .bool (seenB f z x)) ∧ DS wx ga t'' ∧ Same w wx) (fun i _ => K - (intOf i).toNat)
                case atStart => exact ⟨0, rfl, by omega, S2.out, S4.out, S1.out, S3.out⟩
                case round =>
                  clear S1 S2 S3 S4 P1 P3 HSH
                  obtain ⟨z, rfl, hz, hR, hS, hA, M⟩ := hrel
                  have Q3 := Lib.hid hA
                  have Q4 := Lib.hid M
                  clear hA M
                  by_cases hzK : z < K
                  · obtain ⟨q, hq⟩ : ∃ q : Nat, f z = q := ⟨(f z).toNat, by have := (HPM.out.1 z hzK).1; omega⟩
                    have hqK : q < K := by have := (HPM.out.1 z hzK).2; omega
                    have d1 := hR.cell z hzK
                    have d2 := hS.cell q hqK
                    have d3 := hS.free q
                    rw [hq] at d1
                    rw [seen_no HPM.out z q hzK hq] at d2
                    have T1 := Lib.hid (hR.set_far (p := ⟨G, q, none⟩) (fun e => hx2 e.symm) (.bool true))
                    have T2 := Lib.hid ((hS.set q hqK (.bool true)).congr (fun x _ => seen_step z q x hq))
                    clear hR hS hq
                    have hqi : (q : Int) < (K : Int) := by omega
                    go_wp2
                    go_roundw
                    case rel => exact ⟨z + 1, by go_num, by omega, T1.out, T2.out, Q3.out.set_far (fun e => hx1 e.symm) _, Q4.out.setCell (fun h => absurd h hGge) _⟩
                    case measure => simp [intOf]; omega
                  · obtain rfl : z = K := by omega
                    have S1 := Q3
                    have S3 := Q4
                    have hb7 := belV_bd 7 t''
                    have HC1 := Lib.hid (dchance_any ga t'' 0 7 _ S1.out hut (by omega))
                    have HC2 := Lib.hid (fun (wz : World) (hz : DS wz ga (belS 7 t'')) => dchance_any ga (belS 7 t'') 7 7 wz hz (belS_u _ _ hut) (by omega))
                    have hb8 := belV_bd 7 (belS 7 t'')
                    generalize belV 7 (belS 7 t'') = v2 at *
                    generalize belV 7 t'' = v1 at *
                    generalize belS 7 (belS 7 t'') = s2 at *
                    generalize belS 7 t'' = s1 at *
                    have hv1 : decide (v1 < 0) = false := by rw [decide_eq_false_iff_not]; omega
                    have hv2 : decide (v2 < 7) = true := by rw [decide_eq_true_eq]; omega
                    clear hb7 hb8
                    go_wp2_with fail
                    refine HC1.out.mono ?_
                    rintro e w8 ⟨rfl, hA8, M8⟩
                    have U1 := Lib.hid hA8
                    have U3 := Lib.hid (S3.out.then_ M8 (fun i h1 h2 => by omega))
                    clear hA8 M8
                    go_wp2_with fail
                    refine (HC2.out _ U1.out).mono ?_
                    rintro e w9 ⟨rfl, hA9, M9⟩
                    have U4 := Lib.hid (U3.out.then_ M9 (fun i h1 h2 => by omega))
                    clear hA9 M9
                    go_wp2
                    exact HR.out _ _ ⟨rfl, Same.below U4.out⟩
        · skip
          have HW1 := Lib.hid (fun (wz : World) (hz : DS wz ga t) (M : Same w wz) => dweigh_any ga t a1 l1 c1 zs wz hz ht (by omega) (H1.out.at_ M hga'))
          have HW2 := Lib.hid (fun (wz : World) (hz : DS wz gb t) (M : Same w wz) => dweigh_any gb t a1 l1 c1 zs wz hz ht (by omega) (H1.out.at_ M (by omega)))
          have ht' : U64 (weighS zs l1 t) := by unfold weighS; split; exact ht; exact belS_u _ _ ht
          rw [hv] at HW1 HW2
          generalize weighS zs l1 t = t' at *
          have HP := Lib.hid hp
          clear hv hp
          go_wp2_with fail
          refine (HW1.out _ J1.out J3.out).mono ?_
          rintro e w4 ⟨rfl, hA4, M4⟩
          have L1 := Lib.hid hA4
          have L2 := Lib.hid (J2.out.mod M4 hne')
          have L3 := Lib.hid (J3.out.then_ M4 (fun i h1 h2 => by omega))
          clear hA4 M4 J1 J2 J3
          go_wp2_with fail
          refine (HW2.out _ L2.out L3.out).mono ?_
          rintro e w5 ⟨rfl, hB5, M5⟩
          have P1 := Lib.hid (L1.out.mod M5 hne)
          have P3 := Lib.hid (L3.out.then_ M5 (fun i h1 h2 => by omega))
          clear hB5 M5 L1 L2 L3 HW1 HW2
          obtain ⟨b1, o1, rfl, hb1, hc1⟩ := H1.out (by omega)
          have hcj := (P3.out.cell hb1 (fun q => q) (o1 + j)).trans (hc1 j hj)
          clear hc1
          go_wp2_with fail
          go_loop [13, 14] (fun x i => ∃ k : Nat, k ≤ l1 ∧ i = .int .i64 k ∧ x = .bool (posB zs k)) (fun _ i => l1 - (intOf i).toNat)
          case atStart => exact ⟨0, by omega, rfl, rfl⟩
          case round =>
            obtain ⟨k, hk, rfl, rfl⟩ := hrel
            by_cases hlt : k < l1
            · obtain ⟨b1', o1', hee, hb1', hc1⟩ := H1.out (by omega)
              injection hee with hee1; injection hee1 with hee2 hee3; subst hee2 hee3
              have hck := (P3.out.cell hb1' (fun q => q) (o1 + k)).trans (hc1 k hlt)
              clear hc1
              have hps : posB zs (k + 1) = (posB zs k || decide (0 < zs k)) := rfl
              rcases hpk : posB zs k with _ | _
              all_goals
                rw [hpk] at hps
                have HPS := Lib.hid hps
                clear hps hpk
                go_wp2
                go_round
                case rel => exact ⟨k + 1, by omega, by go_num, by rw [HPS.out]; simp⟩
                case measure => simp [intOf]; omega
            · obtain rfl : k = l1 := by omega
              rw [HP.out]
              by_cases hK0 : K = 0
              · subst hK0
                go_wp2_with fail
                refine (dshuffle_low ga t' _ _ P1.out (by omega)).mono ?_
                rintro e w6 ⟨a6, c6, rfl, _, hA6, M6⟩
                have Q1 := Lib.hid hA6
                have Q3 := Lib.hid (P3.out.then_ M6 (fun i h1 h2 => by omega))
                clear hA6 M6
                go_wp2_with (at_make; refine wpList_make_full w6 rfl _ _ 35 rfl w6.heap.size 4 i0 (.bool false) 1 Try.underlying35 HI.out HZ0.out HZ1.out .i64 .i64 _ _ 0 rfl rfl rfl rfl HZ2.out (Nat.zero_le _) (Nat.le_refl _) ?_; intro w7 hown hgrow)
                have S1 := Lib.hid (Q1.out.mod ((Mod.refl (fun _ => False) w6).grown hgrow (fun k hk => by cases hk)) (fun q => q))
                have S3 := Lib.hid (Q3.out.grown hgrow (fun k hk => by cases hk))
                clear hown hgrow Q1 Q3
                go_wp2_with fail
                refine wp_loop_rounds 1 ?_
                rw [rounds_succ]
                go_wp2_with fail
                have hb7 := belV_bd 7 t'
                have HC1 := Lib.hid (dchance_any ga t' 0 7 _ S1.out ht' (by omega))
                have HC2 := Lib.hid (fun (wz : World) (hz : DS wz ga (belS 7 t')) => dchance_any ga (belS 7 t') 7 7 wz hz (belS_u _ _ ht') (by omega))
                have hb8 := belV_bd 7 (belS 7 t')
                generalize belV 7 (belS 7 t') = v2 at *
                generalize belV 7 t' = v1 at *
                generalize belS 7 (belS 7 t') = s2 at *
                generalize belS 7 t' = s1 at *
                have hv1 : decide (v1 < 0) = false := by rw [decide_eq_false_iff_not]; omega
                have hv2 : decide (v2 < 7) = true := by rw [decide_eq_true_eq]; omega
                clear hb7 hb8
                go_wp2_with fail
                refine HC1.out.mono ?_
                rintro e w8 ⟨rfl, hA8, M8⟩
                have U1 := Lib.hid hA8
                have U3 := Lib.hid (S3.out.then_ M8 (fun i h1 h2 => by omega))
                clear hA8 M8
                go_wp2_with fail
                refine (HC2.out _ U1.out).mono ?_
                rintro e w9 ⟨rfl, hA9, M9⟩
                have U4 := Lib.hid (U3.out.then_ M9 (fun i h1 h2 => by omega))
                clear hA9 M9
                go_wp2
                exact HR.out _ _ ⟨rfl, Same.below U4.out⟩
              · have hpm := perm_run (m := K) (K - 1) (iotaF, t') (by omega) (perm_iota K)
                have hut := shRun_u (K - 1) (iotaF, t') ht'
                have HSH := Lib.hid (dshuffle_any ga t' K _ P1.out ht' (by omega))
                generalize (shRun (K - 1) (iotaF, t')).1 = f at *
                generalize (shRun (K - 1) (iotaF, t')).2 = t'' at *
                have HPM := Lib.hid hpm
                clear hpm
                go_wp2_with fail
                refine HSH.out.mono ?_
                rintro e w6 ⟨a6, c6, rfl, hr6, hA6, M6⟩
                obtain ⟨g6, rfl, hg6, hR6⟩ := hr6 (by omega)
                have Q1 := Lib.hid hA6
                have Q2 := Lib.hid hR6
                have Q3 := Lib.hid (P3.out.then_ M6 (fun i h1 h2 => by omega))
                clear hA6 M6 hR6 hg6
                go_wp2_with (at_make; refine wpList_make_full w6 rfl _ _ 35 rfl w6.heap.size 4 i0 (.bool false) 1 Try.underlying35 HI.out HZ0.out HZ1.out .i64 .i64 _ _ K rfl rfl rfl rfl HZ2.out hmx (Nat.le_refl _) ?_; intro w7 hown hgrow)
                have S1 := Lib.hid (Q1.out.mod ((Mod.refl (fun _ => False) w6).grown hgrow (fun k hk => by cases hk)) (fun q => q))
                have S2 := Lib.hid (Q2.out.mod ((Mod.refl (fun _ => False) w6).grown hgrow (fun k hk => by cases hk)) (fun q => q))
                have S3 := Lib.hid (Q3.out.grown hgrow (fun k hk => by cases hk))
                obtain ⟨g, cap, hv, hbg, _, hrow⟩ := RowV.of_owns hown (by omega)
                obtain rfl : w6.heap.size = g := by injection hv with h1; injection h1 with h2; injection h2
                have S4 : RowV w7 w6.heap.size K (fun x => .bool (seenB f 0 x)) := by
                  rw [Nat.mul_one] at hrow
                  exact hrow.congr (fun i hi => by rw [madeB_get K i hi]; rfl)
                have hx1 : ¬ ga = w6.heap.size := by have := Q1.out.lt; omega
                have hx2 : ¬ g6 = w6.heap.size := by have := Q2.out.lt; omega
                have hx3 : w.heap.size ≤ w6.heap.size := Q3.out.size
                clear hown hgrow Q1 Q2 Q3 hv hrow hbg
                replace S4 := Lib.hid S4
                generalize w6.heap.size = G at *
                have hGge : ¬ G < w.heap.size := by omega
                go_wp2_with fail
                go_loopw [17] (fun i wx => ∃ z : Nat, i = .int .i64 z ∧ z ≤ K ∧ RowI wx g6 K f ∧ RowV wx G K (fun x => .bool (seenB f z x)) ∧ DS wx ga t'' ∧ Same w wx) (fun i _ => K - (intOf i).toNat)
                case atStart => exact ⟨0, rfl, by omega, S2.out, S4.out, S1.out, S3.out⟩
                case round =>
                  clear S1 S2 S3 S4 P1 P3 HSH
                  obtain ⟨z, rfl, hz, hR, hS, hA, M⟩ := hrel
                  have Q3 := Lib.hid hA
                  have Q4 := Lib.hid M
                  clear hA M
                  by_cases hzK : z < K
                  · obtain ⟨q, hq⟩ : ∃ q : Nat, f z = q := ⟨(f z).toNat, by have := (HPM.out.1 z hzK).1; omega⟩
                    have hqK : q < K := by have := (HPM.out.1 z hzK).2; omega
                    have d1 := hR.cell z hzK
                    have d2 := hS.cell q hqK
                    have d3 := hS.free q
                    rw [hq] at d1
                    rw [seen_no HPM.out z q hzK hq] at d2
                    have T1 := Lib.hid (hR.set_far (p := ⟨G, q, none⟩) (fun e => hx2 e.symm) (.bool true))
                    have T2 := Lib.hid ((hS.set q hqK (.bool true)).congr (fun x _ => seen_step z q x hq))
                    clear hR hS hq
                    have hqi : (q : Int) < (K : Int) := by omega
                    go_wp2
                    go_roundw
                    case rel => exact ⟨z + 1, by go_num, by omega, T1.out, T2.out, Q3.out.set_far (fun e => hx1 e.symm) _, Q4.out.setCell (fun h => absurd h hGge) _⟩
                    case measure => simp [intOf]; omega
                  · obtain rfl : z = K := by omega
                    have S1 := Q3
                    have S3 := Q4
                    have hb7 := belV_bd 7 t''
                    have HC1 := Lib.hid (dchance_any ga t'' 0 7 _ S1.out hut (by omega))
                    have HC2 := Lib.hid (fun (wz : World) (hz : DS wz ga (belS 7 t'')) => dchance_any ga (belS 7 t'') 7 7 wz hz (belS_u _ _ hut) (by omega))
                    have hb8 := belV_bd 7 (belS 7 t'')
                    generalize belV 7 (belS 7 t'') = v2 at *
                    generalize belV 7 t'' = v1 at *
                    generalize belS 7 (belS 7 t'') = s2 at *
                    generalize belS 7 t'' = s1 at *
                    have hv1 : decide (v1 < 0) = false := by rw [decide_eq_false_iff_not]; omega
                    have hv2 : decide (v2 < 7) = true := by rw [decide_eq_true_eq]; omega
                    clear hb7 hb8
                    go_wp2_with fail
                    refine HC1.out.mono ?_
                    rintro e w8 ⟨rfl, hA8, M8⟩
                    have U1 := Lib.hid hA8
                    have U3 := Lib.hid (S3.out.then_ M8 (fun i h1 h2 => by omega))
                    clear hA8 M8
                    go_wp2_with fail
                    refine (HC2.out _ U1.out).mono ?_
                    rintro e w9 ⟨rfl, hA9, M9⟩
                    have U4 := Lib.hid (U3.out.then_ M9 (fun i h1 h2 => by omega))
                    clear hA9 M9
                    go_wp2
                    exact HR.out _ _ ⟨rfl, Same.below U4.out⟩
end Go.Proofs.Ytifkdjecdmmegaa
