import Derived.Test.YtifkdjecdmmegaaDiceE
set_option linter.unusedSimpArgs false
set_option linter.unusedVariables false
namespace Go.Proofs.Ytifkdjecdmmegaa
open Go Go.RowKit
/-- A slice of ints that came in, all its ints laid out at once. -/
def IntsZ (w : World) (a : Option Addr) (len : Nat) (zs : Nat → Int) : Prop := 0 < len → ∃ b o, a = some ⟨b, o, none⟩ ∧ b < w.heap.size ∧ ∀ i, i < len → w.cell? ⟨b, o + i, none⟩ = some (.int .i64 (zs i))
theorem IntsZ.at_ {w wz : World} {D : Nat} {a : Option Addr} {len : Nat} {zs : Nat → Int} (h : IntsZ w a len zs) (M : Same w wz) (hD : w.heap.size ≤ D) : IntsAt wz D a len zs := by
  intro hp
  obtain ⟨b, o, ha, hb, hc⟩ := h hp
  exact ⟨b, o, ha, Nat.lt_of_lt_of_le hb M.size, by omega, fun i hi => (M.cell hb (fun q => q) (o + i)).trans (hc i hi)⟩
theorem dmod' (n k : Int) (hk : 0 < k) : 0 ≤ (IntKind.u64.wrap n).tmod k ∧ (IntKind.u64.wrap n).tmod k < k := by
  have h : 0 ≤ IntKind.u64.wrap n := by unfold IntKind.wrap; simp [IntKind.bits, IntKind.signed]; omega
  rw [Int.tmod_eq_emod_of_nonneg h]
  exact ⟨Int.emod_nonneg _ (by omega), Int.emod_lt_of_pos _ hk⟩
theorem shRun_u : ∀ (j : Nat) (x : (Nat → Int) × Int), U64 x.2 → U64 (shRun j x).2
  | 0, x, h => h
  | j + 1, (f, t), h => shRun_u j _ (show U64 (belS ((j : Int) + 2) t) from belS_u _ _ h)
/-- Deeds that came in. -/
def ActsAt (w : World) (a : Option Addr) (len : Nat) : Prop := 0 < len → ∃ b o, a = some ⟨b, o, none⟩ ∧ b < w.heap.size ∧ ∀ i, i < len →
  ∃ (k n m : Int) (la : Option Addr) (ll lc : Nat) (zs : Nat → Int), w.cell? ⟨b, o + i * 4, none⟩ = some (.int .i64 k) ∧ w.cell? ⟨b, o + i * 4 + 1, none⟩ = some (.int .i64 n) ∧ w.cell? ⟨b, o + i * 4 + 2, none⟩ = some (.int .i64 m) ∧
    w.cell? ⟨b, o + i * 4 + 3, none⟩ = some (.slice la ll lc) ∧ IntsZ w la ll zs ∧ ll ≤ 9223372036854775807 ∧ (-9223372036854775808 ≤ n ∧ n ≤ 9223372036854775807) ∧ (-9223372036854775808 ≤ m ∧ m ≤ 9223372036854775807)
set_option maxRecDepth 100000 in
set_option maxHeartbeats 4000000 in
theorem diceExact_walk (s : Int) (a1 : Option Addr) (l1 c1 : Nat) (w : World) (hs : U64 s) (hl1 : l1 ≤ 9223372036854775807) (h1 : ActsAt w a1 l1) :
    Calls Try.prog 9 #[.int .u64 s, .slice a1 l1 c1] w fun e w' => e = .returned (.bool true) ∧ Below w.heap.size w w' := by
  refine opq fun R HR => ?_
  have H1 := Lib.hid h1
  clear h1
  go_enter Try.func9, Try.ntmps9
  go_wp2_with fail
  refine (dawake_any _).mono ?_
  rintro e w1 ⟨rfl, M⟩
  go_wp2_with fail
  refine (dnew_any _ _).mono ?_
  rintro e w2 ⟨ga, rfl, hga, hA, M2⟩
  have hga' : w.heap.size ≤ ga := by have := M.size; omega
  replace M := (M.same M2).alloc (.cells #[.int .u64 s] 57)
  have hgb' : ga < w2.heap.size := hA.lt
  replace hA := hA.alloc (.cells #[.int .u64 s] 57)
  have hB : DS (w2.alloc (.cells #[.int .u64 s] 57)) w2.heap.size s := Blk.new _ _ _
  clear M2 hga
  go_wp2_with fail
  generalize hgb : w2.heap.size = gb at *
  generalize w2.alloc _ = w3 at *
  have hne : ¬ ga = gb := by omega
  have hne' : ¬ gb = ga := by omega
  go_loopw [7] (fun i wr => ∃ (t : Int) (k : Nat), i = .int .i64 k ∧ k ≤ 60 ∧ U64 t ∧ DS wr ga t ∧ DS wr gb t ∧ Same w wr) (fun i _ => 60 - (intOf i).toNat)
  case atStart => exact ⟨s, 0, rfl, by omega, hs, hA, hB, M⟩
  case round =>
    clear hA hB M
    obtain ⟨t, k, rfl, hk, ht, hA, hB, M⟩ := hrel
    by_cases hlt : k < l1 ∧ k < 60
    · obtain ⟨k1, k2⟩ := hlt
      obtain ⟨b1, o1, rfl, hb1, hc1⟩ := H1.out (by omega)
      obtain ⟨kd, n, m, la, ll, lc, zs, e0, e1, e2, e3, hz, hll, hn, hm⟩ := hc1 k k1
      clear hc1
      rw [← M.cell hb1 (fun q => q)] at e0 e1 e2 e3
      have hk60 : ((k : Int) < 60) := by omega
      have hb1w : b1 < wr.heap.size := Nat.lt_of_lt_of_le hb1 M.size
      have J1 := Lib.hid hA
      have J2 := Lib.hid hB
      have J3 := Lib.hid M
      have J4 := Lib.hid hz
      clear hA hB M hz
      by_cases h20 : 20 < ll
      · go_wp2
        all_goals exact HR.out _ _ ⟨rfl, Same.below (J3.out.alloc _)⟩
      · have hlt1 := J1.out.lt
        have hlt2 := J2.out.lt
        have K1 := Lib.hid (J1.out.alloc (.cells #[.int .i64 kd, .int .i64 n, .int .i64 m, .slice la ll lc] 59))
        have K2 := Lib.hid (J2.out.alloc (.cells #[.int .i64 kd, .int .i64 n, .int .i64 m, .slice la ll lc] 59))
        have K3 := Lib.hid (J3.out.alloc (.cells #[.int .i64 kd, .int .i64 n, .int .i64 m, .slice la ll lc] 59))
        have K4 := Lib.hid (Blk.new wr #[.int .i64 kd, .int .i64 n, .int .i64 m, .slice la ll lc] 59)
        have hXa : ¬ wr.heap.size = ga := by omega
        have hXb : ¬ wr.heap.size = gb := by omega
        go_wp2_with fail
        all_goals
          generalize wr.alloc (.cells #[.int .i64 kd, .int .i64 n, .int .i64 m, .slice la ll lc] 59) = W at *
          generalize wr.heap.size = X at *
          clear J1 J2 J3 e0 e1 e2 e3
        · refine (dnext_any ga t _ K1.out ht).mono ?_
          have HT := Lib.hid (fun (wz : World) (hz : DS wz gb t) => rdnext_any gb t wz hz ht)
          have ht' := stF_u t
          generalize mixF (stF t) = v at *
          generalize stF t = t' at *
          rintro e w4 ⟨rfl, hA4, M4⟩
          have L1 := Lib.hid (K2.out.mod M4 hne')
          have L2 := Lib.hid hA4
          have L3 := Lib.hid (K3.out.then_ M4 (fun i h1 h2 => by omega))
          clear hA4 M4
          go_wp2_with fail
          refine (HT.out _ L1.out).mono ?_
          rintro e w5 ⟨rfl, hB5, M5⟩
          have P1 := Lib.hid hB5
          have P2 := Lib.hid (L2.out.mod M5 hne)
          have P3 := Lib.hid (L3.out.then_ M5 (fun i h1 h2 => by omega))
          clear hB5 M5
          go_wp2
          go_roundw
          case rel => exact ⟨_, k + 1, by go_num, by omega, ht', P2.out, P1.out, P3.out⟩
          case measure => simp [intOf]; omega
        · have HT1 := fun (wz : World) (hz : DS wz ga t) => dbelow_any ga t n wz hz ht hn
          have HT2 := fun (wz : World) (hz : DS wz gb t) => rdbelow_any gb t n wz hz ht hn
          have ht' := belS_u n t ht
          generalize belV n t = v at *
          generalize belS n t = t' at *
          have T1 := Lib.hid HT1
          have T2 := Lib.hid HT2
          clear HT1 HT2
          go_region_held3 (fun w' => w'.cell? ⟨X, 1, none⟩ = some (.int .i64 n)) (first | exact K4.out.cell 1 | assumption | exact ⟨by assumption, by assumption⟩ | go_keep) ((
            first
            | (go_at_call 34; refine (T1.out _ K1.out.drew).mono ?_; rintro e w4 ⟨rfl, hA4, M4⟩; have hB4 := K2.out.drew.mod M4 hne'; have hX4 := K4.out.drew.mod M4 hXa; have hM4 := K3.out.drew.then_ M4 (fun i h1 h2 => (by omega)); have q0 := hX4.cell 1; have q1 := hX4.cell 2; have q2 := hX4.cell 3)
            | (go_at_call 35; refine (T2.out _ hB4).mono ?_; rintro e w5 ⟨rfl, hB5, M5⟩; have hA5 := hA4.mod M5 hne; have hX5 := hX4.mod M5 hXb; have hM5 := hM4.then_ M5 (fun i h1 h2 => (by omega)); have q3 := hX5.cell 1; have q4 := hX5.cell 2; have q5 := hX5.cell 3)))
          have L1 := Lib.hid hA5
          have L2 := Lib.hid hB5
          have L3 := Lib.hid hM5
          clear hA4 hA5 hB4 hB5 hM4 hM5 hX4 hX5 M4 M5 q0 q1 q2 q3 q4 q5
          go_wp2
          go_roundw
          case rel => exact ⟨_, k + 1, by go_num, by omega, ht', L1.out, L2.out, L3.out⟩
          case measure => simp [intOf]; omega
        · have HT1 := fun (wz : World) (hz : DS wz ga t) => dchance_any ga t n m wz hz ht hm
          have HT2 := fun (wz : World) (hz : DS wz gb t) => rdbelow_any gb t m wz hz ht hm
          have ht' := belS_u m t ht
          generalize belV m t = v at *
          generalize belS m t = t' at *
          have T1 := Lib.hid HT1
          have T2 := Lib.hid HT2
          clear HT1 HT2
          go_region_held3 (fun w' => w'.cell? ⟨X, 1, none⟩ = some (.int .i64 n) ∧ w'.cell? ⟨X, 2, none⟩ = some (.int .i64 m)) (first | exact ⟨K4.out.cell 1, K4.out.cell 2⟩ | assumption | exact ⟨by assumption, by assumption⟩ | go_keep) ((
            first
            | (go_at_call 36; refine (T1.out _ K1.out.drew).mono ?_; rintro e w4 ⟨rfl, hA4, M4⟩; have hB4 := K2.out.drew.mod M4 hne'; have hX4 := K4.out.drew.mod M4 hXa; have hM4 := K3.out.drew.then_ M4 (fun i h1 h2 => (by omega)); have q0 := hX4.cell 1; have q1 := hX4.cell 2; have q2 := hX4.cell 3)
            | (go_at_call 35; refine (T2.out _ hB4).mono ?_; rintro e w5 ⟨rfl, hB5, M5⟩; have hA5 := hA4.mod M5 hne; have hX5 := hX4.mod M5 hXb; have hM5 := hM4.then_ M5 (fun i h1 h2 => (by omega)); have q3 := hX5.cell 1; have q4 := hX5.cell 2; have q5 := hX5.cell 3)))
          have L1 := Lib.hid hA5
          have L2 := Lib.hid hB5
          have L3 := Lib.hid hM5
          clear hA4 hA5 hB4 hB5 hM4 hM5 hX4 hX5 M4 M5 q0 q1 q2 q3 q4 q5
          go_wp2
          go_roundw
          case rel => exact ⟨_, k + 1, by go_num, by omega, ht', L1.out, L2.out, L3.out⟩
          case measure => simp [intOf]; omega
        · have HT1 := fun (wz : World) (hz : DS wz ga t) (M : Same w wz) => dweigh_any ga t la ll lc zs wz hz ht (by omega) (J4.out.at_ M hga')
          have HT2 := fun (wz : World) (hz : DS wz gb t) (M : Same w wz) => rdweigh_any gb t la ll lc zs wz hz ht (by omega) (J4.out.at_ M (by omega))
          have ht' : U64 (weighS zs ll t) := by unfold weighS; split; exact ht; exact belS_u _ _ ht
          generalize weighV zs ll t = v at *
          generalize weighS zs ll t = t' at *
          have T1 := Lib.hid HT1
          have T2 := Lib.hid HT2
          clear HT1 HT2
          go_region_held3 (fun w' => w'.cell? ⟨X, 3, none⟩ = some (.slice la ll lc)) (first | exact K4.out.cell 3 | assumption | exact ⟨by assumption, by assumption⟩ | go_keep) ((
            first
            | (go_at_call 37; refine (T1.out _ K1.out.drew K3.out.drew).mono ?_; rintro e w4 ⟨rfl, hA4, M4⟩; have hB4 := K2.out.drew.mod M4 hne'; have hX4 := K4.out.drew.mod M4 hXa; have hM4 := K3.out.drew.then_ M4 (fun i h1 h2 => (by omega)); have q0 := hX4.cell 1; have q1 := hX4.cell 2; have q2 := hX4.cell 3)
            | (go_at_call 38; refine (T2.out _ hB4 hM4).mono ?_; rintro e w5 ⟨rfl, hB5, M5⟩; have hA5 := hA4.mod M5 hne; have hX5 := hX4.mod M5 hXb; have hM5 := hM4.then_ M5 (fun i h1 h2 => (by omega)); have q3 := hX5.cell 1; have q4 := hX5.cell 2; have q5 := hX5.cell 3)))
          have L1 := Lib.hid hA5
          have L2 := Lib.hid hB5
          have L3 := Lib.hid hM5
          clear hA4 hA5 hB4 hB5 hM4 hM5 hX4 hX5 M4 M5 q0 q1 q2 q3 q4 q5
          go_wp2
          go_roundw
          case rel => exact ⟨_, k + 1, by go_num, by omega, ht', L1.out, L2.out, L3.out⟩
          case measure => simp [intOf]; omega
        · obtain ⟨N, hN⟩ : ∃ N, wrap64 (wrap64 ((IntKind.u64.wrap n).tmod 40) - 2) = N := ⟨_, rfl⟩
          have hNb : -2 ≤ N ∧ N ≤ 37 := by
            have := dmod' n 40 (by omega)
            rw [← hN]; generalize (IntKind.u64.wrap n).tmod 40 = q at *; unfold wrap64; omega
          rw [hN]
          clear hN
          by_cases hN0 : N ≤ 0
          · refine (dshuffle_low ga t N _ K1.out hN0).mono ?_
            rintro e w4 ⟨a4, c4, rfl, _, hA4, M4⟩
            have L1 := Lib.hid (K2.out.mod M4 hne')
            have L2 := Lib.hid hA4
            have L3 := Lib.hid (K3.out.then_ M4 (fun i h1 h2 => by omega))
            clear hA4 M4
            go_wp2_with fail
            refine (rdshuffle_low gb t N _ L1.out hN0).mono ?_
            rintro e w5 ⟨a5, c5, rfl, _, hB5, M5⟩
            have P1 := Lib.hid hB5
            have P2 := Lib.hid (L2.out.mod M5 hne)
            have P3 := Lib.hid (L3.out.then_ M5 (fun i h1 h2 => by omega))
            clear hB5 M5
            go_wp2_with fail
            go_rounds 1
            go_roundw
            case rel => exact ⟨_, k + 1, by go_num, by omega, ht, P2.out, P1.out, P3.out⟩
            case measure => simp [intOf]; omega
          · obtain ⟨q, rfl⟩ : ∃ q : Nat, N = q := ⟨N.toNat, by omega⟩
            refine (dshuffle_any ga t q _ K1.out ht (by omega)).mono ?_
            have HT := Lib.hid (fun (wz : World) (hz : DS wz gb t) => rdshuffle_any gb t q wz hz ht (by omega))
            have ht' := shRun_u (q - 1) (iotaF, t) ht
            generalize (shRun (q - 1) (iotaF, t)).1 = f at *
            generalize (shRun (q - 1) (iotaF, t)).2 = t' at *
            rintro e w4 ⟨a4, c4, rfl, hr4, hA4, M4⟩
            have L1 := Lib.hid (K2.out.mod M4 hne')
            have L2 := Lib.hid hA4
            have L3 := Lib.hid (K3.out.then_ M4 (fun i h1 h2 => by omega))
            obtain ⟨g4, rfl, hg4, hR4⟩ := hr4 (by omega)
            have hg4b : ¬ g4 = gb := by have := K2.out.lt; omega
            have hg4a : ¬ g4 = ga := by have := K1.out.lt; omega
            clear hA4 M4 hg4
            go_wp2_with fail
            refine (HT.out _ L1.out).mono ?_
            rintro e w5 ⟨a5, c5, rfl, hr5, hB5, M5⟩
            obtain ⟨g5, rfl, hg5, hR5⟩ := hr5 (by omega)
            have P1 := Lib.hid hB5
            have P2 := Lib.hid (L2.out.mod M5 hne)
            have P3 := Lib.hid (L3.out.then_ M5 (fun i h1 h2 => by omega))
            have P4 := Lib.hid (hR4.mod M5 hg4b)
            have P5 := Lib.hid hR5
            clear hB5 M5 hR4 hR5 hg5
            have hq0 : ¬ q = 0 := by omega
            go_wp2_with fail
            go_loopw [12] (fun j wx => ∃ (z : Nat), j = .int .i64 z ∧ z ≤ q ∧ RowI wx g4 q f ∧ RowI wx g5 q f ∧ DS wx ga t' ∧ DS wx gb t' ∧ Same w wx) (fun j _ => q - (intOf j).toNat)
            case atStart => exact ⟨0, rfl, by omega, P4.out, P5.out, P2.out, P1.out, P3.out⟩
            case round =>
              clear P1 P2 P3 P4 P5 L1 L2 L3 HT K1 K2 K3 K4
              obtain ⟨z, rfl, hz, hR4, hR5, hA, hB, M⟩ := hrel
              have Q3 := Lib.hid hA
              have Q4 := Lib.hid hB
              have Q5 := Lib.hid M
              clear hA hB M
              by_cases hzq : z < q
              · have d4 := hR4.cell z hzq
                have d5 := hR5.cell z hzq
                have Q1 := Lib.hid hR4
                have Q2 := Lib.hid hR5
                clear hR4 hR5
                have hz0 : (0 : Int) ≤ (z : Int) := by omega
                have hzq' : (z : Int) < (q : Int) := by omega
                go_wp2_with fail
                go_quiet (fail)
                go_wp2
                go_roundw
                case rel => exact ⟨z + 1, by go_num, by omega, Q1.out.drewN _, Q2.out.drewN _, Q3.out.drewN _, Q4.out.drewN _, Q5.out.drewN _⟩
                case measure => simp [intOf]; omega
              · obtain rfl : z = q := by omega
                go_wp2
                go_roundw
                case rel => exact ⟨_, k + 1, by go_num, by omega, ht', Q3.out, Q4.out, Q5.out⟩
                case measure => simp [intOf]; omega
    · have L := Lib.hid M
      clear hA hB M
      go_wp2_with fail
      all_goals
        refine (dnext_nil _).mono ?_
        rintro e w4 ⟨rfl, rfl⟩
        go_wp2_with fail
        refine (dbelow_nil _ _ (by omega)).mono ?_
        rintro e w4 ⟨rfl, rfl⟩
        go_wp2_with fail
        refine (dchance_nil _ _ _ (by omega)).mono ?_
        rintro e w4 ⟨rfl, rfl⟩
        go_wp2_with fail
        refine (dchance_nil _ _ _ (by omega)).mono ?_
        rintro e w4 ⟨rfl, rfl⟩
        go_wp2_with fail
        refine (dshuffle_nil _ _).mono ?_
        rintro e w4 ⟨rfl, rfl⟩
        go_wp2_with fail
        refine (dweigh_nil _ _ _ (by simp [go_sem])).mono ?_
        rintro e w4 ⟨rfl, rfl⟩
        go_wp2
        exact HR.out _ _ ⟨rfl, Same.below (L.out.alloc _)⟩
end Go.Proofs.Ytifkdjecdmmegaa
