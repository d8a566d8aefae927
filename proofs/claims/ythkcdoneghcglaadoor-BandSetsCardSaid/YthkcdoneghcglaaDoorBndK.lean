import Derived.Test.YthkcdoneghcglaaDoorBndJ
set_option linter.unusedSimpArgs false
set_option linter.unusedVariables false
/- The document's Parse of band. -/
namespace Go.Proofs.YthkcdoneghcglaaDoor
open Go Go.RowKit
set_option maxRecDepth 10000 in
set_option maxHeartbeats 16000000 in
theorem bparser_any (S : List UInt8) (hS : S.length ≤ 900) (w : World) : Calls Tryd.prog 23 #[strV S] w fun e w' => PrR (refP S) e w' ∧ Same w w' := by
  refine opq fun R HR => ?_
  unfold refP at HR
  unfold strV
  by_cases hn : S = nothing
  · rw [if_pos hn] at HR
    subst hn
    have HR2 := Lib.hid (HR.out)
    unfold nothing
    go_enter Tryd.func23, Tryd.ntmps23
    go_wp2_with fail
    refine (rtext_any _ _ [] _ (by decide) (by decide) (fun h => by simp at h)).mono ?_
    rintro e w1 ⟨rfl, M⟩
    rw [show strV (textB []) = .string ⟨#[226, 136, 133]⟩ from rfl]
    have K1 := Lib.hid ((show Same w (w.alloc _) from (Mod.refl _ _).alloc _).same M)
    clear M
    go_wp2
    exact HR.out _ _ ⟨⟨_, _, rfl, fun h => by simp at h⟩, K1.out⟩
  · rw [if_neg hn] at HR
    have hnb : (S == nothing) = false := by simp [hn]
    unfold nothing at hnb
    clear hn
    generalize hG : rGo S.length S = G at *
    have HG := Lib.hid hG
    clear hG
    have hsz := bytes_size S
    obtain ⟨i0, hi, hz0, hz1, hz2⟩ := info_parts info3
    have I0 := Lib.hid hi
    have Z0 := Lib.hid hz0
    have Z1 := Lib.hid hz1
    have Z2 := Lib.hid hz2
    clear hi hz0 hz1 hz2
    go_enter Tryd.func23, Tryd.ntmps23
    go_wp2_with fail
    refine (rtext_any _ _ [] _ (by decide) (by decide) (fun h => by simp at h)).mono ?_
    rintro e w1 ⟨rfl, M⟩
    rw [show strV (textB []) = .string ⟨#[226, 136, 133]⟩ from rfl]
    have OS : Hid (w1.ownsRow w.heap.size 3 1 (.slice (some ⟨w.heap.size, 0, none⟩) 0 0) 0 []) := Lib.hid (owns_same (empty_owns w _ _ _ (Nat.le_refl _)) M)
    have K1 := Lib.hid ((show Same w (w.alloc _) from (Mod.refl _ _).alloc _).same M)
    clear M
    go_wp2_with fail
    go_loopw [5, 4] (fun vp o wr => ∃ (p f : Nat) (Q : List Int), vp = .int .i64 (p : Int) ∧ p ≤ 1000000 ∧ S.length - p ≤ f ∧ f ≤ 1000 ∧ Q.length ≤ 10000 * (1000 - f) ∧ Q ++ rGo f (S.drop p) = G ∧ wr.ownsRow w.heap.size 3 1 o Q.length (Q.map (Value.int .i64)) ∧ Same w wr) (fun vp _ _ => S.length - (intOf vp).toNat)
    case atStart => exact ⟨0, S.length, [], rfl, by omega, by omega, by omega, by simp, by rw [List.drop_zero, List.nil_append]; exact HG.out, OS.out, K1.out⟩
    case round =>
      obtain ⟨p, f, Q, rfl, hp, hpf, hf, hQ, hgo, hown, M⟩ := hrel
      have O1 := Lib.hid hown
      have J := Lib.hid M
      clear hown M
      by_cases hlt : p < S.length
      · obtain ⟨f', rfl⟩ : ∃ f', f = f' + 1 := ⟨f - 1, by omega⟩
        obtain ⟨v1, k1, hN1⟩ : ∃ v1 k1, numB (S.drop p) = (v1, k1) := ⟨_, _, rfl⟩
        have hbd1 := numB_bd (S.drop p)
        rw [hN1, List.length_drop] at hbd1
        dsimp only at hbd1
        obtain ⟨q, hq⟩ : ∃ q, p + k1 = q := ⟨_, rfl⟩
        have HN := Lib.hid (bnumr_any S (by omega) p (by omega))
        unfold NuR strV at HN
        rw [hN1] at HN
        dsimp only at HN
        have hst := fun ht => rGo_step (f := f') (S := S) hlt hN1 ht
        have hst2 := fun ht v2 k2 h2 => rGo_step2 (f := f') (S := S) (v2 := v2) (k2 := k2) hlt hN1 ht h2
        rw [hq] at hst hst2
        have HS1 := Lib.hid hst
        have HS2 := Lib.hid hst2
        have HGo := Lib.hid hgo
        have hwq : IntKind.i64.wrap ((p : Int) + (k1 : Int)) = (q : Int) := by rw [show (p : Int) + (k1 : Int) = (q : Int) by omega]; exact IntWalk.i64_in _ (by omega)
        have hqs : q ≤ S.length := by omega
        have hw3 : IntKind.i64.wrap ((q : Int) + 3) = ((q + 3 : Nat) : Int) := by rw [show (q : Int) + 3 = ((q + 3 : Nat) : Int) by omega]; exact IntWalk.i64_in _ (by omega)
        have HQ := Lib.hid hq
        clear hN1 hst hst2 hgo hq
        by_cases hth : (S.drop q).take 3 = thru
        · have hl3 : q + 3 ≤ S.length := by have := congrArg List.length hth; unfold thru at this; simp at this; omega
          have g1 : decide (((q + 3 : Nat) : Int) ≤ (S.length : Int)) = true := decide_eq_true (by omega)
          have g2 : decide ((q : Int) + 3 ≤ (S.length : Int)) = true := decide_eq_true (by omega)
          have g3 : decide (q + 3 ≤ S.length) = true := decide_eq_true (by omega)
          have EX3 := cutN S q 3 ⟨#[]⟩
          rw [hth] at EX3
          unfold thru at EX3
          obtain ⟨v2, k2, hN2⟩ : ∃ v2 k2, numB (S.drop (q + 3)) = (v2, k2) := ⟨_, _, rfl⟩
          have hbd2 := numB_bd (S.drop (q + 3))
          rw [hN2, List.length_drop] at hbd2
          dsimp only at hbd2
          have HN' := Lib.hid (bnumr_any S (by omega) (q + 3) (by omega))
          unfold NuR strV at HN'
          rw [hN2] at HN'
          dsimp only at HN'
          rw [HS2.out hth v2 k2 hN2, ← List.append_assoc] at HGo
          obtain ⟨r, hr⟩ : ∃ r, q + 3 + k2 = r := ⟨_, rfl⟩
          rw [hr] at HGo
          have hwr : IntKind.i64.wrap (((q + 3 : Nat) : Int) + (k2 : Int)) = (r : Int) := by rw [show ((q + 3 : Nat) : Int) + (k2 : Int) = (r : Int) by omega]; exact IntWalk.i64_in _ (by omega)
          have hrs : r ≤ S.length := by omega
          have HQ2 := Lib.hid hr
          clear hN2 hth hr HS1 HS2
          go_wp2_with fail
          refine (HN.out _).mono ?_
          rintro e w2 ⟨rfl, M⟩
          have J2 := Lib.hid (J.out.same M)
          have O2 := Lib.hid (owns_same O1.out M)
          clear M
          go_wp2_with fail
          refine (HN'.out _).mono ?_
          rintro e w3 ⟨rfl, M⟩
          have J4 := Lib.hid (J2.out.same M)
          have O4 := Lib.hid (owns_same O2.out M)
          have hpr : p + 2 ≤ r + 2 := by have := HQ.out; have := HQ2.out; omega
          have hpr2 : p < r := by have := HQ.out; have := HQ2.out; omega
          clear M O1 O2 J2 J HN HN'
          go_wp2_with fail
          have hqr : (q : Int) + 3 + (k2 : Int) = (r : Int) := by have := HQ2.out; omega
          rw [hqr]
          clear hqr
          go_loopw [11, 4] (fun vn o wz => ∃ c : Int, vn = .int .i64 c ∧ v1 ≤ c ∧ (c ≤ v2 + 1 ∨ c = v1) ∧ wz.ownsRow w.heap.size 3 1 o (Q ++ rng v1 (c - 1)).length ((Q ++ rng v1 (c - 1)).map (Value.int .i64)) ∧ Same w wz) (fun vn _ _ => (v2 + 1 - intOf vn).toNat)
          case atStart => exact ⟨v1, rfl, by omega, by omega, by rw [rng_nil _ _ (by omega), List.append_nil]; exact O4.out, J4.out⟩
          case round =>
            obtain ⟨c, rfl, hc1, hc2, hown, M⟩ := hrel
            have O3 := Lib.hid hown
            have J3 := Lib.hid M
            have hs3 := J3.out.size
            clear hown M
            by_cases hcl : c ≤ v2
            · have hrs : rng v1 (c + 1 - 1) = rng v1 (c - 1) ++ [c] := by
                have := rng_snoc v1 (c - 1) (by omega)
                rw [show c - 1 + 1 = c by omega] at this
                rw [show c + 1 - 1 = c by omega]; exact this
              have HRS := Lib.hid hrs
              have hrl := rng_len v1 (c - 1)
              have hll : (Q ++ rng v1 (c - 1)).length ≤ 20000000 := by rw [List.length_append, hrl]; omega
              clear hrs hrl
              generalize hLL : Q ++ rng v1 (c - 1) = LL at *
              have HLL := Lib.hid hLL
              clear hLL
              go_wp2_with (at_builtin; refine wpList_append_own _ rfl (.tmp 63) (.tmp 65) 29 rfl w.heap.size 3 i0 (.int .i64 0) 1 8 Tryd.underlying29 I0.out Z0.out Z1.out Z2.out rfl (by decide) _ _ _ rfl (O3.out.alloc _) ⟨wr.heap.size, 0, none⟩ 1 1 [.int .i64 c] rfl rfl (one_new _ _ _) (fun u hu => (by simp at hu; subst hu; rfl)) (by unfold maxLen; omega) (by omega) (by simp only [World.size_alloc]; omega) ?_; intro v' w5 hown' hgrow _)
              have P1 := Lib.hid (same_append J3.out O3.out hgrow)
              have P2 := Lib.hid hown'
              clear hown' hgrow
              go_roundw
              case rel => exact ⟨c + 1, by go_num, by omega, by omega, by rw [HRS.out, ← List.append_assoc, HLL.out, List.length_append, List.map_append]; exact P2.out, P1.out⟩
              case measure => simp [intOf]; omega
            · have hrr : rng v1 (c - 1) = rng v1 v2 := by
                rcases hc2 with h | h
                · rw [show c - 1 = v2 by omega]
                · rw [rng_nil _ _ (by omega), rng_nil _ _ (by omega)]
              rw [hrr] at O3
              clear hrr
              have hrl := rng_len v1 v2
              have hql : (Q ++ rng v1 v2).length ≤ 10000 * (1000 - f') := by rw [List.length_append, hrl]; omega
              clear hrl
              generalize hQ2 : Q ++ rng v1 v2 = Q2 at *
              clear hQ2
              have hw2 : IntKind.i64.wrap ((r : Int) + 2) = ((r + 2 : Nat) : Int) := by rw [show (r : Int) + 2 = ((r + 2 : Nat) : Int) by omega]; exact IntWalk.i64_in _ (by omega)
              by_cases hcm : (S.drop r).take 2 = comma
              · rw [if_pos hcm] at HGo
                have hl2 : r + 2 ≤ S.length := by have := congrArg List.length hcm; unfold comma at this; simp at this; omega
                have g1 : decide (((r + 2 : Nat) : Int) ≤ (S.length : Int)) = true := decide_eq_true (by omega)
                have g2 : decide ((r : Int) + 2 ≤ (S.length : Int)) = true := decide_eq_true (by omega)
                have g3 : decide (r + 2 ≤ S.length) = true := decide_eq_true (by omega)
                have EX := cutN S r 2 ⟨#[]⟩
                rw [hcm] at EX
                unfold comma at EX
                clear hcm
                go_wp2_with fail
                go_roundw
                case rel => exact ⟨r + 2, f', Q2, by go_num, by omega, by omega, by omega, hql, HGo.out, O3.out, J3.out⟩
                case measure => simp [intOf]; omega
              · rw [if_neg hcm, List.append_nil] at HGo
                have HQG := HGo
                by_cases hl2 : r + 2 ≤ S.length
                · have g1 : decide (((r + 2 : Nat) : Int) ≤ (S.length : Int)) = true := decide_eq_true (by omega)
                  have g2 : decide ((r : Int) + 2 ≤ (S.length : Int)) = true := decide_eq_true (by omega)
                  have g3 : decide (r + 2 ≤ S.length) = true := decide_eq_true (by omega)
                  have EX := cutN S r 2 ⟨#[]⟩
                  have ET : ((S.drop r).take 2 == [216, 140]) = false := by simpa [comma] using hcm
                  generalize (S.drop r).take 2 = T2 at *
                  clear hcm
                  have hIx := ins_own O3.out
                  rw [HQG.out] at hIx
                  obtain ⟨a', c', rfl, hins⟩ := hIx
                  have v2n := Lib.hid hins
                  have hGl : G.length ≤ 20000000 := by rw [← HQG.out]; omega
                  clear hins O3 HQG
                  have HBg := Lib.hid (fun c w' (M : Same wr w') => bgood_any a' c G w' (by omega) (v2n.out.same M))
                  have HTx := Lib.hid (fun c w' (hg : goodI G = true) (M : Same wr w') => rtext_any a' c G w' (by have := goodI_len hg; omega) hg (v2n.out.same M))
                  have HNe := Lib.hid (fun (h : G.length = 0) => List.eq_nil_of_length_eq_zero h)
                  obtain ⟨ng, hng⟩ : ∃ ng, G.length = ng := ⟨_, rfl⟩
                  rw [hng] at HBg HTx HNe hGl ⊢
                  have HNG := Lib.hid hng
                  clear hng
                  go_wp2_with fail
                  refine (HBg.out c' _ (Mod.refl _ _)).mono ?_
                  rintro e w5 ⟨rfl, M⟩
                  have K5 := Lib.hid M
                  clear M
                  cases hg : goodI G with
                  | false =>
                    rw [if_neg (by simp [hg])] at HR
                    go_wp2
                    exact HR.out _ _ ⟨rfl, J3.out.same K5.out⟩
                  | true =>
                    by_cases hG0 : G = []
                    · have hn0 : ng = 0 := by rw [← HNG.out, hG0]; rfl
                      rw [if_neg (by simp [hG0])] at HR
                      subst hn0
                      go_wp2
                      exact HR.out _ _ ⟨rfl, J3.out.same K5.out⟩
                    · have hn0 : 0 < ng := by rw [← HNG.out]; exact List.length_pos_iff.2 hG0
                      have hb0 : ((ng : Int) == 0) = false := beqF (by omega)
                      have HTy := Lib.hid (HTx.out c' w5 hg K5.out)
                      unfold strV at HTy
                      by_cases hS2 : textB G = S
                      · have hc1 : (textB G == S) = true := by rw [hS2]; simp
                        rw [if_pos ⟨hg, hG0, hS2⟩, ] at HR
                        have HR2 := Lib.hid (fun e w' (h : (e = .returned (.tuple #[.slice a' ng c', .bool true])) ∧ Ins w' a' G ∧ Same w w') => HR.out e w' ⟨⟨a', c', by rw [HNG.out]; exact h.1, h.2.1⟩, h.2.2⟩)
                        clear hS2 hg hG0
                        generalize textB G = TG at *
                        go_wp2_with fail
                        refine HTy.out.mono ?_
                        rintro e w6 ⟨rfl, M⟩
                        have K6 := Lib.hid (K5.out.same M)
                        clear M
                        go_wp2
                        exact HR2.out _ _ ⟨rfl, v2n.out.same K6.out, J3.out.same K6.out⟩
                      · have hc1 : (textB G == S) = false := by simp [hS2]
                        rw [if_neg (fun h => hS2 h.2.2)] at HR
                        clear hS2 hg hG0
                        generalize textB G = TG at *
                        go_wp2_with fail
                        refine HTy.out.mono ?_
                        rintro e w6 ⟨rfl, M⟩
                        have K6 := Lib.hid (K5.out.same M)
                        clear M
                        go_wp2
                        exact HR.out _ _ ⟨rfl, J3.out.same K6.out⟩
                · have g1 : decide (((r + 2 : Nat) : Int) ≤ (S.length : Int)) = false := decide_eq_false (by omega)
                  have g2 : decide ((r : Int) + 2 ≤ (S.length : Int)) = false := decide_eq_false (by omega)
                  have g3 : decide (r + 2 ≤ S.length) = false := decide_eq_false (by omega)
                  clear hcm
                  have hIx := ins_own O3.out
                  rw [HQG.out] at hIx
                  obtain ⟨a', c', rfl, hins⟩ := hIx
                  have v2n := Lib.hid hins
                  have hGl : G.length ≤ 20000000 := by rw [← HQG.out]; omega
                  clear hins O3 HQG
                  have HBg := Lib.hid (fun c w' (M : Same wr w') => bgood_any a' c G w' (by omega) (v2n.out.same M))
                  have HTx := Lib.hid (fun c w' (hg : goodI G = true) (M : Same wr w') => rtext_any a' c G w' (by have := goodI_len hg; omega) hg (v2n.out.same M))
                  have HNe := Lib.hid (fun (h : G.length = 0) => List.eq_nil_of_length_eq_zero h)
                  obtain ⟨ng, hng⟩ : ∃ ng, G.length = ng := ⟨_, rfl⟩
                  rw [hng] at HBg HTx HNe hGl ⊢
                  have HNG := Lib.hid hng
                  clear hng
                  go_wp2_with fail
                  refine (HBg.out c' _ (Mod.refl _ _)).mono ?_
                  rintro e w5 ⟨rfl, M⟩
                  have K5 := Lib.hid M
                  clear M
                  cases hg : goodI G with
                  | false =>
                    rw [if_neg (by simp [hg])] at HR
                    go_wp2
                    exact HR.out _ _ ⟨rfl, J3.out.same K5.out⟩
                  | true =>
                    by_cases hG0 : G = []
                    · have hn0 : ng = 0 := by rw [← HNG.out, hG0]; rfl
                      rw [if_neg (by simp [hG0])] at HR
                      subst hn0
                      go_wp2
                      exact HR.out _ _ ⟨rfl, J3.out.same K5.out⟩
                    · have hn0 : 0 < ng := by rw [← HNG.out]; exact List.length_pos_iff.2 hG0
                      have hb0 : ((ng : Int) == 0) = false := beqF (by omega)
                      have HTy := Lib.hid (HTx.out c' w5 hg K5.out)
                      unfold strV at HTy
                      by_cases hS2 : textB G = S
                      · have hc1 : (textB G == S) = true := by rw [hS2]; simp
                        rw [if_pos ⟨hg, hG0, hS2⟩, ] at HR
                        have HR2 := Lib.hid (fun e w' (h : (e = .returned (.tuple #[.slice a' ng c', .bool true])) ∧ Ins w' a' G ∧ Same w w') => HR.out e w' ⟨⟨a', c', by rw [HNG.out]; exact h.1, h.2.1⟩, h.2.2⟩)
                        clear hS2 hg hG0
                        generalize textB G = TG at *
                        go_wp2_with fail
                        refine HTy.out.mono ?_
                        rintro e w6 ⟨rfl, M⟩
                        have K6 := Lib.hid (K5.out.same M)
                        clear M
                        go_wp2
                        exact HR2.out _ _ ⟨rfl, v2n.out.same K6.out, J3.out.same K6.out⟩
                      · have hc1 : (textB G == S) = false := by simp [hS2]
                        rw [if_neg (fun h => hS2 h.2.2)] at HR
                        clear hS2 hg hG0
                        generalize textB G = TG at *
                        go_wp2_with fail
                        refine HTy.out.mono ?_
                        rintro e w6 ⟨rfl, M⟩
                        have K6 := Lib.hid (K5.out.same M)
                        clear M
                        go_wp2
                        exact HR.out _ _ ⟨rfl, J3.out.same K6.out⟩
        · rw [HS1.out hth, ← List.append_assoc] at HGo
          have hpq : p ≤ q := by have := HQ.out; omega
          by_cases hl3 : q + 3 ≤ S.length
          · have g1 : decide (((q + 3 : Nat) : Int) ≤ (S.length : Int)) = true := decide_eq_true (by omega)
            have g2 : decide ((q : Int) + 3 ≤ (S.length : Int)) = true := decide_eq_true (by omega)
            have g3 : decide (q + 3 ≤ S.length) = true := decide_eq_true (by omega)
            have EX3 := cutN S q 3 ⟨#[]⟩
            have ET3 : ((S.drop q).take 3 == [226, 128, 166]) = false := by simpa [thru] using hth
            generalize (S.drop q).take 3 = T3 at *
            clear hth HS1 HS2
            go_wp2_with fail
            refine (HN.out _).mono ?_
            rintro e w2 ⟨rfl, M⟩
            have J2 := Lib.hid (J.out.same M)
            have O2 := Lib.hid (owns_same O1.out M)
            clear M O1 J HN
            go_wp2_with fail
            try rw [EX3]
            go_loopw [11, 4] (fun vn o wz => ∃ c : Int, vn = .int .i64 c ∧ v1 ≤ c ∧ (c ≤ v1 + 1 ∨ c = v1) ∧ wz.ownsRow w.heap.size 3 1 o (Q ++ rng v1 (c - 1)).length ((Q ++ rng v1 (c - 1)).map (Value.int .i64)) ∧ Same w wz) (fun vn _ _ => (v1 + 1 - intOf vn).toNat)
            case atStart => exact ⟨v1, rfl, by omega, by omega, by rw [rng_nil _ _ (by omega), List.append_nil]; exact O2.out, J2.out⟩
            case round =>
              obtain ⟨c, rfl, hc1, hc2, hown, M⟩ := hrel
              have O3 := Lib.hid hown
              have J3 := Lib.hid M
              have hs3 := J3.out.size
              clear hown M
              by_cases hcl : c ≤ v1
              · have hrs : rng v1 (c + 1 - 1) = rng v1 (c - 1) ++ [c] := by
                  have := rng_snoc v1 (c - 1) (by omega)
                  rw [show c - 1 + 1 = c by omega] at this
                  rw [show c + 1 - 1 = c by omega]; exact this
                have HRS := Lib.hid hrs
                have hrl := rng_len v1 (c - 1)
                have hll : (Q ++ rng v1 (c - 1)).length ≤ 20000000 := by rw [List.length_append, hrl]; omega
                clear hrs hrl
                generalize hLL : Q ++ rng v1 (c - 1) = LL at *
                have HLL := Lib.hid hLL
                clear hLL
                go_wp2_with (at_builtin; refine wpList_append_own _ rfl (.tmp 63) (.tmp 65) 29 rfl w.heap.size 3 i0 (.int .i64 0) 1 8 Tryd.underlying29 I0.out Z0.out Z1.out Z2.out rfl (by decide) _ _ _ rfl (O3.out.alloc _) ⟨wr.heap.size, 0, none⟩ 1 1 [.int .i64 c] rfl rfl (one_new _ _ _) (fun u hu => (by simp at hu; subst hu; rfl)) (by unfold maxLen; omega) (by omega) (by simp only [World.size_alloc]; omega) ?_; intro v' w5 hown' hgrow _)
                have P1 := Lib.hid (same_append J3.out O3.out hgrow)
                have P2 := Lib.hid hown'
                clear hown' hgrow
                go_roundw
                case rel => exact ⟨c + 1, by go_num, by omega, by omega, by rw [HRS.out, ← List.append_assoc, HLL.out, List.length_append, List.map_append]; exact P2.out, P1.out⟩
                case measure => simp [intOf]; omega
              · have hrr : rng v1 (c - 1) = rng v1 v1 := by
                  rcases hc2 with h | h
                  · rw [show c - 1 = v1 by omega]
                  · rw [rng_nil _ _ (by omega), rng_nil _ _ (by omega)]
                rw [hrr] at O3
                clear hrr
                have hrl := rng_len v1 v1
                have hql : (Q ++ rng v1 v1).length ≤ 10000 * (1000 - f') := by rw [List.length_append, hrl]; omega
                clear hrl
                generalize hQ2 : Q ++ rng v1 v1 = Q2 at *
                clear hQ2
                have hw2 : IntKind.i64.wrap ((q : Int) + 2) = ((q + 2 : Nat) : Int) := by rw [show (q : Int) + 2 = ((q + 2 : Nat) : Int) by omega]; exact IntWalk.i64_in _ (by omega)
                by_cases hcm : (S.drop q).take 2 = comma
                · rw [if_pos hcm] at HGo
                  have hl2 : q + 2 ≤ S.length := by have := congrArg List.length hcm; unfold comma at this; simp at this; omega
                  have g1 : decide (((q + 2 : Nat) : Int) ≤ (S.length : Int)) = true := decide_eq_true (by omega)
                  have g2 : decide ((q : Int) + 2 ≤ (S.length : Int)) = true := decide_eq_true (by omega)
                  have g3 : decide (q + 2 ≤ S.length) = true := decide_eq_true (by omega)
                  have EX := cutN S q 2 ⟨#[]⟩
                  rw [hcm] at EX
                  unfold comma at EX
                  clear hcm
                  go_wp2_with fail
                  go_roundw
                  case rel => exact ⟨q + 2, f', Q2, by go_num, by omega, by omega, by omega, hql, HGo.out, O3.out, J3.out⟩
                  case measure => simp [intOf]; omega
                · rw [if_neg hcm, List.append_nil] at HGo
                  have HQG := HGo
                  by_cases hl2 : q + 2 ≤ S.length
                  · have g1 : decide (((q + 2 : Nat) : Int) ≤ (S.length : Int)) = true := decide_eq_true (by omega)
                    have g2 : decide ((q : Int) + 2 ≤ (S.length : Int)) = true := decide_eq_true (by omega)
                    have g3 : decide (q + 2 ≤ S.length) = true := decide_eq_true (by omega)
                    have EX := cutN S q 2 ⟨#[]⟩
                    have ET : ((S.drop q).take 2 == [216, 140]) = false := by simpa [comma] using hcm
                    generalize (S.drop q).take 2 = T2 at *
                    clear hcm
                    have hIx := ins_own O3.out
                    rw [HQG.out] at hIx
                    obtain ⟨a', c', rfl, hins⟩ := hIx
                    have v1n := Lib.hid hins
                    have hGl : G.length ≤ 20000000 := by rw [← HQG.out]; omega
                    clear hins O3 HQG
                    have HBg := Lib.hid (fun c w' (M : Same wr w') => bgood_any a' c G w' (by omega) (v1n.out.same M))
                    have HTx := Lib.hid (fun c w' (hg : goodI G = true) (M : Same wr w') => rtext_any a' c G w' (by have := goodI_len hg; omega) hg (v1n.out.same M))
                    have HNe := Lib.hid (fun (h : G.length = 0) => List.eq_nil_of_length_eq_zero h)
                    obtain ⟨ng, hng⟩ : ∃ ng, G.length = ng := ⟨_, rfl⟩
                    rw [hng] at HBg HTx HNe hGl ⊢
                    have HNG := Lib.hid hng
                    clear hng
                    go_wp2_with fail
                    refine (HBg.out c' _ (Mod.refl _ _)).mono ?_
                    rintro e w5 ⟨rfl, M⟩
                    have K5 := Lib.hid M
                    clear M
                    cases hg : goodI G with
                    | false =>
                      rw [if_neg (by simp [hg])] at HR
                      go_wp2
                      exact HR.out _ _ ⟨rfl, J3.out.same K5.out⟩
                    | true =>
                      by_cases hG0 : G = []
                      · have hn0 : ng = 0 := by rw [← HNG.out, hG0]; rfl
                        rw [if_neg (by simp [hG0])] at HR
                        subst hn0
                        go_wp2
                        exact HR.out _ _ ⟨rfl, J3.out.same K5.out⟩
                      · have hn0 : 0 < ng := by rw [← HNG.out]; exact List.length_pos_iff.2 hG0
                        have hb0 : ((ng : Int) == 0) = false := beqF (by omega)
                        have HTy := Lib.hid (HTx.out c' w5 hg K5.out)
                        unfold strV at HTy
                        by_cases hS2 : textB G = S
                        · have hc1 : (textB G == S) = true := by rw [hS2]; simp
                          rw [if_pos ⟨hg, hG0, hS2⟩, ] at HR
                          have HR2 := Lib.hid (fun e w' (h : (e = .returned (.tuple #[.slice a' ng c', .bool true])) ∧ Ins w' a' G ∧ Same w w') => HR.out e w' ⟨⟨a', c', by rw [HNG.out]; exact h.1, h.2.1⟩, h.2.2⟩)
                          clear hS2 hg hG0
                          generalize textB G = TG at *
                          go_wp2_with fail
                          refine HTy.out.mono ?_
                          rintro e w6 ⟨rfl, M⟩
                          have K6 := Lib.hid (K5.out.same M)
                          clear M
                          go_wp2
                          exact HR2.out _ _ ⟨rfl, v1n.out.same K6.out, J3.out.same K6.out⟩
                        · have hc1 : (textB G == S) = false := by simp [hS2]
                          rw [if_neg (fun h => hS2 h.2.2)] at HR
                          clear hS2 hg hG0
                          generalize textB G = TG at *
                          go_wp2_with fail
                          refine HTy.out.mono ?_
                          rintro e w6 ⟨rfl, M⟩
                          have K6 := Lib.hid (K5.out.same M)
                          clear M
                          go_wp2
                          exact HR.out _ _ ⟨rfl, J3.out.same K6.out⟩
                  · have g1 : decide (((q + 2 : Nat) : Int) ≤ (S.length : Int)) = false := decide_eq_false (by omega)
                    have g2 : decide ((q : Int) + 2 ≤ (S.length : Int)) = false := decide_eq_false (by omega)
                    have g3 : decide (q + 2 ≤ S.length) = false := decide_eq_false (by omega)
                    clear hcm
                    have hIx := ins_own O3.out
                    rw [HQG.out] at hIx
                    obtain ⟨a', c', rfl, hins⟩ := hIx
                    have v1n := Lib.hid hins
                    have hGl : G.length ≤ 20000000 := by rw [← HQG.out]; omega
                    clear hins O3 HQG
                    have HBg := Lib.hid (fun c w' (M : Same wr w') => bgood_any a' c G w' (by omega) (v1n.out.same M))
                    have HTx := Lib.hid (fun c w' (hg : goodI G = true) (M : Same wr w') => rtext_any a' c G w' (by have := goodI_len hg; omega) hg (v1n.out.same M))
                    have HNe := Lib.hid (fun (h : G.length = 0) => List.eq_nil_of_length_eq_zero h)
                    obtain ⟨ng, hng⟩ : ∃ ng, G.length = ng := ⟨_, rfl⟩
                    rw [hng] at HBg HTx HNe hGl ⊢
                    have HNG := Lib.hid hng
                    clear hng
                    go_wp2_with fail
                    refine (HBg.out c' _ (Mod.refl _ _)).mono ?_
                    rintro e w5 ⟨rfl, M⟩
                    have K5 := Lib.hid M
                    clear M
                    cases hg : goodI G with
                    | false =>
                      rw [if_neg (by simp [hg])] at HR
                      go_wp2
                      exact HR.out _ _ ⟨rfl, J3.out.same K5.out⟩
                    | true =>
                      by_cases hG0 : G = []
                      · have hn0 : ng = 0 := by rw [← HNG.out, hG0]; rfl
                        rw [if_neg (by simp [hG0])] at HR
                        subst hn0
                        go_wp2
                        exact HR.out _ _ ⟨rfl, J3.out.same K5.out⟩
                      · have hn0 : 0 < ng := by rw [← HNG.out]; exact List.length_pos_iff.2 hG0
                        have hb0 : ((ng : Int) == 0) = false := beqF (by omega)
                        have HTy := Lib.hid (HTx.out c' w5 hg K5.out)
                        unfold strV at HTy
                        by_cases hS2 : textB G = S
                        · have hc1 : (textB G == S) = true := by rw [hS2]; simp
                          rw [if_pos ⟨hg, hG0, hS2⟩, ] at HR
                          have HR2 := Lib.hid (fun e w' (h : (e = .returned (.tuple #[.slice a' ng c', .bool true])) ∧ Ins w' a' G ∧ Same w w') => HR.out e w' ⟨⟨a', c', by rw [HNG.out]; exact h.1, h.2.1⟩, h.2.2⟩)
                          clear hS2 hg hG0
                          generalize textB G = TG at *
                          go_wp2_with fail
                          refine HTy.out.mono ?_
                          rintro e w6 ⟨rfl, M⟩
                          have K6 := Lib.hid (K5.out.same M)
                          clear M
                          go_wp2
                          exact HR2.out _ _ ⟨rfl, v1n.out.same K6.out, J3.out.same K6.out⟩
                        · have hc1 : (textB G == S) = false := by simp [hS2]
                          rw [if_neg (fun h => hS2 h.2.2)] at HR
                          clear hS2 hg hG0
                          generalize textB G = TG at *
                          go_wp2_with fail
                          refine HTy.out.mono ?_
                          rintro e w6 ⟨rfl, M⟩
                          have K6 := Lib.hid (K5.out.same M)
                          clear M
                          go_wp2
                          exact HR.out _ _ ⟨rfl, J3.out.same K6.out⟩
          · have g1 : decide (((q + 3 : Nat) : Int) ≤ (S.length : Int)) = false := decide_eq_false (by omega)
            have g2 : decide ((q : Int) + 3 ≤ (S.length : Int)) = false := decide_eq_false (by omega)
            have g3 : decide (q + 3 ≤ S.length) = false := decide_eq_false (by omega)
            clear hth HS1 HS2
            go_wp2_with fail
            refine (HN.out _).mono ?_
            rintro e w2 ⟨rfl, M⟩
            have J2 := Lib.hid (J.out.same M)
            have O2 := Lib.hid (owns_same O1.out M)
            clear M O1 J HN
            go_wp2_with fail
            go_loopw [11, 4] (fun vn o wz => ∃ c : Int, vn = .int .i64 c ∧ v1 ≤ c ∧ (c ≤ v1 + 1 ∨ c = v1) ∧ wz.ownsRow w.heap.size 3 1 o (Q ++ rng v1 (c - 1)).length ((Q ++ rng v1 (c - 1)).map (Value.int .i64)) ∧ Same w wz) (fun vn _ _ => (v1 + 1 - intOf vn).toNat)
            case atStart => exact ⟨v1, rfl, by omega, by omega, by rw [rng_nil _ _ (by omega), List.append_nil]; exact O2.out, J2.out⟩
            case round =>
              obtain ⟨c, rfl, hc1, hc2, hown, M⟩ := hrel
              have O3 := Lib.hid hown
              have J3 := Lib.hid M
              have hs3 := J3.out.size
              clear hown M
              by_cases hcl : c ≤ v1
              · have hrs : rng v1 (c + 1 - 1) = rng v1 (c - 1) ++ [c] := by
                  have := rng_snoc v1 (c - 1) (by omega)
                  rw [show c - 1 + 1 = c by omega] at this
                  rw [show c + 1 - 1 = c by omega]; exact this
                have HRS := Lib.hid hrs
                have hrl := rng_len v1 (c - 1)
                have hll : (Q ++ rng v1 (c - 1)).length ≤ 20000000 := by rw [List.length_append, hrl]; omega
                clear hrs hrl
                generalize hLL : Q ++ rng v1 (c - 1) = LL at *
                have HLL := Lib.hid hLL
                clear hLL
                go_wp2_with (at_builtin; refine wpList_append_own _ rfl (.tmp 63) (.tmp 65) 29 rfl w.heap.size 3 i0 (.int .i64 0) 1 8 Tryd.underlying29 I0.out Z0.out Z1.out Z2.out rfl (by decide) _ _ _ rfl (O3.out.alloc _) ⟨wr.heap.size, 0, none⟩ 1 1 [.int .i64 c] rfl rfl (one_new _ _ _) (fun u hu => (by simp at hu; subst hu; rfl)) (by unfold maxLen; omega) (by omega) (by simp only [World.size_alloc]; omega) ?_; intro v' w5 hown' hgrow _)
                have P1 := Lib.hid (same_append J3.out O3.out hgrow)
                have P2 := Lib.hid hown'
                clear hown' hgrow
                go_roundw
                case rel => exact ⟨c + 1, by go_num, by omega, by omega, by rw [HRS.out, ← List.append_assoc, HLL.out, List.length_append, List.map_append]; exact P2.out, P1.out⟩
                case measure => simp [intOf]; omega
              · have hrr : rng v1 (c - 1) = rng v1 v1 := by
                  rcases hc2 with h | h
                  · rw [show c - 1 = v1 by omega]
                  · rw [rng_nil _ _ (by omega), rng_nil _ _ (by omega)]
                rw [hrr] at O3
                clear hrr
                have hrl := rng_len v1 v1
                have hql : (Q ++ rng v1 v1).length ≤ 10000 * (1000 - f') := by rw [List.length_append, hrl]; omega
                clear hrl
                generalize hQ2 : Q ++ rng v1 v1 = Q2 at *
                clear hQ2
                have hw2 : IntKind.i64.wrap ((q : Int) + 2) = ((q + 2 : Nat) : Int) := by rw [show (q : Int) + 2 = ((q + 2 : Nat) : Int) by omega]; exact IntWalk.i64_in _ (by omega)
                by_cases hcm : (S.drop q).take 2 = comma
                · rw [if_pos hcm] at HGo
                  have hl2 : q + 2 ≤ S.length := by have := congrArg List.length hcm; unfold comma at this; simp at this; omega
                  have g1 : decide (((q + 2 : Nat) : Int) ≤ (S.length : Int)) = true := decide_eq_true (by omega)
                  have g2 : decide ((q : Int) + 2 ≤ (S.length : Int)) = true := decide_eq_true (by omega)
                  have g3 : decide (q + 2 ≤ S.length) = true := decide_eq_true (by omega)
                  have EX := cutN S q 2 ⟨#[]⟩
                  rw [hcm] at EX
                  unfold comma at EX
                  clear hcm
                  go_wp2_with fail
                  go_roundw
                  case rel => exact ⟨q + 2, f', Q2, by go_num, by omega, by omega, by omega, hql, HGo.out, O3.out, J3.out⟩
                  case measure => simp [intOf]; omega
                · rw [if_neg hcm, List.append_nil] at HGo
                  have HQG := HGo
                  by_cases hl2 : q + 2 ≤ S.length
                  · have g1 : decide (((q + 2 : Nat) : Int) ≤ (S.length : Int)) = true := decide_eq_true (by omega)
                    have g2 : decide ((q : Int) + 2 ≤ (S.length : Int)) = true := decide_eq_true (by omega)
                    have g3 : decide (q + 2 ≤ S.length) = true := decide_eq_true (by omega)
                    have EX := cutN S q 2 ⟨#[]⟩
                    have ET : ((S.drop q).take 2 == [216, 140]) = false := by simpa [comma] using hcm
                    generalize (S.drop q).take 2 = T2 at *
                    clear hcm
                    have hIx := ins_own O3.out
                    rw [HQG.out] at hIx
                    obtain ⟨a', c', rfl, hins⟩ := hIx
                    have v1n := Lib.hid hins
                    have hGl : G.length ≤ 20000000 := by rw [← HQG.out]; omega
                    clear hins O3 HQG
                    have HBg := Lib.hid (fun c w' (M : Same wr w') => bgood_any a' c G w' (by omega) (v1n.out.same M))
                    have HTx := Lib.hid (fun c w' (hg : goodI G = true) (M : Same wr w') => rtext_any a' c G w' (by have := goodI_len hg; omega) hg (v1n.out.same M))
                    have HNe := Lib.hid (fun (h : G.length = 0) => List.eq_nil_of_length_eq_zero h)
                    obtain ⟨ng, hng⟩ : ∃ ng, G.length = ng := ⟨_, rfl⟩
                    rw [hng] at HBg HTx HNe hGl ⊢
                    have HNG := Lib.hid hng
                    clear hng
                    go_wp2_with fail
                    refine (HBg.out c' _ (Mod.refl _ _)).mono ?_
                    rintro e w5 ⟨rfl, M⟩
                    have K5 := Lib.hid M
                    clear M
                    cases hg : goodI G with
                    | false =>
                      rw [if_neg (by simp [hg])] at HR
                      go_wp2
                      exact HR.out _ _ ⟨rfl, J3.out.same K5.out⟩
                    | true =>
                      by_cases hG0 : G = []
                      · have hn0 : ng = 0 := by rw [← HNG.out, hG0]; rfl
                        rw [if_neg (by simp [hG0])] at HR
                        subst hn0
                        go_wp2
                        exact HR.out _ _ ⟨rfl, J3.out.same K5.out⟩
                      · have hn0 : 0 < ng := by rw [← HNG.out]; exact List.length_pos_iff.2 hG0
                        have hb0 : ((ng : Int) == 0) = false := beqF (by omega)
                        have HTy := Lib.hid (HTx.out c' w5 hg K5.out)
                        unfold strV at HTy
                        by_cases hS2 : textB G = S
                        · have hc1 : (textB G == S) = true := by rw [hS2]; simp
                          rw [if_pos ⟨hg, hG0, hS2⟩, ] at HR
                          have HR2 := Lib.hid (fun e w' (h : (e = .returned (.tuple #[.slice a' ng c', .bool true])) ∧ Ins w' a' G ∧ Same w w') => HR.out e w' ⟨⟨a', c', by rw [HNG.out]; exact h.1, h.2.1⟩, h.2.2⟩)
                          clear hS2 hg hG0
                          generalize textB G = TG at *
                          go_wp2_with fail
                          refine HTy.out.mono ?_
                          rintro e w6 ⟨rfl, M⟩
                          have K6 := Lib.hid (K5.out.same M)
                          clear M
                          go_wp2
                          exact HR2.out _ _ ⟨rfl, v1n.out.same K6.out, J3.out.same K6.out⟩
                        · have hc1 : (textB G == S) = false := by simp [hS2]
                          rw [if_neg (fun h => hS2 h.2.2)] at HR
                          clear hS2 hg hG0
                          generalize textB G = TG at *
                          go_wp2_with fail
                          refine HTy.out.mono ?_
                          rintro e w6 ⟨rfl, M⟩
                          have K6 := Lib.hid (K5.out.same M)
                          clear M
                          go_wp2
                          exact HR.out _ _ ⟨rfl, J3.out.same K6.out⟩
                  · have g1 : decide (((q + 2 : Nat) : Int) ≤ (S.length : Int)) = false := decide_eq_false (by omega)
                    have g2 : decide ((q : Int) + 2 ≤ (S.length : Int)) = false := decide_eq_false (by omega)
                    have g3 : decide (q + 2 ≤ S.length) = false := decide_eq_false (by omega)
                    clear hcm
                    have hIx := ins_own O3.out
                    rw [HQG.out] at hIx
                    obtain ⟨a', c', rfl, hins⟩ := hIx
                    have v1n := Lib.hid hins
                    have hGl : G.length ≤ 20000000 := by rw [← HQG.out]; omega
                    clear hins O3 HQG
                    have HBg := Lib.hid (fun c w' (M : Same wr w') => bgood_any a' c G w' (by omega) (v1n.out.same M))
                    have HTx := Lib.hid (fun c w' (hg : goodI G = true) (M : Same wr w') => rtext_any a' c G w' (by have := goodI_len hg; omega) hg (v1n.out.same M))
                    have HNe := Lib.hid (fun (h : G.length = 0) => List.eq_nil_of_length_eq_zero h)
                    obtain ⟨ng, hng⟩ : ∃ ng, G.length = ng := ⟨_, rfl⟩
                    rw [hng] at HBg HTx HNe hGl ⊢
                    have HNG := Lib.hid hng
                    clear hng
                    go_wp2_with fail
                    refine (HBg.out c' _ (Mod.refl _ _)).mono ?_
                    rintro e w5 ⟨rfl, M⟩
                    have K5 := Lib.hid M
                    clear M
                    cases hg : goodI G with
                    | false =>
                      rw [if_neg (by simp [hg])] at HR
                      go_wp2
                      exact HR.out _ _ ⟨rfl, J3.out.same K5.out⟩
                    | true =>
                      by_cases hG0 : G = []
                      · have hn0 : ng = 0 := by rw [← HNG.out, hG0]; rfl
                        rw [if_neg (by simp [hG0])] at HR
                        subst hn0
                        go_wp2
                        exact HR.out _ _ ⟨rfl, J3.out.same K5.out⟩
                      · have hn0 : 0 < ng := by rw [← HNG.out]; exact List.length_pos_iff.2 hG0
                        have hb0 : ((ng : Int) == 0) = false := beqF (by omega)
                        have HTy := Lib.hid (HTx.out c' w5 hg K5.out)
                        unfold strV at HTy
                        by_cases hS2 : textB G = S
                        · have hc1 : (textB G == S) = true := by rw [hS2]; simp
                          rw [if_pos ⟨hg, hG0, hS2⟩, ] at HR
                          have HR2 := Lib.hid (fun e w' (h : (e = .returned (.tuple #[.slice a' ng c', .bool true])) ∧ Ins w' a' G ∧ Same w w') => HR.out e w' ⟨⟨a', c', by rw [HNG.out]; exact h.1, h.2.1⟩, h.2.2⟩)
                          clear hS2 hg hG0
                          generalize textB G = TG at *
                          go_wp2_with fail
                          refine HTy.out.mono ?_
                          rintro e w6 ⟨rfl, M⟩
                          have K6 := Lib.hid (K5.out.same M)
                          clear M
                          go_wp2
                          exact HR2.out _ _ ⟨rfl, v1n.out.same K6.out, J3.out.same K6.out⟩
                        · have hc1 : (textB G == S) = false := by simp [hS2]
                          rw [if_neg (fun h => hS2 h.2.2)] at HR
                          clear hS2 hg hG0
                          generalize textB G = TG at *
                          go_wp2_with fail
                          refine HTy.out.mono ?_
                          rintro e w6 ⟨rfl, M⟩
                          have K6 := Lib.hid (K5.out.same M)
                          clear M
                          go_wp2
                          exact HR.out _ _ ⟨rfl, J3.out.same K6.out⟩
      · have hd := hgo
        rw [List.drop_of_length_le (by omega), rGo_nil, List.append_nil] at hd
        have HQG := Lib.hid hd
        clear hd hgo
        have hIx := ins_own O1.out
        rw [HQG.out] at hIx
        obtain ⟨a', c', rfl, hins⟩ := hIx
        have HIn := Lib.hid hins
        have hGl : G.length ≤ 20000000 := by rw [← HQG.out]; omega
        clear hins O1 HQG
        have HBg := Lib.hid (fun c w' (M : Same wr w') => bgood_any a' c G w' (by omega) (HIn.out.same M))
        have HTx := Lib.hid (fun c w' (hg : goodI G = true) (M : Same wr w') => rtext_any a' c G w' (by have := goodI_len hg; omega) hg (HIn.out.same M))
        have HNe := Lib.hid (fun (h : G.length = 0) => List.eq_nil_of_length_eq_zero h)
        obtain ⟨ng, hng⟩ : ∃ ng, G.length = ng := ⟨_, rfl⟩
        rw [hng] at HBg HTx HNe hGl ⊢
        have HNG := Lib.hid hng
        clear hng
        go_wp2_with fail
        refine (HBg.out c' _ (Mod.refl _ _)).mono ?_
        rintro e w5 ⟨rfl, M⟩
        have K5 := Lib.hid M
        clear M
        cases hg : goodI G with
        | false =>
          rw [if_neg (by simp [hg])] at HR
          go_wp2
          exact HR.out _ _ ⟨rfl, J.out.same K5.out⟩
        | true =>
          by_cases hG0 : G = []
          · have hn0 : ng = 0 := by rw [← HNG.out, hG0]; rfl
            rw [if_neg (by simp [hG0])] at HR
            subst hn0
            go_wp2
            exact HR.out _ _ ⟨rfl, J.out.same K5.out⟩
          · have hn0 : 0 < ng := by rw [← HNG.out]; exact List.length_pos_iff.2 hG0
            have hb0 : ((ng : Int) == 0) = false := beqF (by omega)
            have HTy := Lib.hid (HTx.out c' w5 hg K5.out)
            unfold strV at HTy
            by_cases hS2 : textB G = S
            · have hc1 : (textB G == S) = true := by rw [hS2]; simp
              rw [if_pos ⟨hg, hG0, hS2⟩, ] at HR
              have HR2 := Lib.hid (fun e w' (h : (e = .returned (.tuple #[.slice a' ng c', .bool true])) ∧ Ins w' a' G ∧ Same w w') => HR.out e w' ⟨⟨a', c', by rw [HNG.out]; exact h.1, h.2.1⟩, h.2.2⟩)
              clear hS2 hg hG0
              generalize textB G = TG at *
              go_wp2_with fail
              refine HTy.out.mono ?_
              rintro e w6 ⟨rfl, M⟩
              have K6 := Lib.hid (K5.out.same M)
              clear M
              go_wp2
              exact HR2.out _ _ ⟨rfl, HIn.out.same K6.out, J.out.same K6.out⟩
            · have hc1 : (textB G == S) = false := by simp [hS2]
              rw [if_neg (fun h => hS2 h.2.2)] at HR
              clear hS2 hg hG0
              generalize textB G = TG at *
              go_wp2_with fail
              refine HTy.out.mono ?_
              rintro e w6 ⟨rfl, M⟩
              have K6 := Lib.hid (K5.out.same M)
              clear M
              go_wp2
              exact HR.out _ _ ⟨rfl, J.out.same K6.out⟩
end Go.Proofs.YthkcdoneghcglaaDoor
