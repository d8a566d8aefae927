import Derived.Test.YthkcdoneghcglaaDoorScrAD
import Derived.Test.YthkcdoneghcglaaDoorScrAE
set_option linter.unusedSimpArgs false
set_option linter.unusedVariables false
/- ScrubBack's walk. -/
namespace Go.Proofs.YthkcdoneghcglaaDoor
open Go Go.RowKit
theorem parseS_nil : parseS [] = some [] := rfl
theorem textL_ne (L : List Sm) (h : L ≠ []) : textL L ≠ [] := by
  cases L with
  | nil => exact absurd rfl h
  | cons x r =>
    intro e
    have := congrArg List.length e
    unfold textL at this
    simp at this
/-- What becomes of chunks the other way round. -/
theorem fl_sw (A B : List Sm) : (if goodL B && goodL A then ag B A else []) = (if goodL A && goodL B then ag A B else []).map sw := by
  rw [Bool.and_comm]
  split
  · exact ag_sw _ A B (Nat.le_refl _)
  · rfl
theorem ag_len : ∀ (n : Nat) (a b : List Sm), a.length + b.length ≤ n → (ag a b).length ≤ n
  | _, [], [], _ => by rw [ag_nil]; simp
  | 0, x :: a, b, h => by simp at h
  | 0, [], y :: b, h => by simp at h
  | n + 1, x :: a, [], h => by
    have := ag_len n a [] (by simp at h ⊢; omega)
    rw [ag_l]; simp; omega
  | n + 1, [], y :: b, h => by
    have := ag_len n [] b (by simp at h ⊢; omega)
    rw [ag_r]; simp; omega
  | n + 1, x :: a, y :: b, h => by
    simp only [List.length_cons] at h
    by_cases h1 : x.c < y.c
    · have := ag_len n a (y :: b) (by simp; omega)
      rw [ag_lt a b h1]; simp; omega
    · by_cases h2 : y.c < x.c
      · have := ag_len n (x :: a) b (by simp; omega)
        rw [ag_gt a b h2]; simp; omega
      · have := ag_len n a b (by omega)
        rw [ag_eq a b (by omega)]; unfold hit; split
        · omega
        · simp; omega
set_option maxRecDepth 10000 in
set_option maxHeartbeats 16000000 in
theorem scrubBack_walk (a1 a2 : Option Addr) (c1 c2 : Nat) (A B : List Sm) (w : World) (hL : LibOK w) (hk1 : A.length ≤ c1) (hk2 : B.length ≤ c2) (hm1 : c1 ≤ 9223372036854775807) (hm2 : c2 ≤ 9223372036854775807) (hI1 : Sms w a1 A) (hI2 : Sms w a2 B) (hw1 : ∀ x ∈ A, x.h < 4294967296) :
    Calls Tryd.prog 4 #[.slice a1 A.length c1, .slice a2 B.length c2] w fun e w' => e = .returned (.bool true) ∧ Same w w' := by
  refine opq fun R HR => ?_
  have HL := Lib.hid hL
  have HA := Lib.hid (awake_any w hL)
  have h4 := hL.lt
  clear hL
  by_cases hshort : A.length ≤ 30 ∧ B.length ≤ 30
  · obtain ⟨hA, hB⟩ := hshort
    have HIA := Lib.hid hI1
    have HAg := Lib.hid (fun (w' : World) (M : Same w w') => against_any a1 a2 c1 c2 A B w' (by omega) (by omega) hk1 hk2 hm1 hm2 (hI1.same M) (hI2.same M))
    have HAb := Lib.hid (fun (w' : World) (M : Same w w') => against_any a2 a1 c2 c1 B A w' (by omega) (by omega) hk2 hk1 hm2 hm1 (hI2.same M) (hI1.same M))
    have HAa := Lib.hid (fun (w' : World) (M : Same w w') => show Calls Tryd.prog 10 #[.slice a1 A.length c1, .slice a1 A.length c1] w' fun e w'' => (∃ a c, e = .returned (.slice a 0 c)) ∧ Same w' w'' by
      refine (against_any a1 a1 c1 c1 A A w' (by omega) (by omega) hk1 hk1 hm1 hm1 (hI1.same M) (hI1.same M)).mono ?_
      rintro e w2 ⟨⟨a, c, rfl, _⟩, M⟩
      refine ⟨⟨a, c, ?_⟩, M⟩
      rw [ag_self]; split <;> rfl)
    have hswp := fl_sw A B
    have hfl : (if goodL A && goodL B then ag A B else []).length ≤ 60 := by
      split
      · exact ag_len 60 A B (by omega)
      · simp
    obtain ⟨F, hFL⟩ : ∃ F, (if goodL A && goodL B then ag A B else []) = F := ⟨_, rfl⟩
    rw [hFL] at hswp HAg hfl
    rw [hswp] at HAb
    rw [List.length_map] at HAb
    obtain ⟨nF, hnF⟩ : ∃ n, F.length = n := ⟨_, rfl⟩
    rw [hnF] at HAg HAb hfl
    have HNF := Lib.hid hnF
    have HTx := Lib.hid (fun (w' : World) (M : Same w w') (hL : LibOK w') => text_any a1 c1 A w' (by omega) (hI1.same M) hw1 hL)
    have htx : ((if goodL A = true then textL A else []) = [] ∨ ((if goodL A = true then textL A else []) ≠ [] ∧ parseS (if goodL A = true then textL A else []) = some A)) ∧ (if goodL A = true then textL A else []).length ≤ 2700 := by
      cases hg : goodL A with
      | false => exact ⟨.inl rfl, by simp⟩
      | true =>
        rw [if_pos rfl]
        refine ⟨?_, textL_len A 30 hA (good_can hg)⟩
        by_cases he : A = []
        · left; rw [he]; rfl
        · right; exact ⟨textL_ne A he, parse_text A hg hw1⟩
    obtain ⟨htx1, htx2⟩ := htx
    generalize (if goodL A = true then textL A else []) = tx at *
    have HPs := Lib.hid (fun (w' : World) (hL : LibOK w') => parse_any tx (by omega) w' hL)
    have hbt := bytes_size tx
    generalize hn1 : A.length = n1 at *
    generalize hn2 : B.length = n2 at *
    have HN1 := Lib.hid hn1
    unfold strV at HTx HPs
    clear hI1 hI2 hw1 hFL hnF hswp hn1
    go_enter Tryd.func4, Tryd.ntmps4
    go_wp2_with fail
    refine HA.out.mono ?_
    rintro e w1 ⟨rfl, M⟩
    have K1 := Lib.hid M
    clear M HA
    go_wp2_with fail
    refine (HTx.out _ K1.out (HL.out.same K1.out)).mono ?_
    rintro e w2 ⟨rfl, M⟩
    have K2 := Lib.hid (K1.out.same M)
    clear M K1
    go_wp2_with fail
    rcases htx1 with htx | ⟨htx, hps⟩
    · rw [htx, parseS_nil] at HPs
      unfold PaS at HPs
      dsimp only at HPs
      subst htx
      refine (HPs.out _ (HL.out.same K2.out)).mono ?_
      rintro e w3 ⟨⟨ap, cp, rfl, _⟩, M⟩
      have K3 := Lib.hid (K2.out.same M)
      clear M HPs K2
      simp only [List.length_nil]
      go_wp2_with fail
      refine (HTx.out _ K3.out (HL.out.same K3.out)).mono ?_
      rintro e w4 ⟨rfl, M⟩
      have K4 := Lib.hid (K3.out.same M)
      clear M HTx
      go_wp2
      exact HR.out _ _ ⟨rfl, K4.out⟩
    · rw [hps] at HPs
      unfold PaS at HPs
      dsimp only at HPs
      have hemp : tx.isEmpty = false := by cases tx; exact absurd rfl htx; rfl
      refine (HPs.out _ (HL.out.same K2.out)).mono ?_
      rintro e w3 ⟨⟨ap, cp, rfl, hsp⟩, M⟩
      have K3 := Lib.hid (K2.out.same M)
      have P3 := Lib.hid hsp
      rw [HN1.out]
      clear M HPs K2 hsp htx hps
      go_wp2_with fail
      refine (HTx.out _ K3.out (HL.out.same K3.out)).mono ?_
      rintro e w4 ⟨rfl, M⟩
      have K4 := Lib.hid (K3.out.same M)
      have P4 := Lib.hid (P3.out.same M)
      clear M HTx K3 P3
      go_wp2_with fail
      refine (HAa.out _ K4.out).mono ?_
      rintro e w5 ⟨⟨a5, c5, rfl⟩, M⟩
      have K5 := Lib.hid (K4.out.same M)
      have P5 := Lib.hid (P4.out.same M)
      clear M HAa K4 P4
      go_wp2_with fail
      go_loopw [7] (fun vi wr => ∃ i : Nat, vi = .int .i64 (i : Int) ∧ i ≤ n1 ∧ Same w5 wr) (fun vi _ => n1 - (intOf vi).toNat)
      case atStart => exact ⟨0, rfl, by omega, Mod.refl _ _⟩
      case round =>
        obtain ⟨i, rfl, hi, hM⟩ := hrel
        have J := Lib.hid hM
        clear hM
        by_cases hlt : i < n1
        · obtain ⟨b1, o1, rfl, hb1, hc1⟩ := HIA.out (by rw [HN1.out]; omega)
          obtain ⟨b2, o2, rfl, hb2, hc2⟩ := P5.out (by rw [HN1.out]; omega)
          obtain ⟨x, hx⟩ : ∃ x, A[i]? = some x := ⟨_, List.getElem?_eq_getElem (by rw [HN1.out]; exact hlt)⟩
          obtain ⟨x0, x1, x2, x3⟩ := cell4_same (K5.out.same J.out) hb1 (hc1 i x hx)
          obtain ⟨y0, y1, y2, y3⟩ := cell4_same J.out hb2 (hc2 i x hx)
          clear hc1 hc2 hx
          obtain ⟨xc, xt, xs, xh⟩ := x
          dsimp only at x0 x1 x2 x3 y0 y1 y2 y3
          go_wp2_with fail
          go_big_quiet (fail)
          go_wp2
          go_roundw
          case rel => exact ⟨i + 1, by go_num, by omega, J.out.drewN _⟩
          case measure => simp [intOf]; omega
        · obtain rfl : i = n1 := by omega
          have K6 := Lib.hid (K5.out.same J.out)
          clear J K5 P5
          go_wp2_with fail
          refine (HAg.out _ K6.out).mono ?_
          rintro e w7 ⟨⟨a7, c7, rfl, hf7⟩, M⟩
          have K7 := Lib.hid (K6.out.same M)
          have F7 := Lib.hid hf7
          clear M hf7 HAg K6
          go_wp2_with fail
          refine (HAb.out _ K7.out).mono ?_
          rintro e w8 ⟨⟨a8, c8, rfl, hf8⟩, M⟩
          have K8 := Lib.hid (K7.out.same M)
          have F8 := Lib.hid hf8
          have F78 := Lib.hid (F7.out.same M)
          clear M hf8 HAb K7 F7
          go_wp2_with fail
          go_loopw [10] (fun vi wr => ∃ i : Nat, vi = .int .i64 (i : Int) ∧ i ≤ nF ∧ Same w8 wr) (fun vi _ => nF - (intOf vi).toNat)
          case atStart => exact ⟨0, rfl, by omega, Mod.refl _ _⟩
          case round =>
            obtain ⟨j, rfl, hj, hM⟩ := hrel
            have J := Lib.hid hM
            clear hM
            by_cases hlt2 : j < nF
            · obtain ⟨b1, o1, rfl, hb1, hc1⟩ := F78.out (by rw [HNF.out]; omega)
              obtain ⟨b2, o2, rfl, hb2, hc2⟩ := F8.out (by rw [List.length_map, HNF.out]; omega)
              obtain ⟨p, hx⟩ : ∃ p, F[j]? = some p := ⟨_, List.getElem?_eq_getElem (by rw [HNF.out]; exact hlt2)⟩
              have hx2 : (F.map sw)[j]? = some (sw p) := by rw [List.getElem?_map, hx]; rfl
              have g1 := hc1 j p hx
              have g2 := hc2 j (sw p) hx2
              have x0 := (J.out.cell hb1 (fun q => q) _).trans g1.1
              have x1 := (J.out.cell hb1 (fun q => q) _).trans g1.2
              have y0 := (J.out.cell hb2 (fun q => q) _).trans g2.1
              have y1 := (J.out.cell hb2 (fun q => q) _).trans g2.2
              clear hc1 hc2 hx hx2 g1 g2
              obtain ⟨pc, pk⟩ := p
              unfold sw at y0 y1
              dsimp only at x0 x1 y0 y1
              by_cases h1 : pk = 1
              · rw [h1] at x1 y1
                rw [if_pos rfl] at y1
                clear h1
                go_wp2_with fail
                go_big_quiet (fail)
                go_wp2
                go_roundw
                case rel => exact ⟨j + 1, by go_num, by omega, J.out.drewN _⟩
                case measure => simp [intOf]; omega
              · rw [if_neg h1] at y1
                have b1' := beqF h1
                by_cases h2 : pk = 2
                · rw [h2] at x1 y1
                  rw [if_pos rfl] at y1
                  clear h1 h2 b1'
                  go_wp2_with fail
                  go_big_quiet (fail)
                  go_wp2
                  go_roundw
                  case rel => exact ⟨j + 1, by go_num, by omega, J.out.drewN _⟩
                  case measure => simp [intOf]; omega
                · rw [if_neg h2] at y1
                  have b2' := beqF h2
                  clear h1 h2
                  go_wp2_with fail
                  go_big_quiet (fail)
                  go_wp2
                  go_roundw
                  case rel => exact ⟨j + 1, by go_num, by omega, J.out.drewN _⟩
                  case measure => simp [intOf]; omega
            · obtain rfl : j = nF := by omega
              go_wp2
              exact HR.out _ _ ⟨rfl, K8.out.same J.out⟩
  · have hd3 : (¬ A.length ≤ 30) ∨ (A.length ≤ 30 ∧ ¬ B.length ≤ 30) := by omega
    clear hshort
    generalize A.length = n1 at *
    generalize B.length = n2 at *
    go_enter Tryd.func4, Tryd.ntmps4
    go_wp2_with fail
    refine HA.out.mono ?_
    rintro e w1 ⟨rfl, M⟩
    have K1 := Lib.hid M
    clear M HA
    rcases hd3 with hd | ⟨hd, hd'⟩
    all_goals
      go_wp2
      exact HR.out _ _ ⟨rfl, K1.out⟩
end Go.Proofs.YthkcdoneghcglaaDoor
