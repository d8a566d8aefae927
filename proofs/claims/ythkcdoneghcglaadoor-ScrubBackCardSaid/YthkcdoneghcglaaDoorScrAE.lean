import Derived.Test.YthkcdoneghcglaaDoorScrAD
import Derived.Test.YthkcdoneghcglaaDoorScrAA
import Derived.Test.YthkcdoneghcglaaDoorScrAC
import Derived.Test.YthkcdoneghcglaaDoorScrX
import Derived.Test.YthkcdoneghcglaaDoorScrY
import Derived.Test.YthkcdoneghcglaaDoorScrZ
set_option linter.unusedSimpArgs false
set_option linter.unusedVariables false
/- ScrubExact's walk. -/
namespace Go.Proofs.YthkcdoneghcglaaDoor
open Go Go.RowKit
theorem Fds.same {w w' : World} {a : Option Addr} {F : List (Int × Int)} (h : Fds w a F) (M : Same w w') : Fds w' a F := by
  intro hp
  obtain ⟨b, o, ha, hb, hc⟩ := h hp
  refine ⟨b, o, ha, Nat.lt_of_lt_of_le hb M.size, fun i p hi => ?_⟩
  have := hc i p hi
  exact ⟨(M.cell hb (fun q => q) _).trans this.1, (M.cell hb (fun q => q) _).trans this.2⟩
theorem drop_cons {α : Type} {L r : List α} {k : Nat} {x : α} (h : L.drop k = x :: r) : L[k]? = some x ∧ L.drop (k + 1) = r := by
  constructor
  · have := List.getElem?_drop (xs := L) (i := k) (j := 0)
    rw [h] at this
    simpa using this.symm
  · have : L.drop (k + 1) = (L.drop k).drop 1 := by rw [List.drop_drop]
    rw [this, h]; rfl
theorem finds_at (A B : List Sm) (c : Nat) (h : c < 1024) : finds A B (c : Int) (1024 - c) = hit (c : Int) (kat A B (c : Int)) (finds A B ((c + 1 : Nat) : Int) (1024 - (c + 1))) := by
  rw [show 1024 - c = (1024 - (c + 1)) + 1 from by omega]
  rw [finds]; rfl
theorem finds_len (A B : List Sm) : ∀ (n : Nat) (c : Int), (finds A B c n).length ≤ n
  | 0, _ => by simp [finds]
  | n + 1, c => by
    have := finds_len A B n (c + 1)
    rw [finds]; unfold hit
    split
    · omega
    · simp; omega
theorem pars_len (f : List UInt8 → Option Sm) : ∀ (k : Nat) (s : List UInt8) (L : List Sm), pars f k s = some L → L.length ≤ s.length
  | 0, s, L, h => by
    rw [pars] at h
    split at h
    · cases h; simp
    · cases h
  | k + 1, s, L, h => by
    rw [pars] at h
    split at h
    · cases h; simp
    · split at h
      · cases h
      · rename_i a r hn
        split at h
        · cases h
        · rename_i x hx
          obtain ⟨L', hL', rfl⟩ := Option.map_eq_some_iff.1 h
          have := pars_len f k r L' hL'
          have := nl_len hn
          simp; omega
theorem parse_len (s : List UInt8) (L : List Sm) (h : parseS s = some L) : L.length ≤ s.length := by
  unfold parseS fin at h
  split at h
  · cases h
  · rename_i L' e
    split at h
    · cases h; exact pars_len _ _ _ _ e
    · cases h
set_option maxRecDepth 10000 in
set_option maxHeartbeats 16000000 in
theorem scrubExact_walk (a1 a2 : Option Addr) (c1 c2 : Nat) (A B : List Sm) (S : List UInt8) (w : World) (hL : LibOK w) (hk1 : A.length ≤ c1) (hk2 : B.length ≤ c2) (hm1 : c1 ≤ 9223372036854775807) (hm2 : c2 ≤ 9223372036854775807) (hI1 : Sms w a1 A) (hI2 : Sms w a2 B) (hw1 : ∀ x ∈ A, x.h < 4294967296) (hS : S.length ≤ 9223372036854775807) :
    Calls Tryd.prog 3 #[.slice a1 A.length c1, .slice a2 B.length c2, .string ⟨S.toArray⟩] w fun e w' => e = .returned (.bool true) ∧ Same w w' := by
  refine opq fun R HR => ?_
  have HL := Lib.hid hL
  have HA := Lib.hid (awake_any w hL)
  have hsz := bytes_size S
  have h4 := hL.lt
  clear hL
  by_cases hshort : A.length ≤ 30 ∧ B.length ≤ 30 ∧ S.length ≤ 1024
  · obtain ⟨hA, hB, hSl⟩ := hshort
    have HF1 := Lib.hid (fun (w' : World) (M : Same w w') => form_any a1 c1 A w' (by omega) (hI1.same M))
    have HF2 := Lib.hid (fun (w' : World) (M : Same w w') => form_any a2 c2 B w' (by omega) (hI2.same M))
    have HAg := Lib.hid (fun (w' : World) (M : Same w w') => against_any a1 a2 c1 c2 A B w' (by omega) (by omega) hk1 hk2 hm1 hm2 (hI1.same M) (hI2.same M))
    obtain ⟨FL, hFL⟩ : ∃ FL, (if goodL A && goodL B then ag A B else []) = FL := ⟨_, rfl⟩
    rw [hFL] at HAg
    have HFL := Lib.hid hFL
    obtain ⟨nFL, hnFL⟩ : ∃ n, FL.length = n := ⟨_, rfl⟩
    rw [hnFL] at HAg
    have HNFL := Lib.hid hnFL
    clear hFL hnFL
    have HTx := Lib.hid (fun (w' : World) (M : Same w w') (hL : LibOK w') => text_any a1 c1 A w' (by omega) (hI1.same M) hw1 hL)
    have HPs := Lib.hid (fun (w' : World) (hL : LibOK w') => parse_any S (by omega) w' hL)
    have HRp := Lib.hid (fun (w' : World) => rparse_any S (by omega) w')
    rw [← parse_same] at HRp
    have HGd := Lib.hid (fun (w' : World) (a : Option Addr) (c : Nat) (h : Sms w' a A) => good_any a c A w' (by omega) h)
    have HGe := Lib.hid (fun (w' : World) (a : Option Addr) (c : Nat) (h : Sms w' a B) => good_any a c B w' (by omega) h)
    have HRt := Lib.hid (fun (w' : World) (a : Option Addr) (c : Nat) (h : Sms w' a A) (hg : goodL A = true) => rtext_any a c A w' (by omega) h hw1 hg)
    have HRa := Lib.hid (fun (w' : World) (a b : Option Addr) (c d : Nat) (h : Sms w' a A) (h2 : Sms w' b B) => ragainst_any a b c d A B w' (by omega) (by omega) h h2)
    have HFn := Lib.hid (ag_all A B)
    have HTL := Lib.hid (fun (h : goodL A = true) => textL_len A 30 hA (good_can h))
    generalize hn1 : A.length = n1 at *
    generalize hn2 : B.length = n2 at *
    unfold strV at HTx HPs HRp HRt
    clear hI1 hI2 hw1
    go_enter Tryd.func3, Tryd.ntmps3
    go_wp2_with fail
    refine HA.out.mono ?_
    rintro e w1 ⟨rfl, M⟩
    have K1 := Lib.hid M
    clear M HA
    go_wp2_with fail
    refine (HF1.out _ K1.out).mono ?_
    rintro e w2 ⟨⟨au, cu, rfl, hu⟩, M⟩
    have K2 := Lib.hid (K1.out.same M)
    have U2 := Lib.hid hu
    clear M hu HF1 K1
    go_wp2_with fail
    refine (HF2.out _ K2.out).mono ?_
    rintro e w3 ⟨⟨av, cv, rfl, hv⟩, M⟩
    have K3 := Lib.hid (K2.out.same M)
    have U3 := Lib.hid (U2.out.same M)
    have V3 := Lib.hid hv
    clear M hv HF2 K2 U2
    go_wp2_with fail
    refine (HAg.out _ K3.out).mono ?_
    rintro e w4 ⟨⟨af, cf, rfl, hf⟩, M⟩
    have K4 := Lib.hid (K3.out.same M)
    have U4 := Lib.hid (U3.out.same M)
    have V4 := Lib.hid (V3.out.same M)
    have F4 := Lib.hid hf
    clear M hf HAg K3 U3 V3
    go_wp2_with fail
    refine (HGd.out _ _ _ U4.out).mono ?_
    rintro e w5 ⟨rfl, M⟩
    have K5 := Lib.hid (K4.out.same M)
    have U5 := Lib.hid (U4.out.same M)
    have V5 := Lib.hid (V4.out.same M)
    have F5 := Lib.hid (F4.out.same M)
    clear M K4 U4 V4 F4
    cases hgA : goodL A with
    | false =>
      rw [hgA] at HFL HTx HGd
      simp only [Bool.false_and, if_false, Bool.false_eq_true] at HFL HTx
      obtain rfl : nFL = 0 := by rw [← HNFL.out, ← HFL.out]; rfl
      clear HFn HRt HRa HTL
      go_wp2_with fail
      refine (HTx.out _ K5.out (HL.out.same K5.out)).mono ?_
      rintro e wt ⟨rfl, M⟩
      have KT := Lib.hid (K5.out.same M)
      have UT := Lib.hid (U5.out.same M)
      clear M HTx
      go_wp2_with fail
      refine (HGd.out _ _ _ UT.out).mono ?_
      rintro e wg ⟨rfl, M⟩
      have KG := Lib.hid (KT.out.same M)
      have UG := Lib.hid (UT.out.same M)
      clear M
      go_wp2_with fail
      refine (HGd.out _ _ _ UG.out).mono ?_
      rintro e wi ⟨rfl, M⟩
      have KI := Lib.hid (KG.out.same M)
      clear M
      go_wp2_with fail
      refine (HPs.out _ (HL.out.same KI.out)).mono ?_
      rintro e wp ⟨hps, M⟩
      have KP := Lib.hid (KI.out.same M)
      clear M HPs
      cases hq : parseS S with
      | none =>
        rw [hq] at hps HRp
        unfold PaS at hps
        unfold PaR at HRp
        dsimp only at hps HRp
        obtain rfl := hps
        clear hq
        go_wp2_with fail
        refine (HRp.out _).mono ?_
        rintro e wq ⟨⟨vq, rfl⟩, M⟩
        have KQ := Lib.hid (KP.out.same M)
        clear M HRp
        go_wp2
        exact HR.out _ _ ⟨rfl, KQ.out⟩
      | some Lq =>
        rw [hq] at hps HRp
        unfold PaS at hps
        unfold PaR at HRp
        dsimp only at hps HRp
        obtain ⟨ap, cp, rfl, hsp⟩ := hps
        have SP := Lib.hid hsp
        have hlq : Lq.length ≤ 1000000 := by have := parse_len S Lq hq; omega
        clear hq hsp
        go_wp2_with fail
        refine (HRp.out _).mono ?_
        rintro e wq ⟨⟨aq, cq, rfl, hsq⟩, M⟩
        have KQ := Lib.hid (KP.out.same M)
        have HSm := Lib.hid (same_any ap aq cp cq Lq wq hlq (SP.out.same M) hsq)
        clear M HRp SP hsq
        generalize Lq.length = nq at *
        go_wp2_with fail
        refine HSm.out.mono ?_
        rintro e wz ⟨rfl, M⟩
        have KZ := Lib.hid (KQ.out.same M)
        clear M HSm
        go_wp2
        exact HR.out _ _ ⟨rfl, KZ.out⟩
    | true =>
      have hrt := fun (w' : World) (a : Option Addr) (c : Nat) (h : Sms w' a A) => HRt.out w' a c h hgA
      have HRt2 := Lib.hid hrt
      have htl := HTL.out hgA
      have HFn2 := Lib.hid (HFn.out hgA)
      rw [hgA] at HFL HTx HGd
      simp only [Bool.true_and, if_true] at HFL HTx
      clear hrt HFn HRt HTL
      have htls := bytes_size (textL A)
      generalize textL A = tA at *
      go_wp2_with fail
      refine (HGe.out _ _ _ V5.out).mono ?_
      rintro e w6 ⟨rfl, M⟩
      have K6 := Lib.hid (K5.out.same M)
      have U6 := Lib.hid (U5.out.same M)
      have V6 := Lib.hid (V5.out.same M)
      have F6 := Lib.hid (F5.out.same M)
      clear M K5 U5 V5 F5
      cases hgB : goodL B with
      | false =>
        rw [hgB] at HFL
        simp only [if_false, Bool.false_eq_true] at HFL
        obtain rfl : nFL = 0 := by rw [← HNFL.out, ← HFL.out]; rfl
        clear HFn2 HRa
        go_wp2_with fail
        refine (HTx.out _ K6.out (HL.out.same K6.out)).mono ?_
        rintro e wt ⟨rfl, M⟩
        have KT := Lib.hid (K6.out.same M)
        have UT := Lib.hid (U6.out.same M)
        clear M HTx
        go_wp2_with fail
        refine (HGd.out _ _ _ UT.out).mono ?_
        rintro e wg ⟨rfl, M⟩
        have KG := Lib.hid (KT.out.same M)
        have UG := Lib.hid (UT.out.same M)
        clear M
        go_wp2_with fail
        refine (HRt2.out _ _ _ UG.out).mono ?_
        rintro e wh ⟨rfl, M⟩
        have KH := Lib.hid (KG.out.same M)
        have UH := Lib.hid (UG.out.same M)
        clear M
        go_wp2_with fail
        refine (HGd.out _ _ _ UH.out).mono ?_
        rintro e wi ⟨rfl, M⟩
        have KI := Lib.hid (KH.out.same M)
        clear M
        go_wp2_with fail
        refine (HPs.out _ (HL.out.same KI.out)).mono ?_
        rintro e wp ⟨hps, M⟩
        have KP := Lib.hid (KI.out.same M)
        clear M HPs
        cases hq : parseS S with
        | none =>
          rw [hq] at hps HRp
          unfold PaS at hps
          unfold PaR at HRp
          dsimp only at hps HRp
          obtain rfl := hps
          clear hq
          go_wp2_with fail
          refine (HRp.out _).mono ?_
          rintro e wq ⟨⟨vq, rfl⟩, M⟩
          have KQ := Lib.hid (KP.out.same M)
          clear M HRp
          go_wp2
          exact HR.out _ _ ⟨rfl, KQ.out⟩
        | some Lq =>
          rw [hq] at hps HRp
          unfold PaS at hps
          unfold PaR at HRp
          dsimp only at hps HRp
          obtain ⟨ap, cp, rfl, hsp⟩ := hps
          have SP := Lib.hid hsp
          have hlq : Lq.length ≤ 1000000 := by have := parse_len S Lq hq; omega
          clear hq hsp
          go_wp2_with fail
          refine (HRp.out _).mono ?_
          rintro e wq ⟨⟨aq, cq, rfl, hsq⟩, M⟩
          have KQ := Lib.hid (KP.out.same M)
          have HSm := Lib.hid (same_any ap aq cp cq Lq wq hlq (SP.out.same M) hsq)
          clear M HRp SP hsq
          generalize Lq.length = nq at *
          go_wp2_with fail
          refine HSm.out.mono ?_
          rintro e wz ⟨rfl, M⟩
          have KZ := Lib.hid (KQ.out.same M)
          clear M HSm
          go_wp2
          exact HR.out _ _ ⟨rfl, KZ.out⟩
      | true =>
        rw [hgB] at HFL
        have hfn := HFn2.out hgB
        simp only [if_true] at HFL
        rw [hfn] at HFL
        have HF := HFL
        have HNF := HNFL
        have hnfb : nFL ≤ 1023 := by rw [← HNFL.out, ← HFL.out]; exact finds_len A B 1023 1
        clear hfn HFn2 HFL HNFL
        go_wp2_with fail
        refine (HRa.out _ _ _ _ _ U6.out V6.out).mono ?_
        rintro e w7 ⟨⟨gr, rfl, hrow⟩, M⟩
        have K7 := Lib.hid (K6.out.same M)
        have U7 := Lib.hid (U6.out.same M)
        have F7 := Lib.hid (F6.out.same M)
        have RW := Lib.hid hrow
        clear M hrow K6 U6 V6 F6 HRa
        go_wp2_with fail
        go_loopw [12, 11] (fun vi vk wr => ∃ (c k : Nat), vi = .int .i64 (c : Int) ∧ vk = .int .i64 (k : Int) ∧ 1 ≤ c ∧ c ≤ 1024 ∧ k ≤ nFL ∧ FL.drop k = finds A B (c : Int) (1024 - c) ∧ Same w7 wr) (fun vi _ _ => 1024 - (intOf vi).toNat)
        case atStart => exact ⟨1, 0, rfl, rfl, by omega, by omega, by omega, by rw [List.drop_zero, ← HF.out]; rfl, Mod.refl _ _⟩
        case round =>
          obtain ⟨c, k, rfl, rfl, hc1, hc2, hk, hd, hM⟩ := hrel
          have J := Lib.hid hM
          have HD := Lib.hid hd
          clear hM hd
          by_cases hlt : c < 1024
          · have hrc := (RW.out.mod J.out (fun q => q)).cell c hlt
            have hkt : ktF A B 1024 c = kat A B (c : Int) := by unfold ktF; rw [if_pos ⟨hc1, hlt⟩]
            rw [hkt] at hrc
            have hst := HD.out.trans (finds_at A B c hlt)
            generalize hkk : kat A B (c : Int) = kk at *
            by_cases hk0 : kk = 0
            · rw [hk0] at hst hrc
              have HS := Lib.hid hst
              clear hst hkk hkt hk0
              go_wp2_with fail
              go_roundw
              case rel => exact ⟨c + 1, k, by go_num, rfl, by omega, by omega, hk, HS.out, J.out⟩
              case measure => simp [intOf]; omega
            · unfold hit at hst
              rw [if_neg hk0] at hst
              obtain ⟨hat, hdr⟩ := drop_cons hst
              have hkn : k < nFL := by have := (List.getElem?_eq_some_iff.1 hat).1; rw [HNF.out] at this; exact this
              have HS := Lib.hid hdr
              obtain ⟨bf, of, rfl, hbf, hcf⟩ := F7.out (by rw [HNF.out]; omega)
              have hx := hcf k (c, kk) hat
              have f0 := (J.out.cell hbf (fun q => q) (of + k * 2)).trans hx.1
              have f1 := (J.out.cell hbf (fun q => q) (of + k * 2 + 1)).trans hx.2
              dsimp only at f0 f1
              have hkb : (kk == 0) = false := beqF hk0
              have hge : decide ((k : Int) ≥ (nFL : Int)) = false := decide_eq_false (by omega)
              have hge2 : decide ((nFL : Int) ≤ (k : Int)) = false := decide_eq_false (by omega)
              have hge3 : decide (nFL ≤ k) = false := decide_eq_false (by omega)
              clear hst hat hdr hcf hx hkk hkt hk0
              go_wp2_with fail
              go_big_quiet (fail)
              go_wp2
              go_roundw
              case rel => exact ⟨c + 1, k + 1, by go_num, by go_num, by omega, by omega, by omega, HS.out, J.out.drewN _⟩
              case measure => simp [intOf]; omega
          · obtain rfl : c = 1024 := by omega
            have hkn : k = nFL := by
              have := HD.out
              rw [Nat.sub_self] at this
              have hl := congrArg List.length this
              rw [List.length_drop, HNF.out] at hl
              have e0 : (finds A B ((1024 : Nat) : Int) 0).length = 0 := rfl
              omega
            have K8 := Lib.hid (K7.out.same J.out)
            have U8 := Lib.hid (U7.out.same J.out)
            subst hkn
            clear HD HF HNF F7 RW K7 U7 J
            go_wp2_with fail
            refine (HTx.out _ K8.out (HL.out.same K8.out)).mono ?_
            rintro e wt ⟨rfl, M⟩
            have KT := Lib.hid (K8.out.same M)
            have UT := Lib.hid (U8.out.same M)
            clear M HTx
            go_wp2_with fail
            refine (HGd.out _ _ _ UT.out).mono ?_
            rintro e wg ⟨rfl, M⟩
            have KG := Lib.hid (KT.out.same M)
            have UG := Lib.hid (UT.out.same M)
            clear M
            go_wp2_with fail
            refine (HRt2.out _ _ _ UG.out).mono ?_
            rintro e wh ⟨rfl, M⟩
            have KH := Lib.hid (KG.out.same M)
            have UH := Lib.hid (UG.out.same M)
            clear M
            go_wp2_with fail
            refine (HGd.out _ _ _ UH.out).mono ?_
            rintro e wi ⟨rfl, M⟩
            have KI := Lib.hid (KH.out.same M)
            clear M
            go_wp2_with fail
            refine (HPs.out _ (HL.out.same KI.out)).mono ?_
            rintro e wp ⟨hps, M⟩
            have KP := Lib.hid (KI.out.same M)
            clear M HPs
            cases hq : parseS S with
            | none =>
              rw [hq] at hps HRp
              unfold PaS at hps
              unfold PaR at HRp
              dsimp only at hps HRp
              obtain rfl := hps
              clear hq
              go_wp2_with fail
              refine (HRp.out _).mono ?_
              rintro e wq ⟨⟨vq, rfl⟩, M⟩
              have KQ := Lib.hid (KP.out.same M)
              clear M HRp
              go_wp2
              exact HR.out _ _ ⟨rfl, KQ.out⟩
            | some Lq =>
              rw [hq] at hps HRp
              unfold PaS at hps
              unfold PaR at HRp
              dsimp only at hps HRp
              obtain ⟨ap, cp, rfl, hsp⟩ := hps
              have SP := Lib.hid hsp
              have hlq : Lq.length ≤ 1000000 := by have := parse_len S Lq hq; omega
              clear hq hsp
              go_wp2_with fail
              refine (HRp.out _).mono ?_
              rintro e wq ⟨⟨aq, cq, rfl, hsq⟩, M⟩
              have KQ := Lib.hid (KP.out.same M)
              have HSm := Lib.hid (same_any ap aq cp cq Lq wq hlq (SP.out.same M) hsq)
              clear M HRp SP hsq
              generalize Lq.length = nq at *
              go_wp2_with fail
              refine HSm.out.mono ?_
              rintro e wz ⟨rfl, M⟩
              have KZ := Lib.hid (KQ.out.same M)
              clear M HSm
              go_wp2
              exact HR.out _ _ ⟨rfl, KZ.out⟩
  · have hd3 : (decide ((A.length : Int) > 30) = true) ∨ (decide ((A.length : Int) > 30) = false ∧ decide ((B.length : Int) > 30) = true) ∨ (decide ((A.length : Int) > 30) = false ∧ decide ((B.length : Int) > 30) = false ∧ decide ((S.length : Int) > 1024) = true) := by
      by_cases q1 : A.length ≤ 30
      · by_cases q2 : B.length ≤ 30
        · right; right; exact ⟨decide_eq_false (by omega), decide_eq_false (by omega), decide_eq_true (by have : ¬ S.length ≤ 1024 := fun q3 => hshort ⟨q1, q2, q3⟩; omega)⟩
        · right; left; exact ⟨decide_eq_false (by omega), decide_eq_true (by omega)⟩
      · left; exact decide_eq_true (by omega)
    clear hshort
    generalize A.length = n1 at *
    generalize B.length = n2 at *
    generalize S.length = n3 at *
    go_enter Tryd.func3, Tryd.ntmps3
    go_wp2_with fail
    refine HA.out.mono ?_
    rintro e w1 ⟨rfl, M⟩
    have K1 := Lib.hid M
    clear M HA
    rcases hd3 with hd | ⟨hd, hd'⟩ | ⟨hd, hd', hd''⟩
    all_goals
      (try rw [decide_eq_true_eq] at hd)
      (try rw [decide_eq_false_iff_not] at hd)
      (try rw [decide_eq_true_eq] at hd')
      (try rw [decide_eq_false_iff_not] at hd')
      (try rw [decide_eq_true_eq] at hd'')
      go_wp2
      exact HR.out _ _ ⟨rfl, K1.out⟩
end Go.Proofs.YthkcdoneghcglaaDoor
