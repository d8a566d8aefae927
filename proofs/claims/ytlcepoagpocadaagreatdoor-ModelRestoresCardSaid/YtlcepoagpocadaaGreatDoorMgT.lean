import Derived.Test.YtlcepoagpocadaaGreatDoorMgTb
import Derived.BigRegion
set_option linter.unusedSimpArgs false
set_option linter.unusedVariables false
set_option maxRecDepth 100000
/- What is told of volumes is what they are then. -/
namespace Go.Proofs.YtlcepoagpocadaaGreatDoor
open Go Go.RowKit
set_option maxHeartbeats 16000000 in
theorem restores_main (ls : List (List UInt8)) (a : Option Addr) (n c : Nat) (hn : ls.length = n) (z wh at_ : Int) (w : World) (hL : LibOK w) (hr : RowAt w a (ls.map strV)) :
    Calls Tryz.prog 7 #[.int .i64 z, .slice a n c, .int .i64 wh, .int .i64 at_] w fun e w' => e = .returned (.bool true) ∧ Same w w' := by
  refine opq fun R HR => ?_
  have HL0 := Lib.hid hL
  have HRw := Lib.hid hr
  have HN := Lib.hid hn
  obtain ⟨k, hk1, hk8, hk⟩ := kOf z
  clear hL hr hn
  go_enter Tryz.func7, Tryz.ntmps7
  go_wp2_with fail
  refine (awake_any w HL0.out).mono ?_
  rintro e w1 ⟨rfl, M⟩
  have J1 := Lib.hid M
  clear M
  go_wp2_with fail
  obtain ⟨K0, hKd⟩ : ∃ K : Nat → Prop, K = fun i => i < w1.heap.size := ⟨_, rfl⟩
  refine (new_some K0 w1 (fun i hi => by rw [hKd] at hi; exact hi) k hk1 hk8).mono ?_
  rintro e w2 ⟨m, rfl, hm, M⟩
  have J2 := Lib.hid (J1.out.same M)
  have HM2 := Lib.hid hm
  have hK00 := Lib.hid (show ∀ i, i < w.heap.size → K0 i from fun i hi => by rw [hKd]; have := J1.out.size; omega)
  rw [hk]
  clear hm M hKd hk
  unfold bp at *
  go_wp2_with fail
  refine (orders_any ls a n c HN.out w2 (HL0.out.same J2.out) (HRw.out.same J2.out)).mono ?_
  rintro e w3 ⟨a', c', rfl, hro, M⟩
  have J3 := Lib.hid (J2.out.same M)
  obtain ⟨K, hKd⟩ : ∃ z : Nat → Prop, (fun i => K0 i ∨ (w2.heap.size ≤ i ∧ i < w3.heap.size)) = z := ⟨_, rfl⟩
  have HM3 := Lib.hid (show Md Tryz.prog K w3 m (emptyS k) by rw [← hKd]; exact HM2.out.more M)
  have hK0 := Lib.hid (show ∀ i, i < w.heap.size → K i from fun i hi => by rw [← hKd]; exact Or.inl (hK00.out i hi))
  have HRo := Lib.hid hro
  have HRk := Lib.hid (show ∀ i, w2.heap.size ≤ i → i < w3.heap.size → K i from fun i h1 h2 => by rw [← hKd]; exact Or.inr ⟨h1, h2⟩)
  have HF := Lib.hid (orders_form ls)
  have hN60 := orders_len ls
  generalize ordersL ls = L at *
  obtain ⟨N, hNL⟩ : ∃ N, L.length = N := ⟨_, rfl⟩
  rw [hNL] at hN60
  rw [hNL]
  clear hKd M hro HM2 J1 J2 hK00 HRw
  go_wp2_with fail
  go_loopw [12] (fun i wr => ∃ (j : Nat) (S : MS), j ≤ N ∧ i = .int .i64 j ∧ Md Tryz.prog K wr m S ∧ Good S ∧ Wf S ∧ S.k = k ∧ Mod (fun i => ¬ K i) w3 wr) (fun i _ => N - (intOf i).toNat)
  case atStart => exact ⟨0, _, Nat.zero_le _, rfl, HM3.out, good_emptyK hk1 hk8, wf_empty k, rfl, Mod.refl _ _⟩
  case round =>
    obtain ⟨j, S, hj, rfl, hm, G, Wf0, hSk, hM⟩ := hrel
    have HSk := Lib.hid hSk
    have HMr := Lib.hid hm
    have HG := Lib.hid G
    have HW := Lib.hid Wf0
    have JM := Lib.hid hM
    have Jr := Lib.hid (same_of J3.out hM hK0.out)
    clear hm G Wf0 hM hSk HM3
    by_cases hlt : j < N
    · obtain ⟨o, ho⟩ : ∃ o, L[j]? = some o := ⟨_, List.getElem?_eq_getElem (by rw [hNL]; exact hlt)⟩
      have HOF := Lib.hid (HF.out o (List.mem_of_getElem? ho))
      obtain ⟨g, off, rfl, hgB, hgl, hcc⟩ := (HRo.out.mod JM.out (fun i h1 h2 q => q (HRk.out i h1 h2))) (by rw [List.length_map, hNL]; omega)
      have hc0 := hcc j (ordW o) (by rw [List.getElem?_map, ho]; rfl)
      have HL5 := Lib.hid (HL0.out.same Jr.out)
      clear hcc ho hgB
      go_wp2_with fail
      refine (do_any HMr.out HG.out HW.out o HOF.out.1 HL5.out).mono ?_
      rintro e w6 ⟨er, d, ua, un, uc, S', tells, rfl, hd, hm, M, ht⟩
      have JM6 := Lib.hid (JM.out.then_ M (fun i _ q => q))
      have HM6 := Lib.hid hm
      have HG' := Lib.hid (good_do HG.out HW.out hd)
      clear M hm hd ht HL5
      go_wp2_with fail
      go_roundw
      case rel => exact ⟨j + 1, S', by omega, by go_num, HM6.out, HG'.out.1, HG'.out.2.1, HG'.out.2.2.trans HSk.out, JM6.out⟩
      case measure => simp [intOf]; omega
    · obtain rfl : j = N := by omega
      obtain ⟨w20, hw20⟩ : ∃ z, z = wr := ⟨_, rfl⟩
      subst hw20
      have J20 := Lib.hid Jr.out
      have HM20 := Lib.hid HMr.out
      have HL20 := Lib.hid (HL0.out.same J20.out)
      go_wp2_with fail
      refine (copy_any HM20.out HW.out HG.out).mono ?_
      rintro e w21 ⟨m2, T, f, rfl, hI, hW, hG, hm2, M⟩
      have J21 := Lib.hid (J20.out.same M)
      have N21 := Lib.hid M
      have HM21 := Lib.hid (HM20.out.same M)
      have HMc := Lib.hid hm2
      have HI := Lib.hid hI
      have HWc := Lib.hid hW
      have HGc := Lib.hid hG
      clear hI hW hG hm2 M
      unfold bp at *
      go_wp2_with fail
      refine (dump_md HM21.out HG.out HW.out).mono ?_
      rintro e w22 ⟨vd, rfl, hd, -, M⟩
      have J22 := Lib.hid (J21.out.same M)
      have N22 := Lib.hid (N21.out.same M)
      have HM22 := Lib.hid (HM21.out.same M)
      have HMc2 := Lib.hid (HMc.out.same M)
      have HD2 := Lib.hid (TxE.owns (by rw [show (dumpS S).length = S.vols.length by unfold dumpS; simp]; exact hd))
      clear hd M HM21 HMc
      go_wp2_with fail
      refine (volumes_md HM22.out HG.out HW.out).mono ?_
      rintro e w23 ⟨vv, rfl, hv, -, M⟩
      have J23 := Lib.hid (J22.out.same M)
      have N23 := Lib.hid (N22.out.same M)
      have HM23 := Lib.hid (HM22.out.same M)
      have HMc3 := Lib.hid (HMc2.out.same M)
      have HD3 := Lib.hid (HD2.out.same M)
      have HV3 := Lib.hid (TvE.owns hv)
      clear hv M HM22 HMc2 HD2
      go_wp2_with fail
      obtain ⟨K2, hK2⟩ : ∃ q : Nat → Prop, (fun i => K i ∨ (w20.heap.size ≤ i ∧ i < w23.heap.size)) = q := ⟨_, rfl⟩
      have HMk := Lib.hid (show Md Tryz.prog K2 w23 m S by rw [← hK2]; exact HM20.out.more N23.out)
      have HKn := Lib.hid (show ∀ i, w20.heap.size ≤ i → i < w23.heap.size → K2 i from fun i a b => by rw [← hK2]; exact .inr ⟨a, b⟩)
      obtain ⟨ad, cd, rfl, -, -⟩ := HD3.out.ex
      have hTS : TxS w23 (.slice ad (dumpS S).length cd) (dumpS S) := HD3.out.txd.txs
      refine (restore_any HMk.out HG.out HW.out _ (dumpS S) hTS (by have := vols_len HG.out HW.out; unfold dumpS; rw [List.length_map]; omega)).mono ?_
      rintro e w24 ⟨MR, hcase⟩
      rcases hcase with ⟨_, rfl, sec1, hsec1, hm1⟩ | ⟨hno, _⟩
      case inr => exact absurd (fit_own HG.out) hno
      have HT1 := Lib.hid hsec1
      have G1 := Lib.hid (good_own HG.out hsec1)
      have W1 := Lib.hid (wf_new HW.out sec1)
      have D1 := Lib.hid (dump_own HG.out hsec1)
      have HM24 := Lib.hid hm1
      have N24 := Lib.hid (show Mod (fun i => ¬ K2 i) w23 w24 from MR)
      have HMc4 := Lib.hid (HMc3.out.mod MR (fun b hb q => by
        by_cases e : b < w20.heap.size
        · exact e
        · exact absurd (HKn.out b (by omega) hb) q))
      clear hsec1 hm1 MR hTS
      go_wp2_with fail
      refine (same_models HM24.out G1.out W1.out HMc4.out HGc.out HWc.out).mono ?_
      rintro e w25 ⟨rfl, M⟩
      rw [show (decide (infoS { S with sec := sec1 } = infoS T) && decide (dumpS { S with sec := sec1 } = dumpS T)) = true by
        rw [D1.out, HI.out.dump, show infoS { S with sec := sec1 } = infoS S from rfl, HI.out.info]
        simp]
      have N25 := Lib.hid (N24.out.same M)
      have HM25 := Lib.hid (HM24.out.same M)
      have HMc5 := Lib.hid (HMc4.out.same M)
      have HK2 := Lib.hid (show ∀ i, i < w.heap.size → K2 i from fun i hi => by rw [← hK2]; exact .inl (hK0.out i hi))
      have hB20 : w20.heap.size ≤ w21.heap.size := N21.out.size
      have hB22 : w20.heap.size ≤ w22.heap.size := N22.out.size
      clear M HM24 HMc4 HL20 JM HRo HRk HF HM20 N21 N22 J21 J22
      have hcc : ((countS S : Int) != (countS S : Int)) = false := by simp
      go_wp2_with fail
      refine (count_md HM25.out G1.out W1.out).mono ?_
      rintro e w26 ⟨rfl, M⟩
      rw [show countS { S with sec := sec1 } = countS S from rfl]
      have N26 := Lib.hid (N25.out.same M)
      have HM26 := Lib.hid (HM25.out.same M)
      have HMc6 := Lib.hid (HMc5.out.same M)
      clear M HM25 HMc5
      go_wp2_with fail
      refine (count_md HMc6.out HGc.out HWc.out).mono ?_
      rintro e w27 ⟨rfl, M⟩
      rw [HI.out.count]
      have N27 := Lib.hid (N26.out.same M)
      have HM27 := Lib.hid (HM26.out.same M)
      have HMc7 := Lib.hid (HMc6.out.same M)
      clear M HM26 HMc6
      have HDL := Lib.hid (show (dumpS S).length = S.vols.length by unfold dumpS; rw [List.length_map])
      have hdl6 : (dumpS S).length ≤ 16 := by rw [HDL.out]; exact vols_len HG.out HW.out
      have hvl := vols_len HG.out HW.out
      have hd27 := Lib.hid (HD3.out.mod N27.out (fun g a b q => q (HKn.out g (by omega) b)))
      have M0 := Lib.hid (show Same w27 (w27.alloc (.cells #[] 9)) from (Mod.refl _ _).alloc _)
      have O0 := Lib.hid (show (w27.alloc (.cells #[] 9)).ownsRow w27.heap.size 9 1 (.slice (some ⟨w27.heap.size, 0, none⟩) 0 0) 0 [] from ⟨rfl, .inr ⟨_, 0, #[], rfl, Nat.le_refl _, heap_new _ _, Nat.le_refl _, by unfold maxLen; omega, rfl, rfl⟩⟩)
      have HA := Lib.hid (hd27.out.same M0.out).txd
      obtain ⟨i0, hi, hz0, hz1, hz2⟩ := info_parts info9
      have I0 := Lib.hid hi
      have Z0 := Lib.hid hz0
      have Z1 := Lib.hid hz1
      have Z2 := Lib.hid hz2
      clear hi hz0 hz1 hz2
      go_wp2_with (at_builtin; first
        | (refine wpList_append_tx (by rfl) (.tmp 73) (.tmp 74) rfl w27.heap.size i0 I0.out Z0.out Z1.out Z2.out _ 0 [] rfl O0.out _ (dumpS S) rfl HA.out (by omega) (by simp only [World.size_alloc]; omega) ?_; intro v3 w28 hown' hgrow; have OW := Lib.hid hown'; have MG := Lib.hid (show Same w27 w28 from M0.out.grown hgrow (fun k hk hlt => by cases hk; exact absurd hlt (Nat.lt_irrefl _))); clear hown' hgrow)
        | (refine wpList_append_one (by rfl) (.tmp 75) (.tmp 76) rfl w27.heap.size i0 I0.out Z0.out Z1.out Z2.out _ _ _ rfl (OW.out.alloc _) ⟨w28.heap.size, 0, none⟩ 1 ⟨#[]⟩ rfl (one_new _ _ _) (by omega) (by simp only [World.size_alloc]; have := MG.out.size; omega) ?_; intro v4 w29 hown' hgrow; have OX := Lib.hid hown'; have MX := Lib.hid (same_append MG.out OW.out hgrow); clear hown' hgrow))
      have hTx : TxS w29 v4 (dumpS S ++ [[]]) := TxS.owns (by
        have h9 := OX.out
        rw [show [] ++ (dumpS S).map strV ++ [Value.string ⟨#[]⟩] = (dumpS S ++ [[]]).map strV by simp [strV], show 0 + (dumpS S).length + 1 = (dumpS S ++ [[]]).length by simp] at h9
        exact h9)
      have HM29 := Lib.hid (HM27.out.same MX.out)
      refine (restore_any HM29.out G1.out W1.out _ (dumpS S ++ [[]]) hTx (by rw [List.length_append]; simp; omega)).mono ?_
      rintro e w30 ⟨MR, hcase⟩
      rcases hcase with ⟨hf, _⟩ | ⟨_, rfl, hm1⟩
      case inl => exact absurd hf (not_fit_len (by rw [List.length_append, HDL.out]; simp))
      have HM30 := Lib.hid hm1
      have N30 := Lib.hid ((N27.out.same MX.out).then_ MR (fun i _ q => q))
      have HCm := Lib.hid (fun (w' : World) (M : Mod (fun i => ¬ K2 i) w23 w') => HMc3.out.moreN M (fun b hb q => by
        by_cases e : b < w20.heap.size
        · exact e
        · exact absurd (HKn.out b (by omega) hb) q))
      have HMc8 := Lib.hid (HCm.out _ N30.out)
      have J30 := Lib.hid (same_of J23.out N30.out HK2.out)
      have hd30 := Lib.hid (HD3.out.mod N30.out (fun g a b q => q (HKn.out g (by omega) b)))
      have hv30 := Lib.hid (HV3.out.mod N30.out (fun g a b q => q (HKn.out g (by omega) b)))
      clear hTx hm1 MR N25 N26 N27 HM27 HM29 HMc7 hd27 M0 O0 HA OW OX MG MX
      obtain ⟨av, cv, rfl, hvr⟩ := hv30.out.ex
      by_cases hn0 : S.vols.length = 0
      · rw [hn0]
        go_wp2_with fail
        exact HR.out _ _ ⟨rfl, J30.out⟩
      have hq0 : ((S.vols.length : Int) == 0) = false := beq_eq_false_iff_ne.2 (by omega)
      obtain ⟨gv, rfl, hgvB, hRv⟩ := hvr (by omega)
      have hut := utmod wh (S.vols.length : Int) (by omega) (by omega)
      obtain ⟨j, hj⟩ : ∃ j : Nat, wrap64 ((IntKind.u64.wrap wh).tmod (S.vols.length : Int)) = (j : Int) := ⟨_, (Int.toNat_of_nonneg hut.1).symm⟩
      rw [hj] at hut
      have hjl : j < S.vols.length := by omega
      obtain ⟨v0, hv0⟩ : ∃ v, S.vols[j]? = some v := ⟨_, List.getElem?_eq_getElem hjl⟩
      have hvm := List.mem_of_getElem? hv0
      have HV0 := Lib.hid hv0
      have HVM := Lib.hid hvm
      have hvz := HG.out.sizes v0 hvm
      have hvi := HG.out.ids v0 hvm
      have hwn : IntKind.u64.wrap (S.vols.length : Int) = (S.vols.length : Int) := IntWalk.u64_in _ (by omega)
      have c0 := (hRv.cell (j * 5 + 0) (by omega)).trans (info_at hv0 0 (by omega) _ rfl)
      have c1 := (hRv.cell (j * 5 + 1) (by omega)).trans (info_at hv0 1 (by omega) _ rfl)
      rw [Nat.add_zero] at c0
      obtain ⟨q, hq⟩ : ∃ q : Nat, v0.size.toNat * k = q := ⟨_, rfl⟩
      have HQ := Lib.hid hq
      have hql : q ≤ 512 := by
        have := Nat.mul_le_mul (show v0.size.toNat ≤ 64 by omega) hk8
        omega
      have hmul : wrap64 (v0.size * (k : Int)) = (q : Int) := by
        have e : v0.size * (k : Int) = (q : Int) := by rw [← hq, Int.natCast_mul, Int.toNat_of_nonneg hvz.1]
        rw [e]
        unfold wrap64
        omega
      have hwq : IntKind.u64.wrap (q : Int) = (q : Int) := IntWalk.u64_in _ (by omega)
      clear hut hv0 hvm hvr hv30 hvz hvi hq
      by_cases hq0 : q = 0
      · subst hq0
        go_wp2_with fail
        exact HR.out _ _ ⟨rfl, J30.out⟩
      have hqz : ((q : Int) == 0) = false := beq_eq_false_iff_ne.2 (by omega)
      have hut := utmod at_ (q : Int) (by omega) (by omega)
      obtain ⟨x, hx⟩ : ∃ x : Nat, wrap64 ((IntKind.u64.wrap at_).tmod (q : Int)) = (x : Int) := ⟨_, (Int.toNat_of_nonneg hut.1).symm⟩
      rw [hx] at hut
      have hxq : x < q := by omega
      clear hut
      have M0 := Lib.hid (show Same w30 (w30.alloc (.cells #[] 9)) from (Mod.refl _ _).alloc _)
      have O0 := Lib.hid (show (w30.alloc (.cells #[] 9)).ownsRow w30.heap.size 9 1 (.slice (some ⟨w30.heap.size, 0, none⟩) 0 0) 0 [] from ⟨rfl, .inr ⟨_, 0, #[], rfl, Nat.le_refl _, heap_new _ _, Nat.le_refl _, by unfold maxLen; omega, rfl, rfl⟩⟩)
      have HA := Lib.hid (hd30.out.same M0.out).txd
      go_wp2_with (at_builtin; refine wpList_append_tx (by rfl) (.tmp 105) (.tmp 106) rfl w30.heap.size i0 I0.out Z0.out Z1.out Z2.out _ 0 [] rfl O0.out _ (dumpS S) rfl HA.out (by omega) (by simp only [World.size_alloc]; omega) ?_; intro v5 w31 hown' hgrow; have OW := Lib.hid hown'; have MG := Lib.hid (show Same w30 w31 from M0.out.grown hgrow (fun k hk hlt => by cases hk; exact absurd hlt (Nat.lt_irrefl _))); clear hown' hgrow)
      have N31 := Lib.hid (N30.out.same MG.out)
      have hW23 : w23.heap.size ≤ w30.heap.size := N30.out.size
      obtain ⟨K3, hK3⟩ : ∃ f : Nat → Prop, (fun i => K2 i ∨ (w30.heap.size ≤ i ∧ i < w31.heap.size)) = f := ⟨_, rfl⟩
      have HM31 := Lib.hid (show Md Tryz.prog K3 w31 m { S with sec := sec1 } by rw [← hK3]; exact HM30.out.more MG.out)
      have HK3 := Lib.hid (show ∀ i, K2 i → K3 i from fun i h => by rw [← hK3]; exact .inl h)
      have HK3n := Lib.hid (show ∀ i, w30.heap.size ≤ i → i < w31.heap.size → K3 i from fun i a b => by rw [← hK3]; exact .inr ⟨a, b⟩)
      clear hK3
      have hd31 := Lib.hid (hd30.out.same MG.out)
      have hRv31 := Lib.hid (hRv.mod MG.out (fun q => q))
      have hjd : j < (dumpS S).length := by rw [HDL.out]; exact hjl
      obtain ⟨TT, hTd⟩ : ∃ TT, readS S v0 0 q = TT := ⟨_, rfl⟩
      have HTd := Lib.hid hTd
      have hTl : TT.length = q * 16 := by rw [← hTd, readS_len HG.out HVM.out, Nat.mul_comm]
      have hdS := Lib.hid (show txF (dumpS S) j = .string ⟨TT.toArray⟩ by rw [dump_get HV0.out, HSk.out, HQ.out, hTd])
      obtain ⟨TB, hTB⟩ : ∃ z : ByteArray, (⟨TT.toArray⟩ : ByteArray) = z := ⟨_, rfl⟩
      have HTB := Lib.hid hTB
      have hTs : TB.size = q * 16 := by rw [← hTB, bytes_size, hTl]
      obtain ⟨ad0, cd0, e0, -, hdr⟩ := hd31.out.ex
      injection e0 with e1 _ e3
      subst e1
      subst e3
      obtain ⟨gd, rfl, hgdB, hRd⟩ := hdr (by omega)
      have hRd31 := Lib.hid hRd
      have d0 := (hRd.cell j hjd).trans (congrArg some hdS.out)
      rw [hTB] at d0
      have hO := OW.out
      rw [Nat.zero_add, List.nil_append] at hO
      obtain ⟨g5, cap5, rfl, hg5, hc5, hr5⟩ := RowV.of_owns hO (by omega)
      rw [Nat.mul_one] at hr5
      have hR5 := Lib.hid (hr5.congr (fun i hi => txF_map (dumpS S) i hi))
      have e5 := hR5.out.cell j hjd
      have f5 := hR5.out.free j
      have hl5 := hR5.out.lt
      have hld := hRd31.out.lt
      obtain ⟨SB, hSB⟩ : ∃ z : ByteArray, (⟨#[48, 49, 50, 51, 52, 53, 54, 55, 56, 57, 97, 98, 99, 100, 101, 102]⟩ : ByteArray) = z := ⟨_, rfl⟩
      have HSB := Lib.hid hSB
      rw [hSB]
      clear hdr hRd hO hr5 M0 O0 HA OW MG HM30 N30 hd30 hSB hTB hTd hn0 hq0 HMc8
      obtain ⟨XA, hXA⟩ : ∃ z, TB.extract 0 (16 * x) = z := ⟨_, rfl⟩
      obtain ⟨XC, hXC⟩ : ∃ z, TB.extract (16 * x + 16) (q * 16) = z := ⟨_, rfl⟩
      have hXAs : XA.size = 16 * x := by rw [← hXA, ByteArray.size_extract, hTs]; omega
      have hXCs : XC.size = q * 16 - (16 * x + 16) := by rw [← hXC, ByteArray.size_extract, hTs]; omega
      have hSBs : SB.size = 16 := by rw [← HSB.out]; rfl
      have hABs : (XA ++ SB).size = 16 * x + 16 := by rw [ByteArray.size_append, hXAs, hSBs]
      go_region
      obtain ⟨w32, hw32⟩ : ∃ z, (w31.setCell ⟨g5, j, none⟩ (.string (XA ++ SB ++ XC))).drew = z := ⟨_, rfl⟩
      rw [hw32]
      have M32 := Lib.hid (show Mod (fun i => i = g5) w31 w32 by rw [← hw32]; exact (Mod.setCell (p := ⟨g5, j, none⟩) (Mod.refl (fun i => i = g5) w31) (fun _ => rfl) _).drew)
      have N32 := Lib.hid (N31.out.then_ M32.out (fun i hi q => by omega))
      have HM32 := Lib.hid (HM31.out.mod M32.out (fun b hb q => by rw [q]; exact HK3n.out g5 hg5 hl5))
      have hXX := Lib.hid (show XA ++ SB ++ XC = ⟨(TT.take (x * 16) ++ sT ++ TT.drop (x * 16 + 16)).toArray⟩ by
        rw [← hXA, ← hXC, ← HTB.out, ← HSB.out]
        exact text3 TT sT x q hTl)
      have hE : (dumpS S).set j (TT.take (x * 16) ++ sT ++ TT.drop (x * 16 + 16)) = dumpX S v0 x sT := by
        have := dumpX_set (s := sT) HG.out HW.out HV0.out (x := x) (by rw [HSk.out, HQ.out]; exact hxq)
        rw [HSk.out, HQ.out, HTd.out] at this
        exact this
      have HE := Lib.hid hE
      have hR32 := Lib.hid (show RowV w32 g5 (dumpS S).length (txF (dumpX S v0 x sT)) by
        rw [← hw32, ← HE.out]
        have h1 := (hR5.out.set j hjd (.string (XA ++ SB ++ XC))).drew
        rw [hXX.out] at h1 ⊢
        exact h1.congr (fun i hi => row_set _ _ _ _ hi))
      have hdX := Lib.hid (show (dumpX S v0 x sT).length = (dumpS S).length by rw [← HE.out, List.length_set])
      have hgd5 : gd ≠ g5 := by
        have := HD3.out.old (by omega)
        omega
      have hd32 := Lib.hid (hRd31.out.mod M32.out (fun q => hgd5 q))
      have hgv5 : gv ≠ g5 := by
        have := HV3.out.old (by omega)
        omega
      have hv32 := Lib.hid (hRv31.out.mod M32.out (fun q => hgv5 q))
      have c0 := (hv32.out.cell (j * 5 + 0) (by omega)).trans (info_at HV0.out 0 (by omega) _ rfl)
      rw [Nat.add_zero] at c0
      clear hw32 HM31 M32 hE e5 f5 hl5 hld d0 c1
      go_wp2_with fail
      have hids := HG.out.ids v0 HVM.out
      have HF7 := Lib.hid (show OW.form ⟨7, [v0.id, (x : Int)], [sT]⟩ from ⟨by show (7 : Nat) < 15; decide, rfl, rfl, by
        intro n hn
        rcases List.mem_cons.1 hn with rfl | hn
        · unfold J64; omega
        · rcases List.mem_cons.1 hn with rfl | hn
          · unfold J64; omega
          · cases hn⟩)
      have HW7 := Lib.hid (show Calls Tryz.prog 18 #[bp m, .iface 38 (.agg #[.int .i64 v0.id, .int .i64 (x : Int), .string SB])] w32 fun e w' => e = .returned (.int .i64 (wantS { S with sec := sec1 } 7 [v0.id, (x : Int)] [sT] : Int)) ∧ Same w32 w' by
        rw [← HSB.out]
        exact wants_any HM32.out G1.out W1.out ⟨7, [v0.id, (x : Int)], [sT]⟩ HF7.out (by intro t ht; rw [List.mem_singleton.1 ht]; decide))
      refine HW7.out.mono ?_
      rintro e w33 ⟨rfl, M⟩
      have hwant := want_at (s := sT) G1.out W1.out (show v0 ∈ ({ S with sec := sec1 } : MS).vols from HVM.out) (x := x) (by show x < v0.size.toNat * S.k; rw [HSk.out, HQ.out]; exact hxq) rfl
      rw [hwant]
      have N33 := Lib.hid (N32.out.same M)
      have HM33 := Lib.hid (HM32.out.same M)
      have hR33 := Lib.hid (hR32.out.mod M (fun q => q))
      have hd33 := Lib.hid (hd32.out.mod M (fun q => q))
      have hxs : x < v0.size.toNat * ({ S with sec := sec1 } : MS).k := by show x < v0.size.toNat * S.k; rw [HSk.out, HQ.out]; exact hxq
      obtain ⟨fc1, fc2⟩ := fit_cases (s := sT) G1.out W1.out rfl (show v0 ∈ ({ S with sec := sec1 } : MS).vols from HVM.out) hxs (by decide)
      have H3 := Lib.hid (show readS { S with sec := sec1 } v0 0 (v0.size.toNat * S.k) = readS S v0 0 (v0.size.toNat * S.k) by
        have h4 := dump_get (S := { S with sec := sec1 }) HV0.out
        have h5 := dump_get (S := S) HV0.out
        rw [D1.out, h5] at h4
        injection h4 with h4
        exact (congrArg (fun b : ByteArray => b.data.toList) h4).symm)
      have HX1 := Lib.hid (show dumpX { S with sec := sec1 } v0 x sT = dumpX S v0 x sT by
        have h1 := dumpX_set (s := sT) G1.out W1.out HV0.out (x := x) hxs
        have h2 := dumpX_set (s := sT) HG.out HW.out HV0.out (x := x) (by rw [HSk.out, HQ.out]; exact hxq)
        rw [D1.out] at h1
        rw [← h1, ← h2, H3.out])
      have H16 := Lib.hid (show (TT.drop (x * 16)).take 16 = secS { S with sec := sec1 } v0 x by
        have h := sec_text G1.out (show v0 ∈ ({ S with sec := sec1 } : MS).vols from HVM.out) hxs
        rw [show ({ S with sec := sec1 } : MS).k = S.k from rfl, H3.out, show v0.size.toNat * S.k = q by rw [HSk.out, HQ.out], HTd.out] at h
        exact h)
      rw [HX1.out] at fc1 fc2
      have HF1 := Lib.hid fc1
      have HF2 := Lib.hid fc2
      have hTx : TxS w33 (.slice (some ⟨g5, 0, none⟩) (dumpS S).length cap5) (dumpX S v0 x sT) := by
        rw [← hdX.out]
        exact ⟨⟨_, _, rfl, fun _ => ⟨g5, rfl, by rw [hdX.out]; exact hR33.out⟩⟩⟩
      have HTx := Lib.hid hTx
      clear M hTx fc1 fc2 HW7 HF7 HM32 hR32 hd32 hwant c0 hRv31 hv32 N31 hd31 hRd31
      have hl5 := hR5.out.lt
      have HRes := Lib.hid (restore_any HM33.out G1.out W1.out _ _ HTx.out (by rw [hdX.out]; omega))
      cases hneed : needS { S with sec := sec1 } v0 (x / ({ S with sec := sec1 } : MS).k) with
      | false =>
        have hfit := Lib.hid (HF1.out hneed)
        rw [if_neg (by decide)]
        go_wp2_with fail
        refine HRes.out.mono ?_
        rintro e w34 ⟨MR, hcase⟩
        rcases hcase with ⟨_, rfl, sec2, hsec2, hm2⟩ | ⟨hno, _⟩
        case inr => exact absurd hfit.out hno
        have h2 := hsec2
        rw [← HX1.out] at h2
        have G2 := Lib.hid (show Good { S with sec := sec2 } from good_new G1.out rfl h2)
        have W2 := Lib.hid (show Wf { S with sec := sec2 } from wf_new W1.out sec2)
        have D2 := Lib.hid (show dumpS { S with sec := sec2 } = dumpX S v0 x sT from (dump_new G1.out rfl (by rw [HX1.out]; exact hfit.out) h2).trans HX1.out)
        have HM34 := Lib.hid (show Md Tryz.prog K3 w34 m { S with sec := sec2 } from hm2)
        have N34 := Lib.hid (N33.out.then_ MR (fun i hi q h => q (HK3.out i h)))
        have hR34 := Lib.hid (hR33.out.mod MR (fun q => q (HK3n.out g5 hg5 hl5)))
        clear h2 hsec2 hm2 MR HRes
        go_wp2_with fail
        refine (dump_md HM34.out G2.out W2.out).mono ?_
        rintro e w35 ⟨vf, rfl, hf, -, M⟩
        rw [D2.out] at hf
        obtain ⟨gf, capf, rfl, -, -, hRf⟩ := RowV.of_owns hf (show 0 < S.vols.length by omega)
        have hRf35 := Lib.hid (show RowV w35 gf S.vols.length (txF (dumpX S v0 x sT)) by
          rw [Nat.mul_one] at hRf
          exact hRf.congr (fun i hi => txF_map _ i (by rw [hdX.out, HDL.out]; exact hi)))
        have hR35 := Lib.hid (show RowV w35 g5 S.vols.length (txF (dumpX S v0 x sT)) by
          rw [← HDL.out]
          exact hR34.out.mod M (fun q => q))
        have HM35 := Lib.hid (HM34.out.same M)
        have N35 := Lib.hid (N34.out.same M)
        clear hRf hf M
        rw [HDL.out]
        rw [show ({ S with sec := sec2 } : MS).vols.length = S.vols.length from rfl]
        obtain ⟨nv, hnv⟩ : ∃ z, S.vols.length = z := ⟨_, rfl⟩
        go_wp2_with fail
        go_loopw [23] (fun i wr => ∃ t : Nat, t ≤ S.vols.length ∧ i = .int .i64 t ∧ Same w35 wr) (fun i _ => S.vols.length - (intOf i).toNat)
        case atStart => exact ⟨0, Nat.zero_le _, rfl, Mod.refl _ _⟩
        case round =>
          obtain ⟨t, ht, rfl, hM⟩ := hrel
          have J := Lib.hid hM
          clear hM
          by_cases hlt : t < S.vols.length
          · obtain ⟨y, hy⟩ : ∃ y : ByteArray, txF (dumpX S v0 x sT) t = .string y := ⟨_, rfl⟩
            have a1 := ((hRf35.out.mod J.out (fun q => q)).cell t hlt).trans (congrArg some hy)
            have a2 := ((hR35.out.mod J.out (fun q => q)).cell t hlt).trans (congrArg some hy)
            clear hy
            go_wp2_with fail
            go_region
            go_wp2_with fail
            go_roundw
            case rel => exact ⟨t + 1, by omega, by go_num, J.out.drew⟩
            case measure => simp [intOf]; omega
          · obtain rfl : t = S.vols.length := by omega
            have hce : ((countS S : Int) == (countS S : Int)) = true := by simp
            go_wp2_with fail
            refine (count_md (HM35.out.same J.out) G2.out W2.out).mono ?_
            rintro e w36 ⟨rfl, M⟩
            rw [show countS { S with sec := sec2 } = countS S from rfl]
            have J36 := Lib.hid (J.out.same M)
            clear M
            go_wp2_with fail
            refine (count_md (HCm.out _ (N35.out.same J36.out)) HGc.out HWc.out).mono ?_
            rintro e w37 ⟨rfl, M⟩
            rw [HI.out.count]
            have J37 := Lib.hid (J36.out.same M)
            clear M
            go_wp2_with fail
            refine (restore_nil _ _).mono ?_
            rintro e w38 ⟨rfl, M⟩
            have J38 := Lib.hid (J37.out.same M)
            clear M
            go_wp2
            exact HR.out _ _ ⟨rfl, same_of J23.out (N35.out.same J38.out) HK2.out⟩
      | true =>
        rw [if_pos rfl]
        go_wp2_with fail
        refine HRes.out.mono ?_
        rintro e w34 ⟨MR, hcase⟩
        have N34 := Lib.hid (N33.out.then_ MR (fun i hi q h => q (HK3.out i h)))
        have hd34 := Lib.hid (hd33.out.mod MR (fun q => q (HK3.out gd (HKn.out gd (by omega) (HD3.out.old (by omega))))))
        rcases hcase with ⟨hfit, rfl, sec2, hsec2, hm2⟩ | ⟨hno, rfl, hm2⟩
        · have h2 := hsec2
          rw [← HX1.out] at h2
          have hsx := HF2.out hneed hfit
          have G2 := Lib.hid (show Good { S with sec := sec2 } from good_new G1.out rfl h2)
          have W2 := Lib.hid (show Wf { S with sec := sec2 } from wf_new W1.out sec2)
          have D2 := Lib.hid (show dumpS { S with sec := sec2 } = dumpS S from ((dump_new G1.out rfl (by rw [HX1.out]; exact hfit) h2).trans (dumpX_id W1.out (show v0 ∈ ({ S with sec := sec1 } : MS).vols from HVM.out) hsx)).trans D1.out)
          have HM34 := Lib.hid (show Md Tryz.prog K3 w34 m { S with sec := sec2 } from hm2)
          have hXB : TB.extract (16 * x) (16 * x + 16) = SB := by
            rw [← HTB.out, ← HSB.out, ext_cut, show 16 * x + 16 - 16 * x = 16 by omega, Nat.mul_comm 16 x, H16.out, hsx]
            rfl
          have d0 := (hd34.out.cell j hjd).trans (congrArg some hdS.out)
          rw [HTB.out] at d0
          clear h2 hsec2 hm2 MR HRes hfit
          go_wp2_with fail
          refine (same_models HM34.out G2.out W2.out (HCm.out _ N34.out) HGc.out HWc.out).mono ?_
          rintro e w35 ⟨rfl, M⟩
          rw [show (decide (infoS { S with sec := sec2 } = infoS T) && decide (dumpS { S with sec := sec2 } = dumpS T)) = true by
            rw [D2.out, HI.out.dump, show infoS { S with sec := sec2 } = infoS S from rfl, HI.out.info]
            simp]
          go_wp2_with fail
          exact HR.out _ _ ⟨rfl, same_of J23.out (N34.out.same M) HK2.out⟩
        · have HM34 := Lib.hid (show Md Tryz.prog K3 w34 m { S with sec := sec1 } from hm2)
          clear hm2 MR HRes
          go_wp2_with fail
          refine (same_models HM34.out G1.out W1.out (HCm.out _ N34.out) HGc.out HWc.out).mono ?_
          rintro e w35 ⟨rfl, M⟩
          rw [show (decide (infoS { S with sec := sec1 } = infoS T) && decide (dumpS { S with sec := sec1 } = dumpS T)) = true by
            rw [D1.out, HI.out.dump, show infoS { S with sec := sec1 } = infoS S from rfl, HI.out.info]
            simp]
          go_wp2_with fail
          exact HR.out _ _ ⟨rfl, same_of J23.out (N34.out.same M) HK2.out⟩
end Go.Proofs.YtlcepoagpocadaaGreatDoor
