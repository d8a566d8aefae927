import Derived.Test.YtlcepoagpocadaaGreatDoorWtF
import Derived.BigQuiet
set_option linter.unusedSimpArgs false
set_option linter.unusedVariables false
set_option maxRecDepth 100000
/- A witness sees a loss of power. -/
namespace Go.Proofs.YtlcepoagpocadaaGreatDoor
open Go Go.RowKit
set_option maxHeartbeats 16000000 in
theorem wcrash_any {B : Nat} {w : World} {x : Nat} {sl sz : Int} {s : WS} {mn mp ma : Nat} {sv : Value} {Kn Kp : Nat → Prop} (h : WtP B w x sl sz s mn mp ma sv Kn Kp) (ok : WOk s) (ev : Ev) (vv dv : Value)
    (hgn : ev.gen ≠ s.gen + 1) (hg0 : 0 ≤ ev.gen) (hg1 : ev.gen ≤ 1000) (hv : TvS w vv ev.vols) (hd : TxS w dv ev.dump) (hvl : ev.vols.length ≤ 100000) (hdl : ev.dump.length ≤ 100000) (hdt : ∀ t ∈ ev.dump, t.length ≤ 1000000) :
    Calls Tryz.prog 77 #[bp x, .agg (evC ev.o ev.er ev.d vv ev.gen dv)] w fun e w' => ∃ r, e = .returned (.bool r.isSome) ∧ CrashR s ev r ∧ (∀ s', r = some s' → Wt B w' x sl sz s') ∧ Mod (fun i => B ≤ i) w w' := by
  refine opq fun R HR => ?_
  have HB := Lib.hid h
  have OK := Lib.hid ok
  have HV := Lib.hid hv
  have HD := Lib.hid hd
  have HDT := Lib.hid hdt
  obtain ⟨eo, er, ed, evs, eg, edu⟩ := ev
  dsimp only at HV HD HDT hgn hg0 hg1 hvl hdl HR
  obtain ⟨c0, hc0⟩ : ∃ z, ordW eo = z := ⟨_, rfl⟩
  obtain ⟨sn, sp, g, ss⟩ := s
  obtain ⟨a0, c00, rfl⟩ := owns_slice h.row
  obtain ⟨a3, c3, rfl, k3⟩ := hv.ex
  obtain ⟨a2, c2, rfl, k2⟩ := hd.ex
  have K2 := Lib.hid k2
  have K3 := Lib.hid k3
  have HSR := Lib.hid (owns_rowAt24 h.row).at_
  dsimp only at K2 K3 HSR
  clear k2 k3
  dsimp only at hgn
  have hgr := (show 0 ≤ g ∧ g ≤ 1000 from ⟨ok.g0, ok.g1⟩)
  have hbase := h.blk
  dsimp only at hbase
  unfold evC
  rw [hc0]
  have HBX := Lib.hid (Blk.new w #[c0, .int .i64 er, .string ⟨ed.toArray⟩, .slice a3 evs.length c3, .int .i64 eg, .slice a2 edu.length c2] 34)
  have q4 := HBX.out.at_ (i := 4) _ rfl
  have q1 := HBX.out.at_ (i := 1) _ rfl
  have q2 := HBX.out.at_ (i := 2) _ rfl
  have HXA := Lib.hid (hbase.alloc (.cells #[c0, .int .i64 er, .string ⟨ed.toArray⟩, .slice a3 evs.length c3, .int .i64 eg, .slice a2 edu.length c2] 34))
  clear h ok hv hd hdt hc0 hbase
  unfold bp at *
  by_cases hge : eg = g
  case neg =>
    have BN := Lib.hid (base_no _ _ _ _ _ _ _ g eg hgr.1 (by omega) hge hgn HXA.out)
    unfold bp at BN
    go_enter Tryz.func77, Tryz.ntmps77
    go_wp2_with fail
    refine BN.out.mono ?_
    rintro e w1 ⟨rfl, M⟩
    have N1 := Lib.hid (show Same w w1 from ((Mod.refl _ _).alloc _).same M)
    clear M
    go_wp2_with fail
    go_region
    go_wp2_with fail
    exact HR.out _ _ ⟨none, rfl, .inl ⟨fun q => hge q.gen, rfl⟩, (fun s' q => by cases q), (N1.out.mono (fun _ _ q => q.elim)).drew⟩
  obtain rfl : eg = g := hge
  have BN := Lib.hid (base_now _ _ _ _ _ _ _ eg HXA.out)
  unfold bp at BN
  by_cases her : er = 0
  case neg =>
    have hb : (er != 0) = true := by simpa using her
    go_enter Tryz.func77, Tryz.ntmps77
    go_wp2_with fail
    refine BN.out.mono ?_
    rintro e w1 ⟨rfl, M⟩
    have N1 := Lib.hid (show Same w w1 from ((Mod.refl _ _).alloc _).same M)
    have q1 := (HBX.out.mod M (fun q => q)).at_ (i := 1) _ rfl
    clear M
    go_wp2_with fail
    go_region
    go_wp2_with fail
    exact HR.out _ _ ⟨none, rfl, .inl ⟨fun q => her q.er, rfl⟩, (fun s' q => by cases q), (N1.out.mono (fun _ _ q => q.elim)).drew⟩
  subst her
  by_cases hed : ed = []
  case neg =>
    have hb : (ed != []) = true := by simpa using hed
    have hb2 : (ed == []) = false := by simpa using hed
    go_enter Tryz.func77, Tryz.ntmps77
    go_wp2_with fail
    refine BN.out.mono ?_
    rintro e w1 ⟨rfl, M⟩
    have N1 := Lib.hid (show Same w w1 from ((Mod.refl _ _).alloc _).same M)
    have q1 := (HBX.out.mod M (fun q => q)).at_ (i := 1) _ rfl
    have q2 := (HBX.out.mod M (fun q => q)).at_ (i := 2) _ rfl
    clear M
    go_wp2_with fail
    go_region
    go_wp2_with fail
    exact HR.out _ _ ⟨none, rfl, .inl ⟨fun q => hed q.d, rfl⟩, (fun s' q => by cases q), (N1.out.mono (fun _ _ q => q.elim)).drew⟩
  subst hed
  go_enter Tryz.func77, Tryz.ntmps77
  go_wp2_with fail
  refine BN.out.mono ?_
  rintro e w1 ⟨rfl, M⟩
  have N1 := Lib.hid (show Same w w1 from ((Mod.refl _ _).alloc _).same M)
  have HBX1 := Lib.hid (HBX.out.mod M (fun q => q))
  have q1 := HBX1.out.at_ (i := 1) _ rfl
  have q2 := HBX1.out.at_ (i := 2) _ rfl
  have q3 := HBX1.out.at_ (i := 3) _ rfl
  clear M BN HXA
  go_wp2_with fail
  have hp1 := Lib.hid (show ∀ W, Same w1 W → Md Tryz.prog Kp W mp sp from fun W M => (HB.out.past.same N1.out).same M)
  have HK := Lib.hid (show ∀ W, Same w1 W → W.cell? ⟨w.heap.size, 1, none⟩ = some (.int .i64 0) ∧ W.cell? ⟨w.heap.size, 2, none⟩ = some (.string ⟨#[]⟩) ∧ W.cell? ⟨w.heap.size, 3, none⟩ = some (.slice a3 evs.length c3) from fun W M =>
    ⟨(HBX1.out.mod M (fun q => q)).at_ (i := 1) _ rfl, (HBX1.out.mod M (fun q => q)).at_ (i := 2) _ rfl, (HBX1.out.mod M (fun q => q)).at_ (i := 3) _ rfl⟩)
  have hS := HK.out w1 (Mod.refl _ _)
  go_region_held3 (fun W => W.cell? ⟨w.heap.size, 1, none⟩ = some (.int .i64 0) ∧ W.cell? ⟨w.heap.size, 2, none⟩ = some (.string ⟨#[]⟩) ∧ W.cell? ⟨w.heap.size, 3, none⟩ = some (.slice a3 evs.length c3)) (first | exact hS | assumption | exact HK.out _ ((Mod.refl _ _).drew) | exact HK.out _ JA.out) ((
    first
    | (go_at_call 23; refine (volumes_md (hp1.out _ ((Mod.refl _ _).drew)) OK.out.gp OK.out.wp).mono ?_; rintro e wa ⟨v2, rfl, ho2, -, MA⟩; have JA := Lib.hid (show Same w1 wa from ((Mod.refl _ w1).drew).same MA); have TV2 := Lib.hid (TvS.owns ho2); clear MA ho2)
    | (go_at_call 74; refine (eqVs_any _ _ _ _ _ ((HV.out.same N1.out).same JA.out) TV2.out (by omega) (by have := vols_len OK.out.gp OK.out.wp; dsimp only at this; omega)).mono ?_; rintro e wb ⟨rfl, MA⟩; have JA := Lib.hid (JA.out.same MA); clear MA)))
  obtain ⟨w2, hw2⟩ : ∃ z, z = wb := ⟨_, rfl⟩
  subst hw2
  have J2 := Lib.hid JA.out
  clear JA HK hS TV2 q1 q2 q3
  have HBX2 := Lib.hid (HBX1.out.mod J2.out (fun q => q))
  by_cases hvv : evs.map infoV = sp.vols.map infoV
  case neg =>
    rw [decide_eq_false hvv]
    go_wp2_with fail
    exact HR.out _ _ ⟨none, rfl, .inl ⟨fun q => hvv q.vols, rfl⟩, (fun s' q => by cases q), (N1.out.same J2.out).mono (fun _ _ q => q.elim)⟩
  rw [decide_eq_true hvv]
  have HVV := Lib.hid hvv
  clear hvv
  go_wp2_with fail
  refine (dump_md (hp1.out _ J2.out) OK.out.gp OK.out.wp).mono ?_
  rintro e w3 ⟨vd, rfl, hod, -, M⟩
  have J3 := Lib.hid (J2.out.same M)
  have HBX3 := Lib.hid (HBX2.out.mod M (fun q => q))
  have hDl := Lib.hid (show (dumpS sp).length = sp.vols.length by unfold dumpS; rw [List.length_map])
  rw [← hDl.out] at hod
  obtain ⟨a1, c1, rfl, k1⟩ := (TxS.owns hod).ex
  have K1 := Lib.hid k1
  have q5 := HBX3.out.at_ (i := 5) _ rfl
  have q3 := HBX3.out.at_ (i := 3) _ rfl
  have hvn : sp.vols.length ≤ 16 := vols_len OK.out.gp OK.out.wp
  have hdn : (dumpS sp).length ≤ 16 := by rw [hDl.out]; exact hvn
  clear k1 hod M HBX2
  by_cases hln : (dumpS sp).length = edu.length
  case neg =>
    have hq : (((dumpS sp).length : Int) != (edu.length : Int)) = true := by simp; omega
    go_wp2_with fail
    exact HR.out _ _ ⟨none, rfl, .inl ⟨fun q => hln (by rw [hDl.out]; exact q.len.symm), rfl⟩, (fun s' q => by cases q), (N1.out.same J3.out).mono (fun _ _ q => q.elim)⟩
  have hq : (((dumpS sp).length : Int) != (edu.length : Int)) = false := by rw [hln]; simp
  have HLN := Lib.hid hln
  have hEV : evs.length = sp.vols.length := by have := congrArg List.length HVV.out; simpa using this
  have HEV := Lib.hid hEV
  have hel : edu.length ≤ 16 := by omega
  have hev : evs.length ≤ 16 := by omega
  clear hln hEV
  go_wp2_with fail
  go_loopw [53] (fun i wr => ∃ j : Nat, j ≤ evs.length ∧ i = .int .i64 j ∧ Same w3 wr ∧ (∀ (i : Nat) (v : Vo) (p d : List UInt8), i < j → evs[i]? = some v → (dumpS sp)[i]? = some p → edu[i]? = some d → soundL v.id p d ss = true)) (fun i _ => evs.length - (intOf i).toNat)
  case atStart => exact ⟨0, Nat.zero_le _, rfl, Mod.refl _ _, fun i v p d h => by omega⟩
  case round =>
    obtain ⟨j, hj, rfl, hM, hs⟩ := hrel
    have J := Lib.hid hM
    have HS := Lib.hid hs
    clear hM hs
    by_cases hlt : j < evs.length
    · obtain ⟨v, hv⟩ : ∃ v, evs[j]? = some v := ⟨_, List.getElem?_eq_getElem hlt⟩
      obtain ⟨p, hp⟩ : ∃ p, (dumpS sp)[j]? = some p := ⟨_, List.getElem?_eq_getElem (by rw [hDl.out, ← HEV.out]; exact hlt)⟩
      obtain ⟨d, hd⟩ : ∃ d, edu[j]? = some d := ⟨_, List.getElem?_eq_getElem (by rw [← HLN.out, hDl.out, ← HEV.out]; exact hlt)⟩
      obtain ⟨g3, rfl, r3⟩ := K3.out (by omega)
      have R3 := Lib.hid ((((r3.mod N1.out (fun q => q)).mod J3.out (fun q => q)).mod J.out (fun q => q)))
      have v0 := (R3.out.cell (j * 5 + 0) (by omega)).trans (info_at hv 0 (by omega) _ rfl)
      have v1 := (R3.out.cell (j * 5 + 1) (by omega)).trans (info_at hv 1 (by omega) _ rfl)
      have v2 := (R3.out.cell (j * 5 + 2) (by omega)).trans (info_at hv 2 (by omega) _ rfl)
      have v3 := (R3.out.cell (j * 5 + 3) (by omega)).trans (info_at hv 3 (by omega) _ rfl)
      have v4 := (R3.out.cell (j * 5 + 4) (by omega)).trans (info_at hv 4 (by omega) _ rfl)
      rw [Nat.add_zero] at v0
      go_upto_region 10 with fail
      obtain ⟨w4, hw4⟩ : ∃ z, wr.alloc (.cells #[.int .i64 v.id, .int .i64 v.size, .int .i64 0, .bool v.pin, .int .i64 v.fr] 47) = z := ⟨_, rfl⟩
      rw [hw4]
      have J4 := Lib.hid (show Same w3 w4 by rw [← hw4]; exact J.out.alloc _)
      have BV := Lib.hid (show Blk w4 wr.heap.size #[.int .i64 v.id, .int .i64 v.size, .int .i64 0, .bool v.pin, .int .i64 v.fr] by rw [← hw4]; exact Blk.new wr _ 47)
      obtain ⟨g1, rfl, r1⟩ := K1.out (by rw [hDl.out, ← HEV.out]; omega)
      obtain ⟨g2, rfl, r2⟩ := K2.out (by rw [← HLN.out, hDl.out, ← HEV.out]; omega)
      have R1 := Lib.hid (r1.mod J4.out (fun q => q))
      have R2 := Lib.hid (((r2.mod N1.out (fun q => q)).mod J3.out (fun q => q)).mod J4.out (fun q => q))
      have HB4 := Lib.hid (HBX3.out.mod J4.out (fun q => q))
      have hj1 : j < (dumpS sp).length := by rw [hDl.out, ← HEV.out]; exact hlt
      have hj2 : j < edu.length := by rw [← HLN.out]; exact hj1
      have HK := Lib.hid (show ∀ W, Same w4 W → W.cell? ⟨wr.heap.size, 0, none⟩ = some (.int .i64 v.id) ∧ W.cell? ⟨g1, j, none⟩ = some (.string ⟨p.toArray⟩) ∧ W.cell? ⟨w.heap.size, 5, none⟩ = some (.slice (some ⟨g2, 0, none⟩) edu.length c2) ∧ W.cell? ⟨g2, j, none⟩ = some (.string ⟨d.toArray⟩) from fun W M =>
        ⟨(BV.out.mod M (fun q => q)).at_ (i := 0) _ rfl, ((R1.out.mod M (fun q => q)).cell j hj1).trans (by unfold txF; rw [List.getD_eq_getElem?_getD, hp]; rfl), (HB4.out.mod M (fun q => q)).at_ (i := 5) _ rfl, ((R2.out.mod M (fun q => q)).cell j hj2).trans (by unfold txF; rw [List.getD_eq_getElem?_getD, hd]; rfl)⟩)
      have hS := HK.out w4 (Mod.refl _ _)
      have hpl : p.length ≤ 1000000 := by
        unfold dumpS at hp
        rw [List.getElem?_map] at hp
        obtain ⟨u, hu, rfl⟩ := Option.map_eq_some_iff.1 hp
        have hz := OK.out.gp.sizes u (List.mem_of_getElem? hu)
        have hk := OK.out.gp.k8
        have hlen := readS_len OK.out.gp (List.mem_of_getElem? hu) 0 (u.size.toNat * sp.k)
        dsimp only at hk hlen
        have := Nat.mul_le_mul (show u.size.toNat ≤ 64 by omega) hk
        omega
      have HSN := Lib.hid (sound_any v.id p d hpl (HDT.out d (List.mem_of_getElem? hd)) ss OK.out.os (by have := OK.out.ol; dsimp only at this; omega) a0 ss.length c00 rfl)
      have HPD := Lib.hid (show evs[j]? = some v ∧ (dumpS sp)[j]? = some p ∧ edu[j]? = some d from ⟨hv, hp, hd⟩)
      unfold strV at HSN
      clear hw4 r1 r2 hv hp hd v0 v1 v2 v3 v4 R3
      go_region_held3 (fun W => W.cell? ⟨wr.heap.size, 0, none⟩ = some (.int .i64 v.id) ∧ W.cell? ⟨g1, j, none⟩ = some (.string ⟨p.toArray⟩) ∧ W.cell? ⟨w.heap.size, 5, none⟩ = some (.slice (some ⟨g2, 0, none⟩) edu.length c2) ∧ W.cell? ⟨g2, j, none⟩ = some (.string ⟨d.toArray⟩)) (first | exact hS | assumption | exact HK.out _ ((Mod.refl _ _).drew) | exact HK.out _ JA.out) ((
        first
        | (go_at_call 103; refine (HSN.out _ (((HSR.out.same N1.out).same J3.out).same (J4.out.drew))).mono ?_; rintro e wc ⟨rfl, MA⟩; have JA := Lib.hid (show Same w4 wc from ((Mod.refl _ w4).drew).same MA); clear MA)))
      have J5 := Lib.hid (show Same w3 wc from J4.out.same JA.out)
      clear HK hS JA HSN
      cases hy : soundL v.id p d ss with
      | true =>
        go_wp2_with fail
        go_roundw
        case rel => exact ⟨j + 1, by omega, by go_num, J5.out, fun i v' p' d' hi h1 h2 h3 => by
          by_cases e : i = j
          · subst e
            have e1 := HPD.out.1.symm.trans h1
            have e2 := HPD.out.2.1.symm.trans h2
            have e3 := HPD.out.2.2.symm.trans h3
            injection e1 with e1
            injection e2 with e2
            injection e3 with e3
            rw [← e1, ← e2, ← e3]
            exact hy
          · exact HS.out i v' p' d' (by omega) h1 h2 h3⟩
        case measure => simp [intOf]; omega
      | false =>
        go_wp2_with fail
        exact HR.out _ _ ⟨none, rfl, .inl ⟨(fun q => Bool.false_ne_true (hy.symm.trans (q.ok j v p d HPD.out.1 HPD.out.2.1 HPD.out.2.2))), rfl⟩, (fun s' q => by cases q), ((N1.out.same J3.out).same J5.out).mono (fun _ _ q => q.elim)⟩
    · obtain rfl : j = evs.length := by omega
      have COK := Lib.hid (show CrashOk ⟨sn, sp, eg, ss⟩ ⟨eo, 0, [], evs, eg, edu⟩ from ⟨rfl, rfl, rfl, HVV.out, HLN.out.symm.trans hDl.out, fun i v p d h1 h2 h3 => HS.out i v p d (List.getElem?_eq_some_iff.1 h1).1 h1 h2 h3⟩)
      have J5 := Lib.hid (show Same w wr from (N1.out.same J3.out).same J.out)
      have hxw := HB.out.blk.lt
      have hBx := HB.out.xB
      have hwr := J5.out.size
      have hbw := HBX3.out.lt
      go_wp2_with fail
      refine (copy_any (hp1.out _ (J3.out.same J.out)) OK.out.wp OK.out.gp).mono ?_
      rintro e w5 ⟨mc, C, fC, rfl, hI, hW, hG, hmc, M⟩
      have HI := Lib.hid (show Iso sp C fC ∧ Good C ∧ Wf C from ⟨hI, hG, hW⟩)
      have HMC := Lib.hid hmc
      have h5r := M.size
      have HB5 := Lib.hid ((HBX3.out.mod J.out (fun q => q)).mod M (fun q => q))
      have J6 := Lib.hid (show Same w w5 from J5.out.same M)
      have q5 := HB5.out.at_ (i := 5) _ rfl
      have hbl : w.heap.size < wr.heap.size := (HBX3.out.mod J.out (fun q => q)).lt
      clear hI hW hG hmc M
      unfold bp at *
      go_wp2_with fail
      refine (restore_any HMC.out HI.out.2.1 HI.out.2.2 _ edu (HD.out.same J6.out) (by omega)).mono ?_
      rintro e w6 ⟨MR, hcase⟩
      have h65 := MR.size
      have HB6 := Lib.hid (HB5.out.mod MR (fun q => q hbl))
      have q4 := HB6.out.at_ (i := 4) _ rfl
      have M6 := Lib.hid (show Mod (fun i => B ≤ i) w w6 from (J6.out.mono (fun _ _ q => q.elim)).then_ MR (fun i hi q => by omega))
      have HX6 := Lib.hid ((HB.out.blk.mod J6.out (fun q => q)).mod MR (fun q => q (by omega)))
      rcases hcase with ⟨hfit, rfl, sec, hsec, hmc2⟩ | ⟨hno, rfl, _⟩
      · have GT := Lib.hid (good_told HI.out.2.1 hfit hsec)
        have WT := Lib.hid (wf_new HI.out.2.2 sec)
        have HM6 := Lib.hid hmc2
        have HFS := Lib.hid (show FitD C edu ∧ ∀ v ∈ C.vols, ∀ y ∈ v.pl, (some y.2, sec y.2) ∈ tellA C.k (C.vols.zip edu) from ⟨hfit, hsec⟩)
        clear MR hfit hsec hmc2
        go_wp2_with fail
        refine (anew_any _ _ _ _ _ _ _ _ HX6.out HM6.out GT.out WT.out (show x < wr.heap.size by omega) eg).mono ?_
        rintro e w7 ⟨mp2, ma2, Q, f2, rfl, hx7, hI7, hW7, hG7, hp7, hn7, M7⟩
        have h67 := M7.size
        have H7 := Lib.hid (show Wt B w7 x sl sz ⟨{ C with sec := sec }, Q, eg, []⟩ from ⟨⟨GT.out, WT.out, hG7, hW7, hg0, hg1, (fun o h => by cases h), by simp⟩, mc, mp2, ma2, .slice none 0 0, _, _, ⟨hx7, hn7, hp7, ⟨rfl, .inl ⟨rfl, rfl⟩⟩, (fun i hi => ⟨.inl (by omega), by omega⟩), ⟨.inl (by omega), by omega⟩, (fun g h => by cases h), (fun b hb => by
          by_cases q : b < w6.heap.size
          · exact .inr q
          · exact .inl (.inr ⟨by omega, hb⟩)), hBx⟩⟩)
        have M07 := Lib.hid (M6.out.then_ M7 (fun i _ q => by rw [q]; exact hBx))
        have HI7 := Lib.hid hI7
        clear hx7 hI7 hW7 hG7 hp7 hn7 M7
        go_wp2
        exact HR.out _ _ ⟨some ⟨{ C with sec := sec }, Q, eg, []⟩, rfl, .inr ⟨COK.out, C, fC, HI.out.1, HI.out.2.1, HI.out.2.2, .inr ⟨HFS.out.1, sec, Q, f2, HFS.out.2, HI7.out, rfl⟩⟩, (fun s' q => by cases q; exact H7.out), M07.out⟩
      · go_wp2_with fail
        exact HR.out _ _ ⟨none, rfl, .inr ⟨COK.out, C, fC, HI.out.1, HI.out.2.1, HI.out.2.2, .inl ⟨hno, rfl⟩⟩, (fun s' q => by cases q), M6.out⟩
end Go.Proofs.YtlcepoagpocadaaGreatDoor
set_option maxRecDepth 100000
/- Whether two answers are the same; the model behind an event. -/
namespace Go.Proofs.YtlcepoagpocadaaGreatDoor
open Go Go.RowKit
set_option maxHeartbeats 8000000 in
theorem same_ans (e1 e2 : Int) (d1 d2 : List UInt8) (v1 v2 : Value) (l1 l2 : List Vo) (w : World) (h1 : TvS w v1 l1) (h2 : TvS w v2 l2) (hl1 : l1.length ≤ 1000000) (hl2 : l2.length ≤ 1000000) :
    Calls Tryz.prog 107 #[.agg #[.int .i64 e1, .string ⟨d1.toArray⟩, v1], .agg #[.int .i64 e2, .string ⟨d2.toArray⟩, v2]] w fun e w' => e = .returned (.bool (decide (e1 = e2) && decide (d1 = d2) && decide (l1.map infoV = l2.map infoV))) ∧ Same w w' := by
  refine opq fun R HR => ?_
  have H1 := Lib.hid h1
  have H2 := Lib.hid h2
  clear h1 h2
  have N0 := Lib.hid (show ∀ c1 c2 t1 t2, Same w ((w.alloc (.cells c1 t1)).alloc (.cells c2 t2)) from fun _ _ _ _ => ((Mod.refl _ _).alloc _).alloc _)
  by_cases he : e1 = e2
  · subst he
    have hb : (e1 == e1) = true := by simp
    by_cases hd : d1 = d2
    · subst hd
      have hb2 : (d1 == d1) = true := by simp
      rw [show (decide (e1 = e1) && decide (d1 = d1) && decide (l1.map infoV = l2.map infoV)) = decide (l1.map infoV = l2.map infoV) by simp] at HR
      go_enter Tryz.func107, Tryz.ntmps107
      go_wp2_with fail
      refine (eqVs_any _ _ _ _ _ (H1.out.same (N0.out _ _ _ _)) (H2.out.same (N0.out _ _ _ _)) hl1 hl2).mono ?_
      rintro e w1 ⟨rfl, M⟩
      have N1 := Lib.hid ((N0.out _ _ _ _).same M)
      clear M
      go_wp2_with fail
      exact HR.out _ _ ⟨rfl, N1.out⟩
    · have hb2 : (d1 == d2) = false := by simpa using hd
      rw [show (decide (e1 = e1) && decide (d1 = d2) && decide (l1.map infoV = l2.map infoV)) = false by simp [hd]] at HR
      go_enter Tryz.func107, Tryz.ntmps107
      go_wp2_with fail
      exact HR.out _ _ ⟨rfl, N0.out _ _ _ _⟩
  · have hb : (e1 == e2) = false := by simpa using he
    rw [show (decide (e1 = e2) && decide (d1 = d2) && decide (l1.map infoV = l2.map infoV)) = false by simp [he]] at HR
    go_enter Tryz.func107, Tryz.ntmps107
    go_wp2_with fail
    exact HR.out _ _ ⟨rfl, N0.out _ _ _ _⟩
/-- The volumes that an answer tells. -/
def toldVs (S : MS) (t : Bool) : List Vo := if t = true then S.vols else []
theorem TvS.tell {w w' : World} {S : MS} {t : Bool} {v : Value} (h : TellV w w' S t v) : TvS w' v (toldVs S t) := by
  unfold TellV at h
  unfold toldVs
  cases t with
  | true =>
    rw [if_pos rfl] at h ⊢
    exact TvS.owns h.1
  | false =>
    rw [if_neg (by decide)] at h ⊢
    subst h
    exact ⟨⟨none, 0, rfl, fun q => by cases q⟩⟩
/-- The table alone: what an order's text asks for. -/
structure LibT (w : World) : Prop where
  tab : TabOK w
theorem LibT.same {w w' : World} (h : LibT w) (M : Same w w') : LibT w' := ⟨tab_same h.tab M⟩
theorem LibOK.t {w : World} (h : LibOK w) : LibT w := ⟨h.tab⟩
theorem do_anyT {K : Nat → Prop} {w : World} {m : Nat} {S : MS} (h : Md Tryz.prog K w m S) (G : Good S) (W : Wf S) (o : OW) (hf : o.form) (hL : LibT w) :
    Calls Tryz.prog 20 #[bp m, ordW o] w fun e w' => ∃ er d ua un uc S' tells, e = .returned (.agg #[.int .i64 er, .string ⟨d.toArray⟩, .slice ua un uc]) ∧ DoR S o.k o.ns o.ts er d tells S' ∧ Md Tryz.prog K w' m S' ∧ Mod (fun i => ¬ K i) w w' ∧ TellV w w' S tells (.slice ua un uc) := by
  by_cases hfit : o.fits = true
  · have HT : ∀ w', Same w w' → Calls Tryz.prog 51 #[ordW o] w' fun e w'' => ∃ s, e = .returned (.tuple #[.string s, .int .i64 0]) ∧ Same w' w'' :=
      fun w' M => (text_ok o hf hfit w' (hL.same M).tab).mono (fun e w'' q => ⟨_, q.1, q.2⟩)
    have hfq : ¬ (o.ts.all (fun t => decide (t.length ≤ 512)) = false) := by unfold OW.fits at hfit; rw [hfit]; decide
    obtain ⟨k, ns, ts⟩ := o
    obtain ⟨h15, hnn, hnd, hi⟩ := hf
    dsimp only at h15 hnn hnd hi hfq
    rcases kinds15 h15 with rfl | rfl | rfl | rfl | rfl | rfl | rfl | rfl | rfl | rfl | rfl | rfl | rfl | rfl | rfl
    · obtain ⟨a, b, rfl⟩ := len2 hnn
      obtain rfl := len0 hnd
      have ha := I64.ofJ (hi a (by simp))
      have hb := I64.ofJ (hi b (by simp))
      refine (do_create h G W a b ha hb HT).mono ?_
      rintro e w2 ⟨bk, pb, he, hm, hM⟩
      exact ⟨_, [], _, _, _, _, false, he, (by unfold DoR; rw [if_neg hfq]; exact ⟨⟨bk, pb, rfl⟩, rfl, rfl⟩), hm, hM, tell_no _ _ _⟩
    · obtain ⟨a, rfl⟩ := len1 hnn
      obtain rfl := len0 hnd
      have ha := I64.ofJ (hi a (by simp))
      refine (do_delete h G W a ha HT).mono ?_
      rintro e w2 ⟨he, hm, hM⟩
      exact ⟨_, [], _, _, _, _, false, he, (by unfold DoR; rw [if_neg hfq]; exact ⟨rfl, rfl, rfl⟩), hm, hM, tell_no _ _ _⟩
    · obtain ⟨a, b, rfl⟩ := len2 hnn
      obtain rfl := len0 hnd
      have ha := I64.ofJ (hi a (by simp))
      have hb := I64.ofJ (hi b (by simp))
      refine (do_snap h G W a b ha hb HT).mono ?_
      rintro e w2 ⟨bk, pb, he, hm, hM⟩
      exact ⟨_, [], _, _, _, _, false, he, (by unfold DoR; rw [if_neg hfq]; exact ⟨⟨bk, pb, rfl⟩, rfl, rfl⟩), hm, hM, tell_no _ _ _⟩
    · obtain ⟨a, b, rfl⟩ := len2 hnn
      obtain rfl := len0 hnd
      have ha := I64.ofJ (hi a (by simp))
      have hb := I64.ofJ (hi b (by simp))
      refine (do_resize h G W a b ha hb HT).mono ?_
      rintro e w2 ⟨he, hm, hM⟩
      exact ⟨_, [], _, _, _, _, false, he, (by unfold DoR; rw [if_neg hfq]; exact ⟨rfl, rfl, rfl⟩), hm, hM, tell_no _ _ _⟩
    · obtain ⟨a, rfl⟩ := len1 hnn
      obtain rfl := len0 hnd
      have ha := I64.ofJ (hi a (by simp))
      refine (do_pin h G W a ha HT).mono ?_
      rintro e w2 ⟨he, hm, hM⟩
      exact ⟨_, [], _, _, _, _, false, he, (by unfold DoR; rw [if_neg hfq]; exact ⟨rfl, rfl, rfl⟩), hm, hM, tell_no _ _ _⟩
    · obtain ⟨a, rfl⟩ := len1 hnn
      obtain rfl := len0 hnd
      have ha := I64.ofJ (hi a (by simp))
      refine (do_free h G W a ha HT).mono ?_
      rintro e w2 ⟨he, hm, hM⟩
      exact ⟨_, [], _, _, _, _, false, he, (by unfold DoR; rw [if_neg hfq]; exact ⟨rfl, rfl, rfl⟩), hm, hM, tell_no _ _ _⟩
    · obtain ⟨a, b, c, rfl⟩ := len3 hnn
      obtain rfl := len0 hnd
      have ha := I64.ofJ (hi a (by simp))
      have hb := I64.ofJ (hi b (by simp))
      have hc := I64.ofJ (hi c (by simp))
      refine (do_read h G W a b c ha hb hc HT).mono ?_
      rintro e w2 ⟨he, hM⟩
      exact ⟨_, _, _, _, _, _, false, he, (by unfold DoR; rw [if_neg hfq]; exact ⟨rfl, rfl, rfl, rfl⟩), h.same hM, hM.mono (fun _ _ q => q.elim), tell_no _ _ _⟩
    · obtain ⟨a, b, rfl⟩ := len2 hnn
      obtain ⟨t, rfl⟩ := len1 hnd
      have ha := I64.ofJ (hi a (by simp))
      have hb := I64.ofJ (hi b (by simp))
      have ht : t.length ≤ 512 := by simpa using hfq
      refine (do_write h G W a b t ha hb (by omega) HT).mono ?_
      rintro e w2 ⟨S2, he, hw, hm, hM⟩
      exact ⟨_, [], _, _, _, S2, false, he, (by unfold DoR; rw [if_neg hfq]; exact ⟨rfl, rfl, rfl, hw⟩), hm, hM, tell_no _ _ _⟩
    · obtain ⟨a, b, c, rfl⟩ := len3 hnn
      obtain rfl := len0 hnd
      have ha := I64.ofJ (hi a (by simp))
      have hb := I64.ofJ (hi b (by simp))
      have hc := I64.ofJ (hi c (by simp))
      refine (do_discard h G W a b c ha hb hc HT).mono ?_
      rintro e w2 ⟨S2, he, hw, hm, hM⟩
      exact ⟨_, [], _, _, _, S2, false, he, (by unfold DoR; rw [if_neg hfq]; exact ⟨rfl, rfl, rfl, hw⟩), hm, hM, tell_no _ _ _⟩
    · obtain rfl := len0 hnn
      obtain rfl := len0 hnd
      refine (do_other w m (kT 9) _ (by decide) HT).mono ?_
      rintro e w2 ⟨he, hM⟩
      exact ⟨_, [], _, _, _, _, false, he, (by unfold DoR; rw [if_neg hfq]; exact ⟨rfl, rfl, rfl, rfl⟩), h.same hM, hM.mono (fun _ _ q => q.elim), tell_no _ _ _⟩
    · obtain ⟨a, rfl⟩ := len1 hnn
      obtain rfl := len0 hnd
      have ha := I64.ofJ (hi a (by simp))
      refine (do_other w m (kT 10) _ (by decide) HT).mono ?_
      rintro e w2 ⟨he, hM⟩
      exact ⟨_, [], _, _, _, _, false, he, (by unfold DoR; rw [if_neg hfq]; exact ⟨rfl, rfl, rfl, rfl⟩), h.same hM, hM.mono (fun _ _ q => q.elim), tell_no _ _ _⟩
    · obtain rfl := len0 hnn
      obtain rfl := len0 hnd
      refine (do_other w m (kT 11) _ (by decide) HT).mono ?_
      rintro e w2 ⟨he, hM⟩
      exact ⟨_, [], _, _, _, _, false, he, (by unfold DoR; rw [if_neg hfq]; exact ⟨rfl, rfl, rfl, rfl⟩), h.same hM, hM.mono (fun _ _ q => q.elim), tell_no _ _ _⟩
    · obtain rfl := len0 hnn
      obtain rfl := len0 hnd
      refine (do_status h G W HT).mono ?_
      rintro e w2 ⟨u, he, hu, hu2, hM⟩
      obtain ⟨va, vc, rfl⟩ := owns_slice hu
      exact ⟨_, [], _, _, _, _, true, he, (by unfold DoR; rw [if_neg hfq]; exact ⟨rfl, rfl, rfl, rfl⟩), h.same hM, hM.mono (fun _ _ q => q.elim), ⟨hu, hu2⟩⟩
    · obtain ⟨a, rfl⟩ := len1 hnn
      obtain rfl := len0 hnd
      have ha := I64.ofJ (hi a (by simp))
      refine (do_other w m (kT 13) _ (by decide) HT).mono ?_
      rintro e w2 ⟨he, hM⟩
      exact ⟨_, [], _, _, _, _, false, he, (by unfold DoR; rw [if_neg hfq]; exact ⟨rfl, rfl, rfl, rfl⟩), h.same hM, hM.mono (fun _ _ q => q.elim), tell_no _ _ _⟩
    · obtain rfl := len0 hnn
      refine (do_other w m (kT 14) _ (by decide) HT).mono ?_
      rintro e w2 ⟨he, hM⟩
      exact ⟨_, [], _, _, _, _, false, he, (by unfold DoR; rw [if_neg hfq]; exact ⟨rfl, rfl, rfl, rfl⟩), h.same hM, hM.mono (fun _ _ q => q.elim), tell_no _ _ _⟩
  · have hfq : o.fits = false := by simpa using hfit
    have HT : ∀ w', Same w w' → Calls Tryz.prog 51 #[ordW o] w' fun e w'' => e = .returned (.tuple #[.string ⟨#[]⟩, .int .i64 1]) ∧ Same w' w'' :=
      fun w' M => text_bad o hf hfq w'
    refine (do_bad w m (kT o.k) _ HT).mono ?_
    rintro e w2 ⟨he, hM⟩
    refine ⟨_, [], _, _, _, S, false, he, ?_, h.same hM, hM.mono (fun _ _ q => q.elim), tell_no _ _ _⟩
    unfold OW.fits at hfq
    unfold DoR
    rw [if_pos hfq]
    exact ⟨rfl, rfl, rfl, rfl⟩
set_option maxHeartbeats 16000000 in
theorem answered_any {K : Nat → Prop} {w : World} {x mn : Nat} (c0 c1 c3 c4 c5 c6 c7 : Value) {S : MS} (hx : Blk w x #[c0, c1, bp mn, c3, c4, c5, c6, c7]) (hm : Md Tryz.prog K w mn S) (G : Good S) (W : Wf S) (hL : LibT w) (ev : Ev) (vv dv : Value) (hf : ev.o.form)
    (h4 : ev.er ≠ 4) (h5 : ev.er ≠ 5) (h6 : ev.er ≠ 6) (hv : TvS w vv ev.vols) (hd : TxS w dv ev.dump) (hvl : ev.vols.length ≤ 100000) (hdl : ev.dump.length ≤ 100000) :
    Calls Tryz.prog 79 #[bp x, .agg (evC ev.o ev.er ev.d vv ev.gen dv)] w fun e w' => ∃ m2 N f er d tells S' c, e = .returned (.tuple #[bp m2, .bool (decide (er = ev.er ∧ d = ev.d ∧ (toldVs N tells).map infoV = ev.vols.map infoV ∧ ev.dump = []))]) ∧ Iso S N f ∧ Good N ∧ Wf N ∧ DoR N ev.o.k ev.o.ns ev.o.ts er d tells S' ∧ w.heap.size ≤ c ∧ Md Tryz.prog (fun i => i < c) w' m2 S' ∧ Same w w' := by
  refine opq fun R HR => ?_
  have HV := Lib.hid hv
  have HD := Lib.hid hd
  have HX := Lib.hid hx
  have HM := Lib.hid hm
  have HL := Lib.hid hL
  have HF := Lib.hid hf
  have GW := Lib.hid (show Good S ∧ Wf S from ⟨G, W⟩)
  obtain ⟨eo, er, ed, evs, eg, edu⟩ := ev
  dsimp only at HV HD HF h4 h5 h6 hvl hdl HR
  obtain ⟨c0, hc0⟩ : ∃ z, ordW eo = z := ⟨_, rfl⟩
  have HC0 := Lib.hid hc0
  unfold evC
  rw [hc0]
  obtain ⟨a2, c2, rfl, k2⟩ := hd.ex
  have HBX := Lib.hid (Blk.new w #[c0, .int .i64 er, .string ⟨ed.toArray⟩, vv, .int .i64 eg, .slice a2 edu.length c2] 34)
  have e2 := (HX.out.alloc (.cells #[c0, .int .i64 er, .string ⟨ed.toArray⟩, vv, .int .i64 eg, .slice a2 edu.length c2] 34)).at_ (i := 2) _ rfl
  have N0 := Lib.hid (show Same w (w.alloc (.cells #[c0, .int .i64 er, .string ⟨ed.toArray⟩, vv, .int .i64 eg, .slice a2 edu.length c2] 34)) from (Mod.refl _ _).alloc _)
  clear hx hm hf hv hd hc0 k2 hL G W
  unfold bp at *
  go_enter Tryz.func79, Tryz.ntmps79
  go_wp2_with fail
  refine (copy_any (HM.out.same N0.out) GW.out.2 GW.out.1).mono ?_
  rintro e w1 ⟨m2, N, f, rfl, hI, hW, hG, hm2, M⟩
  have N1 := Lib.hid (N0.out.same M)
  have HB1 := Lib.hid (HBX.out.mod M (fun q => q))
  have HI := Lib.hid (show Iso S N f ∧ Good N ∧ Wf N from ⟨hI, hG, hW⟩)
  have HM1 := Lib.hid hm2
  have HCC := Lib.hid (show w.heap.size ≤ (w.alloc (.cells #[c0, .int .i64 er, .string ⟨ed.toArray⟩, vv, .int .i64 eg, .slice a2 edu.length c2] 34)).heap.size from N0.out.size)
  have hbl : w.heap.size < (w.alloc (.cells #[c0, .int .i64 er, .string ⟨ed.toArray⟩, vv, .int .i64 eg, .slice a2 edu.length c2] 34)).heap.size := HBX.out.lt
  obtain ⟨cc, hcc⟩ : ∃ z, (w.alloc (.cells #[c0, .int .i64 er, .string ⟨ed.toArray⟩, vv, .int .i64 eg, .slice a2 edu.length c2] 34)).heap.size = z := ⟨_, rfl⟩
  rw [hcc] at HM1 HCC hbl
  have q0 := HB1.out.at_ (i := 0) _ rfl
  clear hI hW hG hm2 M e2 hcc
  unfold bp at *
  rw [← HC0.out]
  rw [← HC0.out] at q0
  go_wp2_with fail
  refine (do_anyT HM1.out HI.out.2.1 HI.out.2.2 eo HF.out (HL.out.same N1.out)).mono ?_
  rintro e w2 ⟨er2, d2, ua, un, uc, S', tells, rfl, hdo, hm3, M2, ht⟩
  have N2 := Lib.hid (show Same w w2 from N1.out.then_ M2 (fun i hi q => q (by omega)))
  have HB2 := Lib.hid (HB1.out.mod M2 (fun q => q hbl))
  have TV2 := Lib.hid (TvS.tell ht)
  have HDO := Lib.hid hdo
  have HM2 := Lib.hid hm3
  have q1 := HB2.out.at_ (i := 1) _ rfl
  have b4 : (er == 4) = false := by simpa using h4
  have b5 : (er == 5) = false := by simpa using h5
  have b6 : (er == 6) = false := by simpa using h6
  have l2 := HB2.out.lt
  clear hdo hm3 M2 ht q0 HM1 HB1
  go_upto_region 10 with fail
  obtain ⟨w3, hw3⟩ : ∃ z, w2.alloc (.cells #[.int .i64 er2, .string ⟨d2.toArray⟩, .slice ua un uc] 31) = z := ⟨_, rfl⟩
  rw [hw3]
  have N3 := Lib.hid (show Same w2 w3 by rw [← hw3]; exact (Mod.refl _ _).alloc _)
  have BA := Lib.hid (show Blk w3 w2.heap.size #[.int .i64 er2, .string ⟨d2.toArray⟩, .slice ua un uc] by rw [← hw3]; exact Blk.new w2 _ 31)
  have HB3 := Lib.hid (HB2.out.mod N3.out (fun q => q))
  have HK := Lib.hid (show ∀ W, Same w3 W → W.cell? ⟨w2.heap.size, 0, none⟩ = some (.int .i64 er2) ∧ W.cell? ⟨w2.heap.size, 1, none⟩ = some (.string ⟨d2.toArray⟩) ∧ W.cell? ⟨w2.heap.size, 2, none⟩ = some (.slice ua un uc) ∧ W.cell? ⟨w.heap.size, 1, none⟩ = some (.int .i64 er) ∧ W.cell? ⟨w.heap.size, 2, none⟩ = some (.string ⟨ed.toArray⟩) ∧ W.cell? ⟨w.heap.size, 3, none⟩ = some vv ∧ W.cell? ⟨w.heap.size, 5, none⟩ = some (.slice a2 edu.length c2) from fun W M =>
    ⟨(BA.out.mod M (fun q => q)).at_ (i := 0) _ rfl, (BA.out.mod M (fun q => q)).at_ (i := 1) _ rfl, (BA.out.mod M (fun q => q)).at_ (i := 2) _ rfl, (HB3.out.mod M (fun q => q)).at_ (i := 1) _ rfl, (HB3.out.mod M (fun q => q)).at_ (i := 2) _ rfl, (HB3.out.mod M (fun q => q)).at_ (i := 3) _ rfl, (HB3.out.mod M (fun q => q)).at_ (i := 5) _ rfl⟩)
  have hS := HK.out w3 (Mod.refl _ _)
  have HSA := Lib.hid (show ∀ W, Same w3 W → Calls Tryz.prog 107 #[.agg #[.int .i64 er2, .string ⟨d2.toArray⟩, .slice ua un uc], .agg #[.int .i64 er, .string ⟨ed.toArray⟩, vv]] W fun e w' => e = .returned (.bool (decide (er2 = er) && decide (d2 = ed) && decide ((toldVs N tells).map infoV = evs.map infoV))) ∧ Same W w' from fun W M =>
    same_ans er2 er d2 ed (.slice ua un uc) vv (toldVs N tells) evs W ((TV2.out.same N3.out).same M) ((HV.out.same N2.out).same (N3.out.same M)) (by have := vols_len HI.out.2.1 HI.out.2.2; unfold toldVs; split <;> simp; omega) (by omega))
  have HANS := Lib.hid (show decide (er2 = er ∧ d2 = ed ∧ (toldVs N tells).map infoV = evs.map infoV ∧ edu = []) = ((decide (er2 = er) && decide (d2 = ed) && decide ((toldVs N tells).map infoV = evs.map infoV)) && decide (edu = [])) by
    by_cases p1 : er2 = er <;> by_cases p2 : d2 = ed <;> by_cases p3 : (toldVs N tells).map infoV = evs.map infoV <;> by_cases p4 : edu = [] <;> simp [p1, p2, p3, p4])
  generalize (decide (er2 = er) && decide (d2 = ed) && decide ((toldVs N tells).map infoV = evs.map infoV)) = bb at *
  clear hw3 HB2 q1
  have HB7 := Lib.hid (show ((edu.length : Int) == 0) = decide (edu = []) by
    cases edu with
    | nil => rfl
    | cons a l => rw [decide_eq_false (by simp), beq_eq_false_iff_ne]; simp; omega)
  cases bb with
  | true =>
    go_region_held3 (fun W => W.cell? ⟨w2.heap.size, 0, none⟩ = some (.int .i64 er2) ∧ W.cell? ⟨w2.heap.size, 1, none⟩ = some (.string ⟨d2.toArray⟩) ∧ W.cell? ⟨w2.heap.size, 2, none⟩ = some (.slice ua un uc) ∧ W.cell? ⟨w.heap.size, 1, none⟩ = some (.int .i64 er) ∧ W.cell? ⟨w.heap.size, 2, none⟩ = some (.string ⟨ed.toArray⟩) ∧ W.cell? ⟨w.heap.size, 3, none⟩ = some vv ∧ W.cell? ⟨w.heap.size, 5, none⟩ = some (.slice a2 edu.length c2)) (first | exact hS | assumption | exact HK.out _ ((Mod.refl _ _).drew) | exact HK.out _ JA.out) ((
    first
    | (go_at_call 107; refine (HSA.out _ ((Mod.refl _ _).drew)).mono ?_; rintro e wa ⟨rfl, MA⟩; have JA := Lib.hid (show Same w3 wa from ((Mod.refl _ w3).drew).same MA); clear MA)))
    all_goals go_wp2_with fail
    all_goals exact HR.out _ _ ⟨m2, N, f, er2, d2, tells, S', cc, by rw [HANS.out, Bool.true_and, ← HB7.out]; rfl, HI.out.1, HI.out.2.1, HI.out.2.2, HDO.out, HCC.out, (HM2.out.same N3.out).same JA.out, (N2.out.same N3.out).same JA.out⟩
  | false =>
    refine wp_region_held_drew (S := fun W => Same w3 W) (by kernel_rfl) (by (try dsimp only); exact (Mod.refl _ _).drew) (fun hHeld => ?_)
    refine wpAnyH_take (i := 0) (v := ?_) rfl (by kernel_rfl) (by kernel_rfl) (by kernel_rfl) (fun _ _ _ h => h) (Or.inl ⟨by rfl, ?_⟩) (by assumption) ?_
    rotate_left
    · intro w hSw
      try dsimp only at hSw
      go_simp
      try with_reducible rfl
    try simp only [List.getElem_toArray, List.getElem_cons_succ, List.getElem_cons_zero, Act.put, List.setIfInBounds_toArray, List.set_cons_zero, List.set_cons_succ]
    refine wpAnyH_take (i := 1) (v := ?_) rfl (by kernel_rfl) (by kernel_rfl) (by kernel_rfl) (fun _ _ _ h => h) (Or.inl ⟨by rfl, ?_⟩) (by assumption) ?_
    rotate_left
    · intro w hSw
      try dsimp only at hSw
      obtain ⟨s0, s1, s2, s3, s4, s5, s6⟩ := HK.out _ hSw
      have lA := Nat.lt_of_lt_of_le BA.out.lt hSw.size
      have lB := Nat.lt_of_lt_of_le HB3.out.lt hSw.size
      go_simp
      try with_reducible rfl
    try simp only [List.getElem_toArray, List.getElem_cons_succ, List.getElem_cons_zero, Act.put, List.setIfInBounds_toArray, List.set_cons_zero, List.set_cons_succ]
    refine wpAnyH_take (i := 2) (v := ?_) rfl (by kernel_rfl) (by kernel_rfl) (by kernel_rfl) (fun _ _ _ h => h) (Or.inl ⟨by rfl, ?_⟩) (by assumption) ?_
    rotate_left
    · intro w hSw
      try dsimp only at hSw
      go_simp
      try with_reducible rfl
    try simp only [List.getElem_toArray, List.getElem_cons_succ, List.getElem_cons_zero, Act.put, List.setIfInBounds_toArray, List.set_cons_zero, List.set_cons_succ]
    refine wpAnyH_take (i := 3) (v := ?_) rfl (by kernel_rfl) (by kernel_rfl) (by kernel_rfl) (fun _ _ _ h => h) (Or.inl ⟨by rfl, ?_⟩) (by assumption) ?_
    rotate_left
    · intro w hSw
      try dsimp only at hSw
      obtain ⟨s0, s1, s2, s3, s4, s5, s6⟩ := HK.out _ hSw
      have lA := Nat.lt_of_lt_of_le BA.out.lt hSw.size
      have lB := Nat.lt_of_lt_of_le HB3.out.lt hSw.size
      go_simp
      try with_reducible rfl
    try simp only [List.getElem_toArray, List.getElem_cons_succ, List.getElem_cons_zero, Act.put, List.setIfInBounds_toArray, List.set_cons_zero, List.set_cons_succ]
    refine wpAnyH_ready (rs := [4]) (by kernel_rfl) (by simp) ?_
    refine AllReadyH.cons rfl (fun Kc hKc => ?_) AllReadyH.nil
    go_simp
    go_at_call 107
    refine (HSA.out _ hHeld).mono ?_
    rintro e wa ⟨rfl, MA⟩
    have JA := Lib.hid (show Same w3 wa from ((Mod.refl _ w3).drew).same MA)
    clear MA
    refine hKc.out _ _ (by (try dsimp only); exact JA.out) (fun hHeld => ?_)
    clear hKc Kc
    try simp only [List.getElem_toArray, List.getElem_cons_succ, List.getElem_cons_zero, Act.put, List.setIfInBounds_toArray, List.set_cons_zero, List.set_cons_succ]
    refine wpAnyH_take (i := 5) (v := ?_) rfl (by kernel_rfl) (by kernel_rfl) (by kernel_rfl) (fun _ _ _ h => h) (Or.inl ⟨by rfl, ?_⟩) (by assumption) ?_
    rotate_left
    · intro w hSw
      try dsimp only at hSw
      go_simp
      try with_reducible rfl
    try simp only [List.getElem_toArray, List.getElem_cons_succ, List.getElem_cons_zero, Act.put, List.setIfInBounds_toArray, List.set_cons_zero, List.set_cons_succ]
    refine wpAnyH_take (i := 6) (v := undef) rfl (by kernel_rfl) (by kernel_rfl) (by kernel_rfl) (fun _ _ _ h => h) (Or.inr ⟨by rfl, rfl⟩) (by assumption) ?_
    try simp only [List.getElem_toArray, List.getElem_cons_succ, List.getElem_cons_zero, Act.put, List.setIfInBounds_toArray, List.set_cons_zero, List.set_cons_succ]
    refine wpAnyH_take (i := 7) (v := undef) rfl (by kernel_rfl) (by kernel_rfl) (by kernel_rfl) (fun _ _ _ h => h) (Or.inr ⟨by rfl, rfl⟩) (by assumption) ?_
    try simp only [List.getElem_toArray, List.getElem_cons_succ, List.getElem_cons_zero, Act.put, List.setIfInBounds_toArray, List.set_cons_zero, List.set_cons_succ]
    refine wpAnyH_take (i := 8) (v := undef) rfl (by kernel_rfl) (by kernel_rfl) (by kernel_rfl) (fun _ _ _ h => h) (Or.inr ⟨by rfl, rfl⟩) (by assumption) ?_
    try simp only [List.getElem_toArray, List.getElem_cons_succ, List.getElem_cons_zero, Act.put, List.setIfInBounds_toArray, List.set_cons_zero, List.set_cons_succ]
    refine wpAnyH_take (i := 9) (v := undef) rfl (by kernel_rfl) (by kernel_rfl) (by kernel_rfl) (fun _ _ _ h => h) (Or.inr ⟨by rfl, rfl⟩) (by assumption) ?_
    try simp only [List.getElem_toArray, List.getElem_cons_succ, List.getElem_cons_zero, Act.put, List.setIfInBounds_toArray, List.set_cons_zero, List.set_cons_succ]
    refine wpAnyH_take (i := 10) (v := ?_) rfl (by kernel_rfl) (by kernel_rfl) (by kernel_rfl) (fun _ _ _ h => h) (Or.inl ⟨by rfl, ?_⟩) (by assumption) ?_
    rotate_left
    · intro w hSw
      try dsimp only at hSw
      go_simp
      try with_reducible rfl
    try simp only [List.getElem_toArray, List.getElem_cons_succ, List.getElem_cons_zero, Act.put, List.setIfInBounds_toArray, List.set_cons_zero, List.set_cons_succ]
    refine wpAnyH_take (i := 11) (v := ?_) rfl (by kernel_rfl) (by kernel_rfl) (by kernel_rfl) (fun _ _ _ h => h) (Or.inl ⟨by rfl, ?_⟩) (by assumption) ?_
    rotate_left
    · intro w hSw
      try dsimp only at hSw
      go_simp
      try with_reducible rfl
    try simp only [List.getElem_toArray, List.getElem_cons_succ, List.getElem_cons_zero, Act.put, List.setIfInBounds_toArray, List.set_cons_zero, List.set_cons_succ]
    refine wpAnyH_take (i := 12) (v := ?_) rfl (by kernel_rfl) (by kernel_rfl) (by kernel_rfl) (fun _ _ _ h => h) (Or.inl ⟨by rfl, ?_⟩) (by assumption) ?_
    rotate_left
    · intro w hSw
      try dsimp only at hSw
      go_simp
      try with_reducible rfl
    try simp only [List.getElem_toArray, List.getElem_cons_succ, List.getElem_cons_zero, Act.put, List.setIfInBounds_toArray, List.set_cons_zero, List.set_cons_succ]
    refine wpAnyH_done (by kernel_rfl) ?_ _
    go_wp2_with fail
    exact HR.out _ _ ⟨m2, N, f, er2, d2, tells, S', cc, by rw [HANS.out, Bool.false_and]; rfl, HI.out.1, HI.out.2.1, HI.out.2.2, HDO.out, HCC.out, (HM2.out.same N3.out).same JA.out, (N2.out.same N3.out).same JA.out⟩
end Go.Proofs.YtlcepoagpocadaaGreatDoor
set_option maxRecDepth 100000
/- Whether an event goes on. -/
namespace Go.Proofs.YtlcepoagpocadaaGreatDoor
open Go Go.RowKit
theorem is45 (W : World) (v : Value) : (Instr.typeAssert (.iface 45 v) 27 45 true).run Tryz.prog W = .ok (.tuple #[v, .bool true]) W := by kernel_rfl
theorem no45 (W : World) (u : TypeId) (v : Value) (h : u ≠ 45) : (Instr.typeAssert (.iface u v) 27 45 true).run Tryz.prog W = .ok (.tuple #[.agg #[.string ⟨#[]⟩, .string ⟨#[]⟩, .string ⟨#[]⟩], .bool false]) W := by
  have e : (Instr.typeAssert (.iface u v) 27 45 true).run Tryz.prog W = (if u = 45 then (pure (Value.tuple #[v, .bool true]) : Sem Value) else (do pure (Value.tuple #[← zeroValue 45, .bool false]))).run Tryz.prog W := by kernel_rfl
  rw [e, if_neg h]
  have z : (do pure (Value.tuple #[← zeroValue 45, .bool false]) : Sem Value).run Tryz.prog W = .ok (.tuple #[.agg #[.string ⟨#[]⟩, .string ⟨#[]⟩, .string ⟨#[]⟩], .bool false]) W := by kernel_rfl
  exact z
theorem kT_45 {k : Nat} (h : k < 15) (h14 : k ≠ 14) : kT k ≠ 45 := by
  rcases kinds15 h with h | h | h | h | h | h | h | h | h | h | h | h | h | h | h <;> subst h <;> first | decide | exact absurd rfl h14
/-- Whether an answer is what the model says. -/
def SameA (N : MS) (ev : Ev) (er : Int) (d : List UInt8) (tells : Bool) : Prop := er = ev.er ∧ d = ev.d ∧ (toldVs N tells).map infoV = ev.vols.map infoV ∧ ev.dump = []
/-- What is behind an order that goes on. -/
def GoN (s : WS) (ev : Ev) (r : Option WS) : Prop := ∃ N f er d tells S', Iso s.now N f ∧ Good N ∧ Wf N ∧ DoR N ev.o.k ev.o.ns ev.o.ts er d tells S' ∧
    ((¬ SameA N ev er d tells ∧ r = none) ∨ (SameA N ev er d tells ∧ ((ev.gen = s.gen ∧ r = some ⟨S', s.past, ev.gen, s.since ++ [ev.o]⟩) ∨ (ev.gen ≠ s.gen ∧ ∃ Q f2, Iso s.now Q f2 ∧ r = some ⟨S', Q, ev.gen, [ev.o]⟩))))
/-- What is behind an event. -/
def GoR (s : WS) (ev : Ev) (r : Option WS) : Prop :=
  (ev.o.k = 14 ∧ CrashR s ev r) ∨ (ev.o.k ≠ 14 ∧ ((¬ (ev.gen = s.gen ∨ ev.gen = s.gen + 1) ∧ r = none) ∨ ((ev.gen = s.gen ∨ ev.gen = s.gen + 1) ∧ GoN s ev r)))
/-- Events that are asked of. -/
structure EvOk (s : WS) (ev : Ev) : Prop where
  form : ev.o.form
  fits : ev.o.fits = true
  g0 : 0 ≤ ev.gen
  g1 : ev.gen ≤ 1000
  vl : ev.vols.length ≤ 100000
  dl : ev.dump.length ≤ 100000
  dt : ∀ t ∈ ev.dump, t.length ≤ 1000000
  cr : ev.o.k = 14 → ev.gen ≠ s.gen + 1
  e4 : ev.o.k ≠ 14 → ev.er ≠ 4 ∧ ev.er ≠ 5 ∧ ev.er ≠ 6
theorem WtP.same {B : Nat} {w w' : World} {x : Nat} {sl sz : Int} {s : WS} {mn mp ma : Nat} {sv : Value} {Kn Kp : Nat → Prop} (h : WtP B w x sl sz s mn mp ma sv Kn Kp) (M : Same w w') : WtP B w' x sl sz s mn mp ma sv Kn (fun i => Kp i ∨ (w.heap.size ≤ i ∧ i < w'.heap.size)) :=
  ⟨h.blk.mod M (fun q => q), h.now.same M, h.past.more M, owns_same h.row M, fun i hi => ⟨(h.kB i hi).1, .inl (h.kB i hi).2⟩, ⟨h.kx.1, .inl h.kx.2⟩, fun g hg => ⟨(h.ks g hg).1, .inl (h.ks g hg).2.1, (h.ks g hg).2.2⟩, fun b hb => by
    by_cases q : b < w.heap.size
    · exact (h.kd b q).imp id .inl
    · exact .inr (.inr ⟨by omega, hb⟩), h.xB⟩
theorem Wt.same {B : Nat} {w w' : World} {x : Nat} {sl sz : Int} {s : WS} (h : Wt B w x sl sz s) (M : Same w w') : Wt B w' x sl sz s := by
  obtain ⟨hO, mn, mp, ma, sv, Kn, Kp, hw⟩ := h
  exact ⟨hO, mn, mp, ma, sv, Kn, _, hw.same M⟩
theorem Wt.crash {B : Nat} {w : World} {x : Nat} {sl sz : Int} {s : WS} (h : Wt B w x sl sz s) (ev : Ev) (ok : EvOk s ev) (vv dv : Value) (hv : TvS w vv ev.vols) (hd : TxS w dv ev.dump) (hk : ev.o.k = 14) :
    Calls Tryz.prog 77 #[bp x, .agg (evC ev.o ev.er ev.d vv ev.gen dv)] w fun e w' => ∃ r, e = .returned (.bool r.isSome) ∧ CrashR s ev r ∧ (∀ s', r = some s' → Wt B w' x sl sz s') ∧ Mod (fun i => B ≤ i) w w' := by
  obtain ⟨hO, mn, mp, ma, sv, Kn, Kp, hw⟩ := h
  exact wcrash_any hw hO ev vv dv (ok.cr hk) ok.g0 ok.g1 hv hd ok.vl ok.dl ok.dt
theorem Wt.blk {B : Nat} {w : World} {x : Nat} {sl sz : Int} {s : WS} (h : Wt B w x sl sz s) : B ≤ x ∧ x < w.heap.size := by
  obtain ⟨hO, mn, mp, ma, sv, Kn, Kp, hw⟩ := h
  exact ⟨hw.xB, hw.blk.lt⟩
set_option maxHeartbeats 16000000 in
theorem goes_crash {B : Nat} {w : World} {x : Nat} {sl sz : Int} {s : WS} (h : Wt B w x sl sz s) (hL : LibT w) (ev : Ev) (ok : EvOk s ev) (vv dv : Value) (hv : TvS w vv ev.vols) (hd : TxS w dv ev.dump) (hk : ev.o.k = 14) :
    Calls Tryz.prog 36 #[bp x, .agg (evC ev.o ev.er ev.d vv ev.gen dv)] w fun e w' => ∃ r, e = .returned (.bool r.isSome) ∧ CrashR s ev r ∧ (∀ s', r = some s' → Wt B w' x sl sz s') ∧ Mod (fun i => B ≤ i) w w' := by
  refine opq fun R HR => ?_
  have hxb := h.blk
  have HT := Lib.hid (fun W (M : Same w W) => text_ok ev.o ok.form ok.fits W (hL.same M).tab)
  obtain ⟨t1, t2, t3, hts⟩ := len3 (show ev.o.ts.length = 3 by rw [ok.form.nd, hk]; rfl)
  have hns : ev.o.ns = [] := List.length_eq_zero_iff.1 (by rw [ok.form.nn, hk]; rfl)
  have hv45 : ordW ev.o = .iface 45 (.agg #[strV t1, strV t2, strV t3]) := by
    unfold ordW ordC
    rw [hk, hts, hns]
    rfl
  have HC := Lib.hid (fun W (M : Same w W) => (h.same M).crash ev ok vv dv (hv.same M) (hd.same M) hk)
  unfold evC at HC ⊢
  rw [hv45] at HC HT ⊢
  unfold strV at *
  have y45 := fun W => is45 W (.agg #[.string ⟨t1.toArray⟩, .string ⟨t2.toArray⟩, .string ⟨t3.toArray⟩])
  have N0 := Lib.hid (show Same w (w.alloc (.cells #[.iface 45 (.agg #[.string ⟨t1.toArray⟩, .string ⟨t2.toArray⟩, .string ⟨t3.toArray⟩]), .int .i64 ev.er, .string ⟨ev.d.toArray⟩, vv, .int .i64 ev.gen, dv] 34)) from (Mod.refl _ _).alloc _)
  have HBX := Lib.hid (Blk.new w #[.iface 45 (.agg #[.string ⟨t1.toArray⟩, .string ⟨t2.toArray⟩, .string ⟨t3.toArray⟩]), .int .i64 ev.er, .string ⟨ev.d.toArray⟩, vv, .int .i64 ev.gen, dv] 34)
  clear h ok hv hd hL
  unfold bp at *
  go_enter Tryz.func36, Tryz.ntmps36
  go_wp2_with fail
  refine (HT.out _ N0.out).mono ?_
  rintro e w1 ⟨rfl, M⟩
  have N1 := Lib.hid (N0.out.same M)
  have HB1 := Lib.hid (HBX.out.mod M (fun q => q))
  have q0 := HB1.out.at_ (i := 0) _ rfl
  have q1 := HB1.out.at_ (i := 1) _ rfl
  have q2 := HB1.out.at_ (i := 2) _ rfl
  have q3 := HB1.out.at_ (i := 3) _ rfl
  have q4 := HB1.out.at_ (i := 4) _ rfl
  have q5 := HB1.out.at_ (i := 5) _ rfl
  have l1 := HB1.out.lt
  clear M
  go_wp2_with fail
  refine (HC.out _ (N1.out.alloc _)).mono ?_
  rintro e w2 ⟨r, rfl, hr, hw, M⟩
  have H2 := Lib.hid (show CrashR s ev r ∧ (∀ s', r = some s' → Wt B w2 x sl sz s') from ⟨hr, hw⟩)
  have M2 := Lib.hid (show Mod (fun i => B ≤ i) w w2 from ((N1.out.alloc _).mono (fun _ _ q => q.elim)).then_ M (fun i _ q => q))
  clear hr hw M
  go_wp2
  exact HR.out _ _ ⟨r, rfl, H2.out.1, H2.out.2, M2.out⟩
end Go.Proofs.YtlcepoagpocadaaGreatDoor
