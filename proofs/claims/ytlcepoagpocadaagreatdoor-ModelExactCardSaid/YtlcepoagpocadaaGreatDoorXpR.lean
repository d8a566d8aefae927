import Derived.Test.YtlcepoagpocadaaGreatDoorXpO
import Derived.Test.YtlcepoagpocadaaGreatDoorMfC
import Derived.BigQuiet
import Derived.Deep.RegionHeld3
import Derived.StillTailTactics
set_option linter.unusedSimpArgs false
set_option linter.unusedVariables false
set_option maxRecDepth 100000
/- The document's pool: how many chunks an order wants. -/
namespace Go.Proofs.YtlcepoagpocadaaGreatDoor
open Go Go.RowKit
section
variable {F : Nat → Prop} {w : World} {p : Nat} {D : DP}
/-- Whether a place wants a chunk. -/
def wP (D : DP) (v : DV) (disc : Bool) (a n q : Nat) : Bool := if disc = true then !wholeS D.k a n q && decide (v.pl.getD q 0 ≠ 0) && decide (needP D v q) else decide (needP D v q)
def wntD (D : DP) (v : DV) (disc : Bool) (a n P0 m : Nat) : Nat := (((List.range m).map fun y => P0 + y).filter fun q => wP D v disc a n q).length
theorem wntD_succ (D : DP) (v : DV) (disc : Bool) (a n P0 m : Nat) : wntD D v disc a n P0 (m + 1) = wntD D v disc a n P0 m + if wP D v disc a n (P0 + m) = true then 1 else 0 := by
  unfold wntD
  rw [List.range_succ, List.map_append, List.filter_append, List.length_append]
  congr 1
  simp only [List.map_cons, List.map_nil, List.filter_cons, List.filter_nil]
  split <;> rfl
theorem wntD_le (D : DP) (v : DV) (disc : Bool) (a n P0 m : Nat) : wntD D v disc a n P0 m ≤ m := by
  unfold wntD
  have := List.length_filter_le (fun q => wP D v disc a n q) ((List.range m).map fun y => P0 + y)
  simpa using this
theorem wnt_write {v : DV} (hv : v ∈ D.vols) (a n : Nat) : ((rangeP (toMS D).k a n).filter fun p => needS (toMS D) (toVo v) p).length = wntD D v false a n (a / D.k) ((a + n - 1) / D.k + 1 - a / D.k) := by
  unfold rangeP wntD wP
  congr 1
  apply List.filter_congr
  intro q _
  rw [needS_toVo hv]; rfl
theorem wnt_disc {v : DV} (hv : v ∈ D.vols) (a n : Nat) : ((rangeP (toMS D).k a n).filter fun p => !wholeS (toMS D).k a n p && (getL (p : Int) (toVo v).pl).isSome && needS (toMS D) (toVo v) p).length = wntD D v true a n (a / D.k) ((a + n - 1) / D.k + 1 - a / D.k) := by
  unfold rangeP wntD wP
  congr 1
  apply List.filter_congr
  intro q _
  rw [needS_toVo hv, show getL (q : Int) (toVo v).pl = getP v.pl q from getL_plL _ _, getP_nat, if_pos rfl]
  congr 2
  split
  · rename_i h; exact (decide_eq_false (fun z => z h)).symm
  · rename_i h; exact (decide_eq_true h).symm
set_option maxHeartbeats 16000000 in
theorem dwants_any (h : Dq F w p D) (hB : D.vols.length ≤ 10000) {i : Nat} {v : DV} (hv : D.vols[i]? = some v) (disc : Bool) (a n : Nat) (hn1 : 1 ≤ n) (hn2 : n ≤ 16) {sz : Nat} (hsz : v.size = (sz : Int)) (hx : a + n ≤ sz * D.k) :
    Calls Tryz.prog 50 #[bp p, .int .i64 v.id, .int .i64 (a : Int), .int .i64 (n : Int), .bool disc] w fun e w' => e = .returned (.int .i64 (wntD D v disc a n (a / D.k) ((a + n - 1) / D.k + 1 - a / D.k) : Int)) ∧ Same w w' := by
  refine opq fun R HR => ?_
  have HD := Lib.hid h
  have HV := Lib.hid hv
  have HSZ := Lib.hid hsz
  have hk1 := h.1.k1
  have hk8 := h.1.k8
  have hvl := h.1.len v (List.mem_of_getElem? hv)
  have HVL := Lib.hid hvl
  have hs64 : sz ≤ 64 := by have := h.1.sizes v (List.mem_of_getElem? hv); omega
  have HF := Lib.hid (dfind_any h (by omega) v.id)
  have HOW := Lib.hid (fun W (M : Same w W) c => downs_any (h.same M) hB c)
  have hmul0 : sz * D.k ≤ 64 * 8 := Nat.mul_le_mul hs64 hk8
  obtain ⟨ga, gc, cv, gs, tag, hX⟩ := h.2
  have HX := Lib.hid hX
  obtain ⟨k, hk⟩ : ∃ k, D.k = k := ⟨_, rfl⟩
  have HK := Lib.hid hk
  rw [hk] at hk1 hk8 hx hmul0 HR
  have hx512 : a + n ≤ 512 := by omega
  have hk0 : ¬ (k : Int) = 0 := by omega
  have hk0b : ((k : Int) == 0) = false := beq_eq_false_iff_ne.2 hk0
  have hq0 : ((a : Int)).tdiv (k : Int) = ((a / k : Nat) : Int) := by rw [Int.tdiv_eq_ediv_of_nonneg (by omega)]; rfl
  have hq1 : ((a : Int) + (n : Int) - 1).tdiv (k : Int) = (((a + n - 1) / k : Nat) : Int) := by
    rw [show (a : Int) + (n : Int) - 1 = ((a + n - 1 : Nat) : Int) by omega, Int.tdiv_eq_ediv_of_nonneg (by omega)]; rfl
  obtain ⟨P0, hP0⟩ : ∃ P0, a / k = P0 := ⟨_, rfl⟩
  obtain ⟨P1, hP1⟩ : ∃ P1, (a + n - 1) / k = P1 := ⟨_, rfl⟩
  rw [hP0] at hq0 HR
  rw [hP1] at hq1 HR
  have hP1s : P1 < sz := by rw [← hP1]; exact (Nat.div_lt_iff_lt_mul (by omega)).2 (by omega)
  have hP01 : P0 ≤ P1 := by rw [← hP0, ← hP1]; exact Nat.div_le_div_right (by omega)
  have hq0w : IntKind.i64.wrap ((P0 : Nat) : Int) = (P0 : Int) := IntWalk.i64_in _ (by omega)
  have hq1w : IntKind.i64.wrap ((P1 : Nat) : Int) = (P1 : Int) := IntWalk.i64_in _ (by omega)
  obtain ⟨nv, hnv⟩ : ∃ nv, D.vols.length = nv := ⟨_, rfl⟩
  have HNV := Lib.hid hnv
  have hb1 : nv ≤ 10000 := by omega
  unfold bp at *
  have x0 := hX.blk.at_ (i := 0) _ rfl
  have hpl := hX.blk.lt
  rw [hk] at x0
  clear h hv hsz hk hx hX hP0 hP1 hmul0 hvl hnv hB
  go_enter Tryz.func50, Tryz.ntmps50
  go_wp2_with fail
  refine HF.out.mono ?_
  rintro e w1 ⟨r, rfl, hr, M⟩
  obtain rfl := find_hit HD.out.1 HV.out hr
  have N1 := Lib.hid M
  have y0 := (M.cell hpl (fun q => q) 0).trans x0
  have hpl1 : p < w1.heap.size := Nat.lt_of_lt_of_le hpl M.size
  clear M hr x0 hpl
  go_wp2_with fail
  go_loopw [12, 13] (fun mm kk wr => ∃ (q : Nat), P0 ≤ q ∧ q ≤ P1 + 1 ∧ kk = .int .i64 q ∧ mm = .int .i64 (wntD D v disc a n P0 (q - P0) : Int) ∧ Same w wr) (fun _ kk _ => P1 + 1 - (intOf kk).toNat)
  case atStart => exact ⟨P0, Nat.le_refl _, by omega, rfl, by rw [Nat.sub_self]; rfl, N1.out⟩
  case round =>
    obtain ⟨q, hqa, hqb, rfl, rfl, hM⟩ := hrel
    have J := Lib.hid hM
    have XR := Lib.hid (HX.out.same hM)
    have z0 := XR.out.blk.at_ (i := 0) _ rfl
    have z1 := XR.out.blk.at_ (i := 1) _ rfl
    have hpl2 := XR.out.blk.lt
    rw [HK.out] at z0
    obtain ⟨g, hga, -, -, hR, hil, hc, -⟩ := XR.out.cell HD.out.1.len HV.out
    rw [hga, HNV.out] at z1
    rw [HNV.out] at hil
    have hglt := hR.lt
    have hwl := wntD_le D v disc a n P0 (q - P0)
    have HWS := Lib.hid (wntD_succ D v disc a n P0 (q - P0))
    rw [show P0 + (q - P0) = q by omega, show q - P0 + 1 = q + 1 - P0 by omega] at HWS
    obtain ⟨mm, hmm⟩ : ∃ mm, wntD D v disc a n P0 (q - P0) = mm := ⟨_, rfl⟩
    rw [hmm] at hwl HWS ⊢
    have HMM := Lib.hid hmm
    clear hM hR hga hmm
    by_cases hle : q ≤ P1
    · have hq64 : q < 64 := by omega
      obtain ⟨b, hb⟩ : ∃ b, q * k = b := ⟨_, rfl⟩
      have hbb : b ≤ 512 := by rw [← hb]; exact Nat.le_trans (Nat.mul_le_mul (by omega : q ≤ 64) hk8) (by decide)
      have hbk : (q : Int) * (k : Int) = (b : Int) := by rw [← hb]; simp
      have hbk2 : ((q : Int) + 1) * (k : Int) = (b : Int) + (k : Int) := by rw [Int.add_mul, hbk, Int.one_mul]
      have hb2 : (q + 1) * k = b + k := by rw [Nat.add_mul, hb, Nat.one_mul]
      have HWH := Lib.hid (show wholeS D.k a n q = (decide (a ≤ b) && decide (b + k ≤ a + n)) by unfold wholeS; rw [HK.out, hb, hb2])
      have c5 := hc (5 + q) (by omega)
      rw [dvL_pl (by rw [HVL.out]; exact hq64), ← Nat.add_assoc] at c5
      obtain ⟨c, hcc⟩ : ∃ c, v.pl.getD q 0 = c := ⟨_, rfl⟩
      rw [hcc] at c5
      have HCC := Lib.hid hcc
      clear hc hcc hb hb2
      go_upto_region 7 with fail
      go_cut [15] (fun z wx => z = .bool (wholeS D.k a n q) ∧ wx = wr)
      case first =>
        clear HR
        by_cases hab : a ≤ b
        · by_cases hab2 : b + k ≤ a + n
          · go_wp2_with fail
            all_goals go_meet
            all_goals exact ⟨by rw [HWH.out]; first | (simp [hab, hab2]; done) | (simp [hab, hab2]; omega), rfl⟩
          · go_wp2_with fail
            all_goals go_meet
            all_goals exact ⟨by rw [HWH.out]; first | (simp [hab, hab2]; done) | (simp [hab, hab2]; omega), rfl⟩
        · go_wp2_with fail
          all_goals go_meet
          all_goals exact ⟨by rw [HWH.out]; first | (simp [hab]; done) | (simp [hab]; omega), rfl⟩
      case rest =>
        obtain ⟨rfl, rfl⟩ := hcut
        have HWP := Lib.hid (show wP D v disc a n q = if disc = true then !wholeS D.k a n q && decide (v.pl.getD q 0 ≠ 0) && decide (needP D v q) else decide (needP D v q) from rfl)
        obtain ⟨wh, hwh⟩ : ∃ wh, wholeS D.k a n q = wh := ⟨_, rfl⟩
        rw [hwh] at HWP ⊢
        clear hwh HWH hbk hbk2
        by_cases hskip : disc = true ∧ (wh = true ∨ c = 0)
        · obtain ⟨rfl, hsk⟩ := hskip
          have HNO := Lib.hid (show wP D v true a n q = false by
            rw [HWP.out, if_pos rfl, HCC.out]
            rcases hsk with z | z <;> simp [z])
          rw [HNO.out, if_neg (by decide), Nat.add_zero] at HWS
          rcases hsk with rfl | rfl
          · go_wp2_with fail
            go_roundw
            case rel => exact ⟨q + 1, by omega, by omega, by go_num, (by rw [HWS.out]; try rfl), J.out⟩
            case measure => simp [intOf]; omega
          · cases wh with
            | true =>
              go_wp2_with fail
              go_roundw
              case rel => exact ⟨q + 1, by omega, by omega, by go_num, (by rw [HWS.out]; try rfl), J.out⟩
              case measure => simp [intOf]; omega
            | false =>
              go_wp2_with fail
              go_roundw
              case rel => exact ⟨q + 1, by omega, by omega, by go_num, (by rw [HWS.out]; try rfl), J.out⟩
              case measure => simp [intOf]; omega
        · by_cases hc0 : c = 0
          · have hdf : disc = false := by
              cases disc
              · rfl
              · exact absurd ⟨rfl, .inr hc0⟩ hskip
            subst hdf
            subst hc0
            have HYES := Lib.hid (show wP D v false a n q = true by
              rw [HWP.out, if_neg (by decide)]
              exact decide_eq_true (.inl HCC.out))
            rw [HYES.out, if_pos rfl] at HWS
            clear hskip
            go_wp2_with fail
            go_roundw
            case rel => exact ⟨q + 1, by omega, by omega, by go_num, by rw [HWS.out]; go_num, J.out⟩
            case measure => simp [intOf]; omega
          · have HOC := Lib.hid (HOW.out _ J.out c)
            have hcb : ((c : Int) == 0) = false := by simpa using hc0
            have HNE := Lib.hid (show wP D v disc a n q = decide (1 < ownD D c) by
              rw [HWP.out]
              have hd : decide (needP D v q) = decide (1 < ownD D c) := decide_eq_decide.2 ⟨fun z => by
                rcases z with z | z
                · rw [HCC.out] at z; exact absurd z hc0
                · rw [HCC.out] at z; exact z, fun z => .inr (by rw [HCC.out]; exact z)⟩
              rw [hd, HCC.out]
              cases disc with
              | false => rfl
              | true =>
                have hwf : wh = false := by
                  cases wh
                  · rfl
                  · exact absurd ⟨rfl, .inl rfl⟩ hskip
                rw [if_pos rfl, hwf]
                simp [hc0])
            have HOD := Lib.hid (show ownD D c ≤ 1000000 by
              have := ownTD_le HD.out.1.len c nv
              rw [ownTD_all HNV.out] at this
              unfold ownD
              omega)
            have hhod := HOD.out
            obtain ⟨oo, hoo⟩ : ∃ oo, ownD D c = oo := ⟨_, rfl⟩
            rw [hoo] at HOC HNE hhod
            clear hoo
            by_cases h1 : 1 < oo
            · have hd1 : decide (1 < (oo : Int)) = true := decide_eq_true (by omega)
              have hd2 : decide ((oo : Int) > 1) = true := decide_eq_true (by omega)
              rw [HNE.out, decide_eq_true h1, if_pos rfl] at HWS
              cases disc with
              | false =>
                clear hskip
                go_wp2_with fail
                refine HOC.out.mono ?_
                rintro e w2 ⟨rfl, M⟩
                have J2 := Lib.hid (J.out.same M)
                clear M
                go_wp2_with fail
                go_roundw
                case rel => exact ⟨q + 1, by omega, by omega, by go_num, by rw [HWS.out]; go_num, J2.out⟩
                case measure => simp [intOf]; omega
              | true =>
                have hwf : wh = false := by
                  cases wh
                  · rfl
                  · exact absurd ⟨rfl, .inl rfl⟩ hskip
                subst hwf
                clear hskip
                go_wp2_with fail
                refine HOC.out.mono ?_
                rintro e w2 ⟨rfl, M⟩
                have J2 := Lib.hid (J.out.same M)
                clear M
                go_wp2_with fail
                go_roundw
                case rel => exact ⟨q + 1, by omega, by omega, by go_num, by rw [HWS.out]; go_num, J2.out⟩
                case measure => simp [intOf]; omega
            · have hd1 : decide (1 < (oo : Int)) = false := decide_eq_false (by omega)
              have hd2 : decide ((oo : Int) > 1) = false := decide_eq_false (by omega)
              rw [HNE.out, decide_eq_false h1, if_neg (by decide), Nat.add_zero] at HWS
              cases disc with
              | false =>
                clear hskip
                go_wp2_with fail
                refine HOC.out.mono ?_
                rintro e w2 ⟨rfl, M⟩
                have J2 := Lib.hid (J.out.same M)
                clear M
                go_wp2_with fail
                go_roundw
                case rel => exact ⟨q + 1, by omega, by omega, by go_num, (by rw [HWS.out]; try rfl), J2.out⟩
                case measure => simp [intOf]; omega
              | true =>
                have hwf : wh = false := by
                  cases wh
                  · rfl
                  · exact absurd ⟨rfl, .inl rfl⟩ hskip
                subst hwf
                clear hskip
                go_wp2_with fail
                refine HOC.out.mono ?_
                rintro e w2 ⟨rfl, M⟩
                have J2 := Lib.hid (J.out.same M)
                clear M
                go_wp2_with fail
                go_roundw
                case rel => exact ⟨q + 1, by omega, by omega, by go_num, (by rw [HWS.out]; try rfl), J2.out⟩
                case measure => simp [intOf]; omega
    · obtain rfl : q = P1 + 1 := by omega
      rw [HMM.out] at HR
      clear hc
      go_wp2_with fail
      exact HR.out _ _ ⟨rfl, J.out⟩
end
end Go.Proofs.YtlcepoagpocadaaGreatDoor
set_option maxRecDepth 100000
/- The document's pool: how many chunks are used. -/
namespace Go.Proofs.YtlcepoagpocadaaGreatDoor
open Go Go.RowKit
theorem infoB4 : (Tryz.prog.info? 4).map (fun i => (i.zero, i.size, i.bytes)) = some (some (.bool false), 1, 1) := by kernel_rfl
theorem make155 (n : Nat) (hn : n ≤ 1000000) (h0 : 0 < n) (w : World) : ∃ w', (Instr.makeSlice 155 (.int .i64 (n : Int)) (.int .i64 (n : Int))).run Tryz.prog w = .ok (.slice (some ⟨w.heap.size, 0, none⟩) n n) w' ∧ RowV w' w.heap.size n (fun _ => .bool false) ∧ Same w w' := by
  obtain ⟨i0, hi, hz0, hz1, hz2⟩ := info_parts infoB4
  obtain ⟨w', hr, hown, hg⟩ := run_makeSlice_full (P := Tryz.prog) w w.heap.size 155 4 i0 (.bool false) 1 Tryz.underlying155 hi hz0 hz1 .i64 .i64 n (by omega) (by rw [hz2]; omega) (by unfold maxLen; omega) (Nat.le_refl _)
  refine ⟨w', hr, ?_, (Mod.refl _ _).grown hg (fun k hk => by cases hk)⟩
  rw [show (Value.bool false).cells = #[Value.bool false] from rfl, toList_madeCells_one] at hown
  obtain ⟨g, cap, hv, hg0, hgc, hrow⟩ := RowV.of_owns hown h0
  injection hv with ha _ _
  injection ha with ha
  injection ha with ha _
  subst ha
  rw [Nat.mul_one] at hrow
  refine hrow.congr fun i hi => ?_
  rw [List.getD_eq_getElem?_getD, List.getElem?_replicate, if_pos (by omega)]; rfl
def usedF (X : List Nat) (c : Nat) : Value := .bool (decide (c ∈ X))
theorem usedF_put (X : List Nat) (c : Nat) : ∀ i, upd (usedF X) c (.bool true) i = usedF (X ++ [c]) i := fun i => by
  unfold upd usedF
  by_cases q : i = c
  · rw [if_pos q, q]; simp
  · rw [if_neg q]
    congr 1
    exact decide_eq_decide.2 ⟨fun h => List.mem_append_left _ h, fun h => (List.mem_append.1 h).elim (fun z => z) (fun z => absurd (List.mem_singleton.1 z) q)⟩
theorem usedF_old {X : List Nat} {c : Nat} (h : c ∈ X) : ∀ i, usedF X i = usedF (X ++ [c]) i := fun i => by
  unfold usedF
  congr 1
  exact decide_eq_decide.2 ⟨fun h => List.mem_append_left _ h, fun z => (List.mem_append.1 z).elim (fun z => z) (fun z => by rw [List.mem_singleton.1 z]; exact h)⟩
theorem liveP_snoc {l : List Nat} {k : Nat} (hk : k < l.length) : liveP (l.take (k + 1)) = liveP (l.take k) ++ if l.getD k 0 = 0 then [] else [l.getD k 0] := by
  unfold liveP
  rw [List.take_succ_eq_append_getElem hk, List.filter_append, List.getD_eq_getElem?_getD, List.getElem?_eq_getElem hk]
  simp only [Option.getD_some, List.filter_cons, List.filter_nil]
  by_cases q : l[k] = 0
  · simp [q]
  · simp [q]
theorem liveD_snoc {l : List DV} {j : Nat} {v : DV} (h : l[j]? = some v) : liveD (l.take (j + 1)) = liveD (l.take j) ++ liveP v.pl := by
  obtain ⟨h1, rfl⟩ := List.getElem?_eq_some_iff.1 h
  unfold liveD
  rw [List.take_succ_eq_append_getElem h1, List.flatMap_append]
  simp
theorem liveD_len {l : List DV} (h : ∀ v ∈ l, v.pl.length = 64) : (liveD l).length ≤ 64 * l.length := by
  induction l with
  | nil => simp [liveD]
  | cons v r ih =>
    have h1 := ih (fun v hv => h v (by simp [hv]))
    have h2 : (liveP v.pl).length ≤ v.pl.length := List.length_filter_le _ _
    have h3 := h v (by simp)
    have e : liveD (v :: r) = liveP v.pl ++ liveD r := rfl
    rw [e, List.length_append, List.length_cons]
    omega
theorem distD_le : ∀ l : List Nat, (distinct l).length ≤ l.length
  | [] => Nat.le_refl _
  | a :: r => by
    rw [distinct, List.length_cons]
    have := distD_le r
    split
    · omega
    · rw [List.length_cons]; omega
section
variable {F : Nat → Prop} {w : World} {p : Nat} {D : DP}
set_option maxHeartbeats 16000000 in
theorem dcount_any (h : Dq F w p D) (hB : D.vols.length ≤ 1000) (hC : D.ch.length ≤ 50000) :
    Calls Tryz.prog 25 #[bp p] w fun e w' => e = .returned (.int .i64 (countS (toMS D) : Int)) ∧ Same w w' := by
  refine opq fun R HR => ?_
  rw [countS_toMS] at HR
  obtain ⟨hO, ga, gc, cv, gs, tag, hX⟩ := h
  have HX := Lib.hid hX
  have HO := Lib.hid hO
  have x2 := hX.blk.at_ (i := 2) _ rfl
  have hpl := hX.blk.lt
  have hcs := hX.chs
  obtain ⟨ca, cc, rfl⟩ := owns_slice hcs
  obtain ⟨m, hm⟩ : ∃ m, D.ch.length = m := ⟨_, rfl⟩
  obtain ⟨n, hn⟩ : ∃ n, D.vols.length = n := ⟨_, rfl⟩
  have HM := Lib.hid hm
  have HN := Lib.hid hn
  have x2' : w.cell? ⟨p, 2, none⟩ = some (.slice ca m cc) := by rw [← hm]; exact x2
  rw [hm] at hC
  rw [hn] at hB
  obtain ⟨w1, hmk, hrow, hM1⟩ := make155 (m + 1) (by omega) (by omega) w
  rw [Int.natCast_add] at hmk
  have hmk' : (Instr.makeSlice 155 (.int .i64 ((m : Int) + 1)) (.int .i64 ((m : Int) + 1))).run Tryz.prog w = .ok (.slice (some ⟨w.heap.size, 0, none⟩) (m + 1) (m + 1)) w1 := hmk
  have R1 := Lib.hid (hrow.congr (f' := usedF []) (fun i hi => by unfold usedF; simp))
  have M1 := Lib.hid hM1
  obtain ⟨gu, hgu⟩ : ∃ gu, w.heap.size = gu := ⟨_, rfl⟩
  rw [hgu] at hmk' R1
  have HGU := Lib.hid hgu
  clear hX hO hcs hm hn x2 hmk hrow hM1 hgu
  unfold bp at *
  go_enter Tryz.func25, Tryz.ntmps25
  go_wp2_with fail
  go_loopw [4, 5] (fun z i wr => ∃ j : Nat, j ≤ n ∧ i = .int .i64 j ∧ z = .int .i64 ((distinct (liveD (D.vols.take j))).length : Int) ∧ RowV wr gu (m + 1) (usedF (liveD (D.vols.take j))) ∧ Same w wr) (fun _ i _ => n - (intOf i).toNat)
  case atStart => exact ⟨0, Nat.zero_le _, rfl, rfl, R1.out, M1.out⟩
  case round =>
    obtain ⟨j, hj, rfl, rfl, hR, hM⟩ := hrel
    have K := Lib.hid hR
    have J := Lib.hid hM
    have XR := Lib.hid (HX.out.same hM)
    have y1 := XR.out.blk.at_ (i := 1) _ rfl
    have hpl1 := XR.out.blk.lt
    rw [HN.out] at y1
    have hL1 := liveD_len (l := D.vols.take j) (fun v hv => HO.out.len v (List.mem_of_mem_take hv))
    have hL2 := distD_le (liveD (D.vols.take j))
    rw [List.length_take, HN.out] at hL1
    clear hR hM
    by_cases hlt : j < n
    · obtain ⟨v, hv⟩ : ∃ v, D.vols[j]? = some v := ⟨_, List.getElem?_eq_getElem (by rw [HN.out]; exact hlt)⟩
      have HV := Lib.hid hv
      have hvl := HO.out.len v (List.mem_of_getElem? hv)
      have HVL := Lib.hid hvl
      have HLS := Lib.hid (liveD_snoc hv)
      have HBG := Lib.hid (HO.out.big v (List.mem_of_getElem? hv))
      obtain ⟨X, hXe⟩ : ∃ X, liveD (D.vols.take j) = X := ⟨_, rfl⟩
      rw [hXe] at K HLS hL1 hL2 ⊢
      have hXl : (distinct X).length ≤ 64 * n := by omega
      have hXll : X.length ≤ 64 * n := by omega
      clear hv hvl hXe hL1 hL2
      go_wp2_with fail
      go_loopw [4, 6] (fun z i w2 => ∃ k : Nat, k ≤ 64 ∧ i = .int .i64 k ∧ z = .int .i64 ((distinct (X ++ liveP (v.pl.take k))).length : Int) ∧ RowV w2 gu (m + 1) (usedF (X ++ liveP (v.pl.take k))) ∧ Same w w2) (fun _ i _ => 64 - (intOf i).toNat)
      case atStart => exact ⟨0, Nat.zero_le _, rfl, by show _ = Value.int .i64 ((distinct (X ++ [])).length : Int); rw [List.append_nil], by show RowV _ _ _ (usedF (X ++ [])); rw [List.append_nil]; exact K.out, J.out⟩
      case round =>
        obtain ⟨k, hk, rfl, rfl, hR, hM⟩ := hrel
        have K2 := Lib.hid hR
        have J2 := Lib.hid hM
        have X2 := Lib.hid (HX.out.same hM)
        have z1 := X2.out.blk.at_ (i := 1) _ rfl
        have hpl2 := X2.out.blk.lt
        rw [HN.out] at z1
        obtain ⟨g, hga, -, -, hRv, hil, hc, -⟩ := X2.out.cell HO.out.len HV.out
        rw [hga] at z1
        rw [HN.out] at hil
        have hgl := hRv.lt
        have hgul := hR.lt
        have hLk : (liveP (v.pl.take k)).length ≤ 64 := by
          have h2 : (liveP (v.pl.take k)).length ≤ (v.pl.take k).length := List.length_filter_le _ _
          rw [List.length_take] at h2; omega
        have hdl := distD_le (X ++ liveP (v.pl.take k))
        rw [List.length_append] at hdl
        clear hR hM hRv hga
        by_cases hlk : k < 64
        · have hsn := liveP_snoc (l := v.pl) (k := k) (by rw [HVL.out]; exact hlk)
          have c5 := hc (5 + k) (by omega)
          rw [dvL_pl (by rw [HVL.out]; exact hlk), ← Nat.add_assoc] at c5
          have hcb : v.pl.getD k 0 ≤ m := by
            by_cases q : v.pl.getD k 0 = 0
            · omega
            · rw [← HM.out]; exact HBG.out _ (getD_mem q rfl)
          obtain ⟨c, hce⟩ : ∃ c, v.pl.getD k 0 = c := ⟨_, rfl⟩
          rw [hce] at c5 hsn hcb
          obtain ⟨Y, hY⟩ : ∃ Y, X ++ liveP (v.pl.take k) = Y := ⟨_, rfl⟩
          have hY2 : X ++ liveP (v.pl.take (k + 1)) = Y ++ if c = 0 then [] else [c] := by rw [hsn, ← List.append_assoc, hY]
          have HY2 := Lib.hid hY2
          rw [hY] at K2 hdl ⊢
          clear hY hY2 hsn hce hc
          by_cases hc0 : c = 0
          · rw [if_pos hc0, List.append_nil] at HY2
            subst hc0
            go_wp2_with fail
            go_roundw
            case rel => exact ⟨k + 1, by omega, by go_num, by rw [HY2.out], by rw [HY2.out]; exact K2.out, J2.out⟩
            case measure => simp [intOf]; omega
          · rw [if_neg hc0] at HY2
            have hcp : 0 < c := by omega
            have u0 := K2.out.cell c (by omega)
            have uf := K2.out.free c
            unfold usedF at u0
            have hds := dist_snocD Y c
            by_cases hin : c ∈ Y
            · rw [decide_eq_true hin] at u0
              rw [if_pos hin, Nat.add_zero] at hds
              have HDS := Lib.hid hds
              have HUF := Lib.hid (usedF_old hin)
              clear hds hin
              go_wp2_with fail
              go_roundw
              case rel => exact ⟨k + 1, by omega, by go_num, by rw [HY2.out, HDS.out], by rw [HY2.out]; exact K2.out.congr (fun i _ => HUF.out i), J2.out⟩
              case measure => simp [intOf]; omega
            · rw [decide_eq_false hin] at u0
              rw [if_neg hin] at hds
              have HDS := Lib.hid hds
              have HUF := Lib.hid (usedF_put Y c)
              clear hds hin
              go_wp2_with fail
              go_roundw
              case rel => exact ⟨k + 1, by omega, by go_num, by rw [HY2.out, HDS.out]; go_num, by rw [HY2.out]; exact (K2.out.set c (by omega) (.bool true)).congr (fun i _ => HUF.out i), J2.out.setCell (p := ⟨gu, c, none⟩) (fun q => by have := HGU.out; simp at q; omega) _⟩
              case measure => simp [intOf]; omega
        · obtain rfl : k = 64 := by omega
          have hfull : X ++ liveP (v.pl.take 64) = liveD (D.vols.take (j + 1)) := by rw [HLS.out, List.take_of_length_le (by rw [HVL.out]; exact Nat.le_refl _)]
          rw [hfull] at K2 ⊢
          clear hfull hdl hc
          go_wp2_with fail
          exact ⟨⟨j + 1, by omega, by go_num, rfl, K2.out, J2.out⟩, by simp [intOf]; omega⟩
    · obtain rfl : j = n := by omega
      have hall : D.vols.take j = D.vols := List.take_of_length_le (by rw [HN.out]; exact Nat.le_refl _)
      rw [hall]
      clear hall hL1 hL2
      go_wp2_with fail
      exact HR.out _ _ ⟨rfl, J.out⟩
end
end Go.Proofs.YtlcepoagpocadaaGreatDoor
set_option maxRecDepth 100000
/- The document's pool: volumes are told as they are. -/
namespace Go.Proofs.YtlcepoagpocadaaGreatDoor
open Go Go.RowKit
structure TvS (w : World) (v : Value) (l : List Vo) : Prop where
  ex : ∃ a c, v = .slice a l.length c ∧ (0 < l.length → ∃ g, a = some ⟨g, 0, none⟩ ∧ RowV w g (l.length * 5) (fun i => (l.flatMap infoC).getD i undef))
theorem TvS.same {w w' : World} {v : Value} {l : List Vo} (h : TvS w v l) (M : Same w w') : TvS w' v l := by
  obtain ⟨a, c, e, k⟩ := h.ex
  exact ⟨⟨a, c, e, fun hp => let ⟨g, e2, r⟩ := k hp; ⟨g, e2, r.mod M (fun q => q)⟩⟩⟩
theorem TvS.owns {w : World} {B : Nat} {v : Value} {l : List Vo} (h : w.ownsRow B 47 5 v l.length (l.flatMap infoC)) : TvS w v l := by
  obtain ⟨a, c, rfl⟩ := owns_slice h
  refine ⟨⟨a, c, rfl, fun hp => ?_⟩⟩
  obtain ⟨g, cap, e, hb, hc, hr⟩ := RowV.of_owns h hp
  injection e with e1 _ _
  exact ⟨g, e1, hr⟩
theorem info_get2 {l : List Vo} {j : Nat} {v : Vo} (h : l[j]? = some v) {i : Nat} (hi : i < 5) : (l.flatMap infoC)[j * 5 + i]? = (infoC v)[i]? := by
  induction l generalizing j with
  | nil => simp at h
  | cons u r ih =>
    rw [List.flatMap_cons]
    cases j with
    | zero =>
      simp at h
      subst h
      rw [List.getElem?_append_left (by simp [infoC]; omega)]; simp
    | succ j =>
      rw [List.getElem?_append_right (by simp [infoC]; omega), show (j + 1) * 5 + i - (infoC u).length = j * 5 + i by simp [infoC]; omega]
      exact ih (by simpa using h)
theorem info_at {l : List Vo} {j : Nat} {v : Vo} (h : l[j]? = some v) (i : Nat) (hi : i < 5) (u : Value) (e : (infoC v)[i]? = some u) : some ((l.flatMap infoC).getD (j * 5 + i) undef) = some u := by
  rw [List.getD_eq_getElem?_getD, info_get2 h hi, e]; rfl
section
variable {F : Nat → Prop} {w : World} {p : Nat} {D : DP}
set_option maxHeartbeats 16000000 in
theorem dsame_any (h : Dq F w p D) (hB : D.vols.length ≤ 1000) (u : Value) (xs : List Vo) (hu : TvS w u xs) (he : xs.map infoV = infoS (toMS D)) :
    Calls Tryz.prog 22 #[bp p, u] w fun e w' => e = .returned (.bool true) ∧ Same w w' := by
  refine opq fun R HR => ?_
  obtain ⟨ua, uc, rfl, k1⟩ := hu.ex
  have K1 := Lib.hid k1
  obtain ⟨hO, ga, gc, cv, gs, tag, hX⟩ := h
  have HX := Lib.hid hX
  have HO := Lib.hid hO
  have x1 := hX.blk.at_ (i := 1) _ rfl
  have hpl := hX.blk.lt
  obtain ⟨n, hn⟩ : ∃ n, D.vols.length = n := ⟨_, rfl⟩
  have HN := Lib.hid hn
  have HE := Lib.hid (show ∀ (j : Nat) (x : Vo) (v : DV), xs[j]? = some x → D.vols[j]? = some v → x.id = v.id ∧ x.size = v.size ∧ x.pin = v.pin ∧ x.fr = v.fr from fun j x v hx hv => by
    have h1 : (xs.map infoV)[j]? = some (infoV x) := by rw [List.getElem?_map, hx]; rfl
    have h2 : (infoS (toMS D))[j]? = some (infoV (toVo v)) := by
      unfold infoS toMS
      rw [List.getElem?_map, List.getElem?_map, hv]; rfl
    rw [he, h2] at h1
    injection h1 with h1
    unfold infoV toVo at h1
    injection h1 with a b
    injection b with b c
    injection c with c d
    exact ⟨a.symm, b.symm, c.symm, d.symm⟩)
  have hlx : xs.length = n := by
    have := congrArg List.length he
    unfold infoS toMS at this
    simpa [hn] using this
  rw [hlx] at K1 ⊢
  have HLX := Lib.hid hlx
  rw [hn] at x1 hB
  clear hX hO hn hu k1 he hlx
  unfold bp at *
  have hq : ((n : Int) != (n : Int)) = false := by simp
  go_enter Tryz.func22, Tryz.ntmps22
  go_wp2_with fail
  go_loopw [5] (fun i wr => ∃ j : Nat, j ≤ n ∧ i = .int .i64 j ∧ Same w wr) (fun i _ => n - (intOf i).toNat)
  case atStart => exact ⟨0, Nat.zero_le _, rfl, Mod.refl _ _⟩
  case round =>
    obtain ⟨j, hj, rfl, hM⟩ := hrel
    have J := Lib.hid hM
    have XR := Lib.hid (HX.out.same hM)
    have y1 := XR.out.blk.at_ (i := 1) _ rfl
    have hpl1 := XR.out.blk.lt
    rw [HN.out] at y1
    clear hM
    by_cases hlt : j < n
    · obtain ⟨v, hv⟩ : ∃ v, D.vols[j]? = some v := ⟨_, List.getElem?_eq_getElem (by rw [HN.out]; exact hlt)⟩
      obtain ⟨x, hx⟩ : ∃ x, xs[j]? = some x := ⟨_, List.getElem?_eq_getElem (by rw [HLX.out]; exact hlt)⟩
      obtain ⟨e1, e2, e3, e4⟩ := HE.out j x v hx hv
      obtain ⟨g, hga, -, -, hRv, hil, hc, -⟩ := XR.out.cell HO.out.len hv
      have hvl := HO.out.len v (List.mem_of_getElem? hv)
      have HVL := Lib.hid hvl
      have L2 := Lib.hid (range153 hvl hc)
      rw [hga] at y1
      rw [HN.out] at hil
      have hgl := hRv.lt
      obtain ⟨Y, hY⟩ : ∃ Y, (dvL v).toArray = Y := ⟨_, rfl⟩
      have HY := Lib.hid hY
      obtain ⟨g1, rfl, r1⟩ := K1.out (by omega)
      have r2 := r1.mod J.out (fun q => q)
      have p0 := (r2.cell (j * 5) (by omega)).trans (show _ = some (Value.int .i64 x.id) from info_at hx 0 (by decide) _ rfl)
      have p1 := (r2.cell (j * 5 + 1) (by omega)).trans (show _ = some (Value.int .i64 x.size) from info_at hx 1 (by decide) _ rfl)
      have p3 := (r2.cell (j * 5 + 3) (by omega)).trans (show _ = some (Value.bool x.pin) from info_at hx 3 (by decide) _ rfl)
      have p4 := (r2.cell (j * 5 + 4) (by omega)).trans (show _ = some (Value.int .i64 x.fr) from info_at hx 4 (by decide) _ rfl)
      have R2 := Lib.hid r2
      have hg1l := r2.lt
      rw [e1] at p0
      rw [e2] at p1
      rw [e3] at p3
      rw [e4] at p4
      have P0 := Lib.hid p0
      have P1 := Lib.hid p1
      have P3 := Lib.hid p3
      have P4 := Lib.hid p4
      clear hv hx e1 e2 e3 e4 hRv hc hga hvl hY r1 r2 p0 p1 p3 p4
      go_upto_region 7 with (first | (refine wpList_load153 (by rfl) (.tmp 26) (by rfl) g (j * 69) (by rfl) v HVL.out (L2.out) Y HY.out ?_) | (refine wpList_store153 (by rfl) (.tmp 6) (.tmp 27) (by rfl) wr.heap.size _ Y (by rfl) (by rfl) (Blk.new wr _ 153) (by rfl) (dvA_len HVL.out HY.out) (dvA_one HY.out) ?_; intro w4 hB4 hM4))
      obtain ⟨E, hE⟩ : ∃ E, wr.heap.size = E := ⟨_, rfl⟩
      have J4 := Lib.hid (show Same wr w4 from ((Mod.refl _ _).alloc _).then_ hM4 (fun j hj q => by omega))
      rw [hE] at hB4 ⊢
      have cY : ∀ y u, (dvL v)[y]? = some u → w4.cell? ⟨E, y, none⟩ = some u := fun y u hu => by
        rw [hB4.cell y, ← HY.out, List.getElem?_toArray]; exact hu
      have c0 := cY 0 _ rfl
      have c2 := cY 2 _ rfl
      have c3 := cY 3 _ rfl
      have c4 := cY 4 _ rfl
      have hEl := hB4.lt
      have p0 := (J4.out.cell hg1l (fun q => q) _).trans P0.out
      have p1 := (J4.out.cell hg1l (fun q => q) _).trans P1.out
      have p3 := (J4.out.cell hg1l (fun q => q) _).trans P3.out
      have p4 := (J4.out.cell hg1l (fun q => q) _).trans P4.out
      have hg1l4 : g1 < w4.heap.size := Nat.lt_of_lt_of_le hg1l J4.out.size
      have b0 : (v.id != v.id) = false := by simp
      have b2 : (v.size != v.size) = false := by simp
      have b3 : (v.pin != v.pin) = false := by simp
      have b4 : (v.fr != v.fr) = false := by simp
      clear cY hB4 hM4 hE y1 hpl1 hgl hil
      simp only [Act.put]
      go_big_quiet (fail)
      go_wp2_with fail
      go_roundw
      case rel => exact ⟨j + 1, by omega, by go_num, (J.out.same J4.out).drewN _⟩
      case measure => simp [intOf]; omega
    · obtain rfl : j = n := by omega
      go_wp2_with fail
      exact HR.out _ _ ⟨rfl, J.out⟩
end
end Go.Proofs.YtlcepoagpocadaaGreatDoor
