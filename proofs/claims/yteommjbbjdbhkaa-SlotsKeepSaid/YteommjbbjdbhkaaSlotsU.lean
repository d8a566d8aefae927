import Derived.Test.YteommjbbjdbhkaaSlotsT
set_option linter.unusedSimpArgs false
set_option linter.unusedVariables false
namespace Go.Proofs.Yteommjbbjdbhkaa
open Go Go.RowKit
set_option maxRecDepth 100000 in
set_option maxHeartbeats 4000000 in
theorem slotsKeep_walk (n' : Int) (a1 : Option Addr) (l1 c1 : Nat) (w : World) (hl1 : l1 ≤ 9223372036854775807) (h1 : Ints w a1 l1) :
    Calls Try.prog 5 #[.int .i64 n', .slice a1 l1 c1] w fun e w' => e = .returned (.bool true) ∧ Below w.heap.size w w' := by
  refine opq fun R HR => ?_
  have H1 := Lib.hid h1
  clear h1
  by_cases h100 : 100 < l1
  · go_enter Try.func5, Try.ntmps5
    go_wp2_with fail
    refine (sawake_any _).mono ?_
    rintro e w1 ⟨rfl, M⟩
    have L := Lib.hid M
    clear M
    go_wp2
    exact HR.out _ _ ⟨rfl, Same.below L.out⟩
  obtain ⟨K', hK'⟩ : ∃ K', wrap64 (2 + wrap64 ((IntKind.u64.wrap n').tmod 30)) = K' := ⟨_, rfl⟩
  have hKb : 2 ≤ K' ∧ K' ≤ 31 := by
    have := dmod' n' 30 (by omega)
    rw [← hK']; generalize (IntKind.u64.wrap n').tmod 30 = q at *; unfold wrap64; omega
  obtain ⟨n, rfl⟩ : ∃ n : Nat, K' = n := ⟨K'.toNat, by omega⟩
  have hnl : n ≤ 9223372036854775807 := by omega
  obtain ⟨i0, hi, hz0, hz1, hz2⟩ := info_parts info4
  have hz2' : i0.bytes * n ≤ 281474976710656 := by rw [hz2]; omega
  have hmx : n ≤ maxLen := by unfold maxLen; omega
  have HI := Lib.hid hi
  have HZ0 := Lib.hid hz0
  have HZ1 := Lib.hid hz1
  have HZ2 := Lib.hid hz2'
  clear hi hz0 hz1 hz2 hz2'
  go_enter Try.func5, Try.ntmps5
  go_wp2_with fail
  refine (sawake_any _).mono ?_
  rintro e w1 ⟨rfl, M⟩
  have J1 := Lib.hid M
  clear M
  go_wp2_with fail
  rw [hK']
  clear hK'
  refine (new_any n _ (by omega)).mono ?_
  rintro e w2 ⟨P, g, rfl, hP, hg, hS, M⟩
  have hP' : w.heap.size ≤ P := by have := J1.out.size; omega
  have hg' : w.heap.size ≤ g := by have := J1.out.size; omega
  have J2 := Lib.hid (J1.out.same M)
  have J3 := Lib.hid hS
  clear hS M J1 hP hg
  go_wp2_with (first | (at_make; refine wpList_make_full _ rfl (.tmp 35) (.tmp 35) 40 rfl _ 4 i0 (.bool false) 1 Try.underlying40 HI.out HZ0.out HZ1.out .i64 .i64 _ _ n rfl rfl rfl rfl HZ2.out hmx (Nat.le_refl _) ?_; intro w3 hown hgrow; obtain ⟨hr, M⟩ := row_made hown hgrow (madeB_get n); clear hown hgrow; have y1 := J3.out.row.lt; have y2 := J3.out.head.lt; have y3 := J2.out.size; have K1 := Lib.hid (J3.out.same M); have K2 := Lib.hid (J2.out.same M); have K3 := Lib.hid hr; have hbg : ¬ w2.heap.size = g := (by omega); have hbP : ¬ w2.heap.size = P := (by omega); have hbw : ¬ w2.heap.size < w.heap.size := (by omega); clear hr M y1 y2 y3) | (at_make; refine wpList_make_full _ rfl (.tmp 37) (.tmp 37) 40 rfl _ 4 i0 (.bool false) 1 Try.underlying40 HI.out HZ0.out HZ1.out .i64 .i64 _ _ n rfl rfl rfl rfl HZ2.out hmx (Nat.le_refl _) ?_; intro w4 hown hgrow; obtain ⟨hr, M⟩ := row_made hown hgrow (madeB_get n); clear hown hgrow; have y1 := K1.out.row.lt; have y2 := K1.out.head.lt; have y3 := K2.out.size; have y4 := K3.out.lt; have G1 := Lib.hid (K1.out.same M); have G2 := Lib.hid (K2.out.same M); have G3 := Lib.hid (K3.out.mod M (fun q => q)); have G4 := Lib.hid hr; have hug : ¬ w3.heap.size = g := (by omega); have hub1 : ¬ w3.heap.size = P := (by omega); have hubw : ¬ w3.heap.size < w.heap.size := (by omega); have hbu : ¬ w2.heap.size = w3.heap.size := (by omega); clear hr M K1 K2 K3 J2 J3 y1 y2 y3 y4))
  generalize w3.heap.size = bu at *
  generalize w2.heap.size = bb at *
  go_wp2_with fail
  go_loopw [9] (fun i wr => ∃ (k : Nat) (f : Nat → Int), i = .int .i64 k ∧ k ≤ l1 ∧ St f n ∧ SL wr P g n f ∧ RowV wr bb n (fun j => .bool (bndB f j)) ∧ RowV wr bu n (fun j => .bool (useB f j)) ∧ Same w wr) (fun i _ => l1 - (intOf i).toNat)
  case atStart => exact ⟨0, z0, rfl, by omega, fun i _ => by simp, G1.out, G3.out, G4.out, G2.out⟩
  case round =>
    clear G1 G2 G3 G4
    obtain ⟨k, f, rfl, hk, hst, hS, hB, hU, M⟩ := hrel
    have J1 := Lib.hid hS
    have J2 := Lib.hid hB
    have J3 := Lib.hid hU
    have J4 := Lib.hid M
    have HST := Lib.hid hst
    clear hS hB hU M hst
    by_cases hlt : k < l1
    · obtain ⟨b1, o1, rfl, hb1, hc1⟩ := H1.out (by omega)
      obtain ⟨u, hu, _⟩ := hc1 k hlt
      clear hc1
      rw [← J4.out.cell hb1 (fun q => q)] at hu
      obtain ⟨X, hX⟩ : ∃ X, wrap64 ((IntKind.u64.wrap u).tmod 100) = X := ⟨_, rfl⟩
      have hXb : 0 ≤ X ∧ X ≤ 99 := by
        have := dmod' u 100 (by omega)
        rw [← hX]; generalize (IntKind.u64.wrap u).tmod 100 = q at *; unfold wrap64; omega
      go_upto_block 2 with fail
      rw [hX]
      clear hX hu
      have hn0 : ¬ (n : Int) = 0 := by omega
      have hn1 : (1 : Int) ≤ (n : Int) := by omega
      go_cut [53] (fun s53 wx => ∃ f' : Nat → Int, St f' n ∧ SL wx P g n f' ∧ RowV wx bb n (fun j => .bool (bndB f' j)) ∧ RowV wx bu n (fun j => .bool (useB f' j)) ∧ Same w wx)
      case first => as_aux_lemma =>
        have h4 : X % 4 = 0 ∨ X % 4 = 1 ∨ X % 4 = 2 ∨ X % 4 = 3 := by omega
        rcases h4 with h4 | h4 | h4 | h4
        · by_cases hc : (cnt f 0 n : Int) < 2
          · obtain ⟨q1, q2⟩ := takeV_no hc
            have HT := Take_any P g n f wr J1.out hnl
            rw [q1, q2] at HT
            have HT' := Lib.hid HT
            have HC := Lib.hid (fun wz (hz : SL wz P g n f) => free_any P g n f wz hz hnl)
            have hc1 : ¬ (1 : Int) < (cnt f 0 n : Int) := by omega
            clear q1 q2 HT hc
            generalize cnt f 0 n = cc at *
            go_wp2_with fail
            refine HT'.out.mono ?_
            rintro e w5 ⟨rfl, hS5, M5⟩
            have L1 := Lib.hid hS5
            have L2 := Lib.hid (J2.out.mod M5 hbg)
            have L3 := Lib.hid (J3.out.mod M5 hug)
            have L4 := Lib.hid (J4.out.then_ M5 (fun i h1 h2 => by omega))
            clear hS5 M5
            go_wp2_with fail
            refine (HC.out _ L1.out).mono ?_
            rintro e w6 ⟨rfl, rfl⟩
            go_wp2
            go_roundw
            case rel => exact ⟨k + 1, f, by go_num, by omega, HST.out, L1.out, L2.out, L3.out, L4.out⟩
            case measure => simp [intOf]; omega
          · obtain ⟨j, hj, hlow, hfj, q1, q2⟩ := takeV_ok (least := 2) hc (by omega)
            have HT := Take_any P g n f wr J1.out hnl
            rw [q1, q2] at HT
            have HT' := Lib.hid HT
            have HST2 := Lib.hid (st_upd HST.out j 1 (by omega))
            have HB := Lib.hid (fun i => bnd_take hfj i)
            have hub : useB f j = false := by unfold useB; rw [hfj]; rfl
            have hbb : bndB f j = false := by unfold bndB; rw [hfj]; rfl
            have hji : (j : Int) < (n : Int) := by omega
            clear q1 q2 HT hlow hfj hc
            go_wp2_with fail
            refine HT'.out.mono ?_
            rintro e w5 ⟨rfl, hS5, M5⟩
            have L1 := Lib.hid hS5
            have L2 := Lib.hid (J2.out.mod M5 hbg)
            have L3 := Lib.hid (J3.out.mod M5 hug)
            have L4 := Lib.hid (J4.out.then_ M5 (fun i h1 h2 => by omega))
            have d1 := L2.out.cell j hj
            have d2 := L3.out.cell j hj
            simp only [hub] at d2
            simp only [hbb] at d1
            have d3 := L3.out.free
            have L5 := L3.out.set j hj (.bool true)
            rw [upd_bool] at L5
            have L6 := Lib.hid (L5.congr (fun i _ => by rw [use_take]))
            have L7 := Lib.hid ((L2.out.set_far (p := ⟨bu, j, none⟩) (fun q => hbu q.symm) (.bool true)).congr (fun i _ => by rw [HB.out i]))
            clear hS5 M5 hub hbb L5
            go_wp2_with fail
            go_meet
            exact ⟨_, HST2.out, L1.out.set_row hub1 hug _, L7.out, L6.out, L4.out.setCell (fun q => absurd q hubw) _⟩
        · by_cases hc : (cnt f 0 n : Int) < 1
          · obtain ⟨q1, q2⟩ := takeV_no hc
            have HT := Move_any P g n f wr J1.out hnl
            rw [q1, q2] at HT
            have HT' := Lib.hid HT
            have HC := Lib.hid (fun wz (hz : SL wz P g n f) => free_any P g n f wz hz hnl)
            have hc1 : ¬ (1 : Int) < (cnt f 0 n : Int) := by omega
            clear q1 q2 HT hc
            generalize cnt f 0 n = cc at *
            go_wp2_with fail
            refine HT'.out.mono ?_
            rintro e w5 ⟨rfl, hS5, M5⟩
            have L1 := Lib.hid hS5
            have L2 := Lib.hid (J2.out.mod M5 hbg)
            have L3 := Lib.hid (J3.out.mod M5 hug)
            have L4 := Lib.hid (J4.out.then_ M5 (fun i h1 h2 => by omega))
            clear hS5 M5
            go_wp2_with fail
            refine (HC.out _ L1.out).mono ?_
            rintro e w6 ⟨rfl, rfl⟩
            go_wp2
            go_roundw
            case rel => exact ⟨k + 1, f, by go_num, by omega, HST.out, L1.out, L2.out, L3.out, L4.out⟩
            case measure => simp [intOf]; omega
          · obtain ⟨j, hj, hlow, hfj, q1, q2⟩ := takeV_ok (least := 1) hc (by omega)
            have HT := Move_any P g n f wr J1.out hnl
            rw [q1, q2] at HT
            have HT' := Lib.hid HT
            have HST2 := Lib.hid (st_upd HST.out j 1 (by omega))
            have HB := Lib.hid (fun i => bnd_take hfj i)
            have hub : useB f j = false := by unfold useB; rw [hfj]; rfl
            have hbb : bndB f j = false := by unfold bndB; rw [hfj]; rfl
            have hji : (j : Int) < (n : Int) := by omega
            clear q1 q2 HT hlow hfj hc
            go_wp2_with fail
            refine HT'.out.mono ?_
            rintro e w5 ⟨rfl, hS5, M5⟩
            have L1 := Lib.hid hS5
            have L2 := Lib.hid (J2.out.mod M5 hbg)
            have L3 := Lib.hid (J3.out.mod M5 hug)
            have L4 := Lib.hid (J4.out.then_ M5 (fun i h1 h2 => by omega))
            have d1 := L2.out.cell j hj
            have d2 := L3.out.cell j hj
            simp only [hub] at d2
            simp only [hbb] at d1
            have d3 := L3.out.free
            have L5 := L3.out.set j hj (.bool true)
            rw [upd_bool] at L5
            have L6 := Lib.hid (L5.congr (fun i _ => by rw [use_take]))
            have L7 := Lib.hid ((L2.out.set_far (p := ⟨bu, j, none⟩) (fun q => hbu q.symm) (.bool true)).congr (fun i _ => by rw [HB.out i]))
            clear hS5 M5 hub hbb L5
            go_wp2_with fail
            go_meet
            exact ⟨_, HST2.out, L1.out.set_row hub1 hug _, L7.out, L6.out, L4.out.setCell (fun q => absurd q hubw) _⟩
        · obtain ⟨j, hj⟩ : ∃ j : Nat, X % (n : Int) = j := ⟨(X % (n : Int)).toNat, by have := Int.emod_nonneg X hn0; omega⟩
          have hjn : j < n := by have := Int.emod_lt_of_pos X (by omega : (0 : Int) < n); omega
          have hG := give_any P g n f (j : Int) wr J1.out hnl
          rw [giveV_use hjn] at hG
          have HST2 := Lib.hid (st_give HST.out (n := n) (j : Int))
          have HU1 := Lib.hid (fun i => use_give (f := f) hjn i)
          have HB1 := Lib.hid (fun i => bnd_give (f := f) hjn i)
          have hji : (j : Int) < (n : Int) := by omega
          have d2 := J3.out.cell j hjn
          generalize giveF f n (j : Int) = f' at *
          rcases hub : useB f j with _ | _
          all_goals
            simp only [hub] at d2 hG
            have HG := Lib.hid hG
            clear hub hG
            go_wp2_with fail
            rw [hj]
            refine HG.out.mono ?_
            rintro e w5 ⟨rfl, hS5, M5⟩
            have L1 := Lib.hid hS5
            have L2 := Lib.hid (J2.out.mod M5 hbg)
            have L3 := Lib.hid (J3.out.mod M5 hug)
            have L4 := Lib.hid (J4.out.then_ M5 (fun i h1 h2 => by omega))
            have d4 := (M5.cell J3.out.lt hug j).trans d2
            have d3 := L3.out.free
            have L5 := L3.out.set j hjn (.bool false)
            rw [upd_bool] at L5
            have L6 := Lib.hid (L5.congr (fun i _ => by rw [HU1.out]))
            have L7 := Lib.hid ((L2.out.set_far (p := ⟨bu, j, none⟩) (fun q => hbu q.symm) (.bool false)).congr (fun i _ => by rw [HB1.out i]))
            clear hS5 M5 L5
            go_wp2_with fail
            go_meet
            exact ⟨_, HST2.out, L1.out.set_row hub1 hug _, L7.out, L6.out, L4.out.setCell (fun q => absurd q hubw) _⟩
        · go_wp2_with fail
          refine (commit_any P g n f _ J1.out hnl).mono ?_
          rintro e w5 ⟨rfl, hS5, M5⟩
          have L1 := Lib.hid hS5
          have L2 := Lib.hid (J2.out.mod M5 hbg)
          have L3 := Lib.hid (J3.out.mod M5 hug)
          have L4 := Lib.hid (J4.out.then_ M5 (fun i h1 h2 => by omega))
          clear hS5 M5
          go_wp2_with fail
          go_loopw [15] (fun i wx => ∃ z : Nat, i = .int .i64 z ∧ z ≤ n ∧ SL wx P g n (comF f) ∧ RowV wx bb n (fun j => .bool (if j < z then useB f j else bndB f j)) ∧ RowV wx bu n (fun j => .bool (useB f j)) ∧ Same w wx) (fun i _ => n - (intOf i).toNat)
          case atStart => exact ⟨0, rfl, by omega, L1.out, L2.out, L3.out, L4.out⟩
          case round =>
            clear L1 L2 L3 L4
            obtain ⟨z, rfl, hz, hS, hB, hU, M⟩ := hrel
            by_cases hzn : z < n
            · have d1 := hU.cell z hzn
              have d2 := hB.cell z hzn
              have d3 := hB.free
              have hzi : (z : Int) < (n : Int) := by omega
              have L1 := Lib.hid (hS.set_row (i := z) hbP hbg (.bool (useB f z)))
              have L2 := Lib.hid ((hB.set z hzn (.bool (useB f z))).congr (fun i _ => copy_step (useB f) (bndB f) z i))
              have L3 := Lib.hid (hU.set_far (p := ⟨bb, z, none⟩) hbu (.bool (useB f z)))
              have L4 := Lib.hid (M.setCell (p := ⟨bb, z, none⟩) (fun q => absurd q hbw) (.bool (useB f z)))
              clear hS hB hU M
              generalize useB f z = uz at *
              go_wp2
              go_roundw
              case rel => exact ⟨z + 1, by go_num, by omega, L1.out, L2.out, L3.out, L4.out⟩
              case measure => simp [intOf]; omega
            · obtain rfl : z = n := by omega
              have L2 := Lib.hid (hB.congr (f' := fun j => .bool (bndB (comF f) j)) (fun i hi => by rw [if_pos hi, bnd_com]))
              have L3 := Lib.hid (hU.congr (f' := fun j => .bool (useB (comF f) j)) (fun i hi => by rw [use_com]))
              have L1 := Lib.hid hS
              have L4 := Lib.hid M
              clear hS hB hU M
              go_wp2_with fail
              go_meet
              exact ⟨_, st_com HST.out, L1.out, L2.out, L3.out, L4.out⟩
      case rest => as_aux_lemma =>
        obtain ⟨f', hst, hS, hB, hU, M⟩ := hcut
        clear J1 J2 J3 J4 HST
        have J1 := Lib.hid hS
        have J2 := Lib.hid hB
        have J3 := Lib.hid hU
        have J4 := Lib.hid M
        have hall := cnt_all n hst
        have hul := usedL_len f' n
        have c1 := Lib.hid (used_any' P g n f' wc hS (by omega))
        have c2 := Lib.hid (fun wz (hz : SL wz P g n f') => free_any P g n f' wz hz hnl)
        have c3 := Lib.hid (fun wz (hz : SL wz P g n f') => waits_any P g n f' wz hz hnl)
        have HST := Lib.hid hst
        clear hS hB hU M hst
        go_wp2_with fail
        go_loop [16, 17] (fun c i => ∃ z : Nat, z ≤ n ∧ i = .int .i64 z ∧ c = .int .i64 (usedL f' z).length) (fun _ i => n - (intOf i).toNat)
        case atStart => exact ⟨0, by omega, rfl, rfl⟩
        case round =>
          obtain ⟨z, hz, rfl, rfl⟩ := hrel
          by_cases hzn : z < n
          · have d1 := J3.out.cell z hzn
            have hus := used_len_succ f' z
            have hlz := usedL_le f' z
            have hzi : (z : Int) < (n : Int) := by omega
            clear hall hul
            generalize hq : (usedL f' z).length = q at *
            have HQ := Lib.hid hq
            clear hq
            rcases hub : useB f' z with _ | _
            all_goals
              simp only [hub] at d1
              rw [hub] at hus
              have HUS := Lib.hid hus
              clear hus hub
              go_wp2
              go_round
              case rel => exact ⟨z + 1, by omega, by go_num, by rw [HUS.out]; go_num⟩
              case measure => simp [intOf]; omega
          · obtain rfl : z = n := by omega
            generalize (usedL f' z).length = m at *
            generalize cnt f' 0 z = x0 at *
            generalize cnt f' 3 z = x3 at *
            have hsum : (x0 : Int) + (x3 : Int) + (m : Int) = (z : Int) := by omega
            have HSUM := Lib.hid hsum
            clear hall hul hsum
            go_wp2_with fail
            refine c1.out.mono ?_
            rintro e w6 ⟨a6, cap6, rfl, _, M6⟩
            have P1 := Lib.hid (J1.out.same M6)
            have P2 := Lib.hid (J2.out.mod M6 (fun q => q))
            have P3 := Lib.hid (J3.out.mod M6 (fun q => q))
            have P4 := Lib.hid (J4.out.same M6)
            clear M6 J1 J2 J3 J4 c1
            go_wp2_with fail
            refine (c2.out _ P1.out).mono ?_
            rintro e w7 ⟨rfl, rfl⟩
            go_wp2_with fail
            refine (c3.out _ P1.out).mono ?_
            rintro e w7 ⟨rfl, rfl⟩
            have hs2 := HSUM.out
            go_wp2
            go_roundw
            case rel => exact ⟨k + 1, f', by go_num, by omega, HST.out, P1.out, P2.out, P3.out, P4.out⟩
            case measure => simp [intOf]; omega
    · as_aux_lemma =>
        go_wp2_with fail
        refine (Take_nil _).mono ?_
        rintro e w7 ⟨rfl, rfl⟩
        go_wp2_with fail
        refine (Move_nil _).mono ?_
        rintro e w7 ⟨rfl, rfl⟩
        go_wp2_with fail
        refine (commit_nil _).mono ?_
        rintro e w7 ⟨rfl, rfl⟩
        go_wp2_with fail
        refine (give_nil _ _).mono ?_
        rintro e w7 ⟨rfl, rfl⟩
        go_wp2_with fail
        refine (mark_nil _ _).mono ?_
        rintro e w7 ⟨rfl, rfl⟩
        go_wp2_with fail
        refine (len_nil _).mono ?_
        rintro e w7 ⟨rfl, rfl⟩
        go_wp2_with fail
        refine (free_nil _).mono ?_
        rintro e w7 ⟨rfl, rfl⟩
        go_wp2_with fail
        refine (room_nil _).mono ?_
        rintro e w7 ⟨rfl, rfl⟩
        go_wp2_with fail
        refine (waits_nil _).mono ?_
        rintro e w7 ⟨rfl, rfl⟩
        go_wp2_with fail
        refine (used_nil _).mono ?_
        rintro e w7 ⟨rfl, rfl⟩
        go_wp2
        exact HR.out _ _ ⟨rfl, Same.below J4.out⟩
end Go.Proofs.Yteommjbbjdbhkaa
