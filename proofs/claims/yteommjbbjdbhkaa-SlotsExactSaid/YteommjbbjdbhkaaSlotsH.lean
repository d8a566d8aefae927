import Derived.Test.YteommjbbjdbhkaaSlotsQ
import Derived.Deep.DeepCutAuto
import Derived.Deep.CutBlock
set_option linter.unusedSimpArgs false
set_option linter.unusedVariables false
namespace Go.Proofs.Yteommjbbjdbhkaa
open Go Go.RowKit
/-- Deeds that came in. -/
def ActsAt (w : World) (a : Option Addr) (len : Nat) : Prop := 0 < len → ∃ b o, a = some ⟨b, o, none⟩ ∧ b < w.heap.size ∧ ∀ i, i < len →
  ∃ (k n : Int), w.cell? ⟨b, o + i * 2, none⟩ = some (.int .i64 k) ∧ w.cell? ⟨b, o + i * 2 + 1, none⟩ = some (.int .i64 n)
theorem SL.set_row {w : World} {P g n u : Nat} {f : Nat → Int} (h : SL w P g n f) (h1 : ¬ u = P) (h2 : ¬ u = g) {i : Nat} (v : Value) : SL (w.setCell ⟨u, i, none⟩ v) P g n f :=
  ⟨h.head.set_far h1 _, h.row.set_far h2 _, h.ne⟩
theorem SL.drewN {w : World} {P g n : Nat} {f : Nat → Int} (h : SL w P g n f) (k : Nat) : SL (w.drewN k) P g n f := ⟨h.head.drewN k, h.row.drewN k, h.ne⟩
set_option maxRecDepth 100000 in
set_option maxHeartbeats 4000000 in
theorem slotsExact_of (n' : Int) (n : Nat) (a1 : Option Addr) (l1 c1 : Nat) (w : World) (hl1 : l1 ≤ 9223372036854775807) (h1 : ActsAt w a1 l1) (hn : n ≤ 20) (hnew : ∀ w, Calls Try.prog 10 #[.int .i64 n'] w (NewSL w n)) (hor : (n' < 0 ∧ n = 0) ∨ n' = n) :
    Calls Try.prog 4 #[.int .i64 n', .slice a1 l1 c1] w fun e w' => e = .returned (.bool true) ∧ Below w.heap.size w w' := by
  refine opq fun R HR => ?_
  have H1 := Lib.hid h1
  have HN := Lib.hid hnew
  clear h1 hnew
  obtain ⟨i0, hi, hz0, hz1, hz2⟩ := info_parts info3
  have hz2' : i0.bytes * n ≤ 281474976710656 := by rw [hz2]; omega
  have hmx : n ≤ maxLen := by unfold maxLen; omega
  have HI := Lib.hid hi
  have HZ0 := Lib.hid hz0
  have HZ1 := Lib.hid hz1
  have HZ2 := Lib.hid hz2'
  clear hi hz0 hz1 hz2 hz2'
  have hn20 : n' ≤ 20 := by omega
  have hite : (if n' < 0 then 0 else n') = (n : Int) := by split <;> omega
  go_enter Try.func4, Try.ntmps4
  go_wp2_with fail
  refine (sawake_any _).mono ?_
  rintro e w1 ⟨rfl, M⟩
  have J1 := Lib.hid M
  clear M
  go_wp2_with fail
  refine (HN.out _).mono ?_
  rintro e w2 ⟨P, g, rfl, hP, hg, hS, M⟩
  have hP' : w.heap.size ≤ P := by have := J1.out.size; omega
  have hg' : w.heap.size ≤ g := by have := J1.out.size; omega
  have J2 := Lib.hid (J1.out.same M)
  have J3 := Lib.hid hS
  clear hS M J1 HN hP hg
  go_wp2_with (at_make; refine wpList_make_full w2 rfl _ _ 22 rfl w2.heap.size 3 i0 (.int .i64 0) 1 Try.underlying22 HI.out HZ0.out HZ1.out .i64 .i64 _ _ _ rfl rfl rfl rfl HZ2.out hmx (Nat.le_refl _) ?_; intro w3 hown hgrow)
  obtain ⟨hr, M⟩ := row_made hown hgrow (made_get _)
  clear hown hgrow
  have hx1 : ¬ w2.heap.size = g := by have := J3.out.row.lt; omega
  have hx2 : ¬ w2.heap.size = P := by have := J3.out.head.lt; omega
  have hx3 : w.heap.size ≤ w2.heap.size := J2.out.size
  have K1 := Lib.hid (J3.out.same M)
  have K2 := Lib.hid (J2.out.same M)
  have K3 := Lib.hid hr
  clear hr M J2 J3
  generalize w2.heap.size = u at *
  have hx3' : ¬ u < w.heap.size := by omega
  go_wp2_with fail
  go_loopw [7] (fun i wr => ∃ (k : Nat) (f : Nat → Int), i = .int .i64 k ∧ k ≤ 100 ∧ SL wr P g n f ∧ RowI wr u n f ∧ Same w wr) (fun i _ => 100 - (intOf i).toNat)
  case atStart => exact ⟨0, z0, rfl, by omega, K1.out, K3.out, K2.out⟩
  case round =>
    clear K1 K2 K3
    obtain ⟨k, f, rfl, hk, hS, hU, M⟩ := hrel
    have J1 := Lib.hid hS
    have J2 := Lib.hid hU
    have J3 := Lib.hid M
    clear hS hU M
    by_cases hlt : k < l1 ∧ k < 100
    · obtain ⟨k1, k2⟩ := hlt
      obtain ⟨b1, o1, rfl, hb1, hc1⟩ := H1.out (by omega)
      obtain ⟨kd, x, e0, e1⟩ := hc1 k k1
      clear hc1
      rw [← J3.out.cell hb1 (fun q => q)] at e0 e1
      have hk100 : ((k : Int) < 100) := by omega
      have hX1 := J1.out.row.lt
      have hX2 := J1.out.head.lt
      have hX3 := J2.out.lt
      have K1 := Lib.hid (J1.out.same ((Mod.refl (fun _ => False) wr).alloc (.cells #[.int .i64 kd, .int .i64 x] 36)))
      have K2 := Lib.hid (J2.out.alloc (.cells #[.int .i64 kd, .int .i64 x] 36))
      have K3 := Lib.hid (J3.out.alloc (.cells #[.int .i64 kd, .int .i64 x] 36))
      have K4 := Lib.hid (Blk.new wr #[.int .i64 kd, .int .i64 x] 36)
      have hXg : ¬ wr.heap.size = g := by omega
      have hXu : ¬ wr.heap.size = u := by omega
      have HL := Lib.hid (fun wz (hz : RowI wz u n f) => rlow_any u n f 0 n wz hz (by omega))
      go_wp2_with fail
      generalize wr.alloc (.cells #[.int .i64 kd, .int .i64 x] 36) = W at *
      generalize wr.heap.size = X at *
      clear J1 J2 J3 e0 e1 hX1 hX2 hX3
      refine (HL.out _ K2.out).mono ?_
      rintro e w4 ⟨rfl, rfl⟩
      have hXc := K4.out.cell
      go_upto_block 2 with fail
      go_cut [9] (fun s9 wx => ∃ f' : Nat → Int, SL wx P g n f' ∧ RowI wx u n f' ∧ Same w wx)
      case first => as_aux_lemma =>
        by_cases hk1 : kd = 1
        · subst hk1
          by_cases hc : (cnt f 0 n : Int) < 2
          · obtain ⟨q1, q2⟩ := takeV_no hc
            have HT := Take_any P g n f W K1.out (by omega)
            rw [q1, q2] at HT
            have HT' := Lib.hid HT
            clear q1 q2 HT
            go_wp2_with fail
            refine HT'.out.mono ?_
            rintro e w5 ⟨rfl, hS5, M5⟩
            have L1 := Lib.hid hS5
            have L2 := Lib.hid (K2.out.mod M5 hx1)
            have L3 := Lib.hid (K3.out.then_ M5 (fun i h1 h2 => by omega))
            have L4 := (K4.out.mod M5 hXg).cell 0
            clear hS5 M5
            have HC := Lib.hid (fun wz (hz : RowI wz u n f) => rcount_any u n f 0 n wz hz (by omega))
            generalize cnt f 0 n = cc at *
            go_wp2_with fail
            go_quiet ((go_at_call 19; exact quiet_eq (HC.out _ (L2.out.drewN _))))
            go_wp2_with fail
            go_meet
            exact ⟨f, L1.out.drewN _, L2.out.drewN _, L3.out.drewN _⟩
          · obtain ⟨j, hj, hlow, hfj, q1, q2⟩ := takeV_ok (least := 2) hc (by omega)
            have HT := Take_any P g n f W K1.out (by omega)
            rw [q1, q2] at HT
            have HT' := Lib.hid HT
            rw [hlow]
            clear q1 q2 HT hlow hfj
            go_wp2_with fail
            refine HT'.out.mono ?_
            rintro e w5 ⟨rfl, hS5, M5⟩
            have L1 := Lib.hid hS5
            have L2 := Lib.hid (K2.out.mod M5 hx1)
            have L3 := Lib.hid (K3.out.then_ M5 (fun i h1 h2 => by omega))
            have L4 := (K4.out.mod M5 hXg).cell 0
            clear hS5 M5
            have HC := Lib.hid (fun wz (hz : RowI wz u n f) => rcount_any u n f 0 n wz hz (by omega))
            generalize cnt f 0 n = cc at *
            go_wp2_with fail
            go_quiet ((go_at_call 19; exact quiet_eq (HC.out _ (L2.out.drewN _))))
            have d1 := (L2.out.drewN nq).cell j hj
            have d2 := (L2.out.drewN nq).free
            have L5 := Lib.hid (RowI.set (L2.out.drewN nq) j hj 1)
            go_wp2_with fail
            go_meet
            exact ⟨upd f j 1, (L1.out.drewN nq).set_row hx2 hx1 _, L5.out, (L3.out.drewN nq).setCell (fun q => absurd q hx3') _⟩
        · by_cases hk2 : kd = 2
          · subst hk2
            by_cases hc : (cnt f 0 n : Int) < 1
            · obtain ⟨q1, q2⟩ := takeV_no hc
              have HT := Move_any P g n f W K1.out (by omega)
              rw [q1, q2] at HT
              have HT' := Lib.hid HT
              clear q1 q2 HT
              go_wp2_with fail
              refine HT'.out.mono ?_
              rintro e w5 ⟨rfl, hS5, M5⟩
              have L1 := Lib.hid hS5
              have L2 := Lib.hid (K2.out.mod M5 hx1)
              have L3 := Lib.hid (K3.out.then_ M5 (fun i h1 h2 => by omega))
              have L4 := (K4.out.mod M5 hXg).cell 0
              clear hS5 M5
              have HC := Lib.hid (fun wz (hz : RowI wz u n f) => rcount_any u n f 0 n wz hz (by omega))
              generalize cnt f 0 n = cc at *
              go_wp2_with fail
              go_quiet ((go_at_call 19; exact quiet_eq (HC.out _ (L2.out.drewN _))))
              go_wp2_with fail
              go_meet
              exact ⟨f, L1.out.drewN _, L2.out.drewN _, L3.out.drewN _⟩
            · obtain ⟨j, hj, hlow, hfj, q1, q2⟩ := takeV_ok (least := 1) hc (by omega)
              have HT := Move_any P g n f W K1.out (by omega)
              rw [q1, q2] at HT
              have HT' := Lib.hid HT
              rw [hlow]
              clear q1 q2 HT hlow hfj
              go_wp2_with fail
              refine HT'.out.mono ?_
              rintro e w5 ⟨rfl, hS5, M5⟩
              have L1 := Lib.hid hS5
              have L2 := Lib.hid (K2.out.mod M5 hx1)
              have L3 := Lib.hid (K3.out.then_ M5 (fun i h1 h2 => by omega))
              have L4 := (K4.out.mod M5 hXg).cell 0
              clear hS5 M5
              have HC := Lib.hid (fun wz (hz : RowI wz u n f) => rcount_any u n f 0 n wz hz (by omega))
              generalize cnt f 0 n = cc at *
              go_wp2_with fail
              go_quiet ((go_at_call 19; exact quiet_eq (HC.out _ (L2.out.drewN _))))
              have d1 := (L2.out.drewN nq).cell j hj
              have d2 := (L2.out.drewN nq).free
              have L5 := Lib.hid (RowI.set (L2.out.drewN nq) j hj 1)
              go_wp2_with fail
              go_meet
              exact ⟨upd f j 1, (L1.out.drewN nq).set_row hx2 hx1 _, L5.out, (L3.out.drewN nq).setCell (fun q => absurd q hx3') _⟩
          · have b1 : (kd == 1) = false := by rw [beq_eq_false_iff_ne]; exact hk1
            have b2 : (kd == 2) = false := by rw [beq_eq_false_iff_ne]; exact hk2
            clear hk1 hk2
            by_cases hk3 : kd = 3
            · have b3 : (kd == 3) = true := by rw [beq_iff_eq]; exact hk3
              clear hk3
              have HG := Lib.hid (fun wz (hz : SL wz P g n f) => give_any P g n f x wz hz (by omega))
              have HG2 := Lib.hid (fun wz (hz : RowI wz u n f) => rgive_any u n f x n wz hz (by omega))
              generalize giveV f n x = v at *
              generalize giveF f n x = f' at *
              go_wp2_with fail
              go_region_held3 (fun w' => w'.cell? ⟨X, 1, none⟩ = some (.int .i64 x)) (first | exact K4.out.cell 1 | assumption | go_keep) ((
                first
                | (go_at_call 11; refine (HG.out _ (K1.out.same (Mod.refl _ W).drew)).mono ?_; rintro e w5 ⟨rfl, hS5, M5⟩; have hU5 := K2.out.drew.mod M5 hx1; have hM5 := K3.out.drew.then_ M5 (fun i h1 h2 => (by omega)); have hX5 := K4.out.drew.mod M5 hXg; have q1 := hX5.cell 1)
                | (go_at_call 20; refine (HG2.out _ hU5).mono ?_; rintro e w6 ⟨rfl, hU6, M6⟩; have hS6 := hS5.mod M6 (fun q => hx2 q.symm) (fun q => hx1 q.symm); have hM6 := hM5.then_ M6 (fun i h1 h2 => (by omega)); have hX6 := hX5.mod M6 hXu; have q2 := hX6.cell 1)))
              have L1 := Lib.hid hS6
              have L2 := Lib.hid hU6
              have L3 := Lib.hid hM6
              clear hS5 hS6 hU5 hU6 hM5 hM6 hX5 hX6 q1 q2 M5 M6
              go_wp2_with fail
              go_meet
              exact ⟨f', L1.out, L2.out, L3.out⟩
            · have b3 : (kd == 3) = false := by rw [beq_eq_false_iff_ne]; exact hk3
              clear hk3
              by_cases hk4 : kd = 4
              · have b4 : (kd == 4) = true := by rw [beq_iff_eq]; exact hk4
                clear hk4
                go_wp2_with fail
                refine (commit_any P g n f _ K1.out (by omega)).mono ?_
                rintro e w5 ⟨rfl, hS5, M5⟩
                have L1 := Lib.hid hS5
                have L2 := Lib.hid (K2.out.mod M5 hx1)
                have L3 := Lib.hid (K3.out.then_ M5 (fun i h1 h2 => by omega))
                clear hS5 M5
                go_wp2_with fail
                refine (rcommit_any u n f n _ L2.out (by omega)).mono ?_
                rintro e w6 ⟨rfl, hU6, M6⟩
                have P1 := Lib.hid (L1.out.mod M6 (fun q => hx2 q.symm) (fun q => hx1 q.symm))
                have P2 := Lib.hid hU6
                have P3 := Lib.hid (L3.out.then_ M6 (fun i h1 h2 => by omega))
                clear hU6 M6
                go_wp2_with fail
                go_meet
                exact ⟨_, P1.out, P2.out, P3.out⟩
              · have b4 : (kd == 4) = false := by rw [beq_eq_false_iff_ne]; exact hk4
                clear hk4
                have HT := mark_any P g n f x W K1.out (by omega)
                by_cases hxr : 0 ≤ x ∧ x < n
                · obtain ⟨j, rfl⟩ : ∃ j : Nat, x = j := ⟨x.toNat, by omega⟩
                  have hj : j < n := by omega
                  have hxr2 : (j : Int) < ((n : Nat) : Int) := by omega
                  unfold markV markF at HT
                  rw [if_pos hxr, if_pos hxr, Int.toNat_natCast] at HT
                  clear hxr
                  by_cases hf0 : f j = 0
                  · rw [if_pos hf0, if_pos hf0] at HT
                    have HT' := Lib.hid HT
                    clear HT
                    go_wp2_with fail
                    refine HT'.out.mono ?_
                    rintro e w5 ⟨rfl, hS5, M5⟩
                    have L1 := Lib.hid hS5
                    have L2 := Lib.hid (K2.out.mod M5 hx1)
                    have L3 := Lib.hid (K3.out.then_ M5 (fun i h1 h2 => by omega))
                    have L4 := (K4.out.mod M5 hXg).cell 1
                    have d1 := L2.out.cell j hj
                    rw [hf0] at d1
                    have d2 := L2.out.free
                    have L5 := Lib.hid (RowI.set L2.out j hj 2)
                    clear hS5 M5 hf0
                    go_wp2_with fail
                    go_meet
                    exact ⟨_, L1.out.set_row hx2 hx1 _, L5.out, L3.out.setCell (fun q => absurd q hx3') _⟩
                  · rw [if_neg hf0, if_neg hf0] at HT
                    have HT' := Lib.hid HT
                    clear HT
                    have bf : (f j != 0) = true := by rw [bne_iff_ne]; exact hf0
                    clear hf0
                    go_wp2_with fail
                    refine HT'.out.mono ?_
                    rintro e w5 ⟨rfl, hS5, M5⟩
                    have L1 := Lib.hid hS5
                    have L2 := Lib.hid (K2.out.mod M5 hx1)
                    have L3 := Lib.hid (K3.out.then_ M5 (fun i h1 h2 => by omega))
                    have L4 := (K4.out.mod M5 hXg).cell 1
                    have d1 := L2.out.cell j hj
                    clear hS5 M5
                    generalize f j = fj at *
                    go_wp2_with fail
                    go_meet
                    exact ⟨_, L1.out, L2.out, L3.out⟩
                · unfold markV markF at HT
                  rw [if_neg hxr, if_neg hxr] at HT
                  have HT' := Lib.hid HT
                  clear HT
                  have hxo : x < 0 ∨ (0 ≤ x ∧ ((n : Nat) : Int) ≤ x) := by omega
                  clear hxr
                  rcases hxo with hxo | ⟨hxo, hxo2⟩
                  all_goals
                    go_wp2_with fail
                    refine HT'.out.mono ?_
                    rintro e w5 ⟨rfl, hS5, M5⟩
                    have L1 := Lib.hid hS5
                    have L2 := Lib.hid (K2.out.mod M5 hx1)
                    have L3 := Lib.hid (K3.out.then_ M5 (fun i h1 h2 => by omega))
                    have L4 := (K4.out.mod M5 hXg).cell 1
                    clear hS5 M5
                    go_wp2_with fail
                    go_meet
                    exact ⟨_, L1.out, L2.out, L3.out⟩
      case rest => as_aux_lemma =>
        obtain ⟨f', hS, hU, hM⟩ := hcut
        clear K1 K2 K3 K4 hXc HL
        have J1 := Lib.hid hS
        have J2 := Lib.hid hU
        have J3 := Lib.hid hM
        clear hS hU hM
        have c1 := Lib.hid (rcount_any u n f' 0 n wc J2.out (by omega))
        have c2 := Lib.hid (len_any P g n f' wc J1.out)
        have c3 := Lib.hid (free_any P g n f' wc J1.out (by omega))
        have c4 := Lib.hid (room_any P g n f' wc J1.out (by omega))
        have c5 := Lib.hid (waits_any P g n f' wc J1.out (by omega))
        have c6 := Lib.hid (rcount_any u n f' 3 n wc J2.out (by omega))
        have hcl := cnt_le f' 0 n
        generalize cnt f' 0 n = cc at *
        generalize cnt f' 3 n = c3' at *
        go_wp2_with fail
        refine c1.out.mono ?_
        rintro e w5 ⟨rfl, rfl⟩
        go_wp2_with fail
        refine c2.out.mono ?_
        rintro e w5 ⟨rfl, rfl⟩
        go_wp2_with fail
        refine c3.out.mono ?_
        rintro e w5 ⟨rfl, rfl⟩
        go_wp2_with fail
        refine c4.out.mono ?_
        rintro e w5 ⟨rfl, rfl⟩
        have hcc : (cc = 0 ∧ max ((cc : Int) - 1) 0 = 0) ∨ ((1 : Int) ≤ cc ∧ max ((cc : Int) - 1) 0 = cc - 1) := by omega
        rcases hcc with ⟨rfl, hmx2⟩ | ⟨hcc, hmx2⟩
        all_goals
          rw [hmx2]
          clear hmx2
          go_wp2_with (first | (go_at_call 16; refine c5.out.mono ?_; rintro e w5 ⟨rfl, rfl⟩) | (go_at_call 19; refine c6.out.mono ?_; rintro e w5 ⟨rfl, rfl⟩) | (go_at_call 15; refine (used_any' P g n f' wc J1.out (by omega)).mono ?_; rintro e w6 ⟨a6, cap6, rfl, hr6, M6⟩; have P1 := Lib.hid (J1.out.same M6); have P2 := Lib.hid (J2.out.mod M6 (fun q => q)); have P3 := Lib.hid (J3.out.same M6); have hle := usedL_le f' n; have HG := Lib.hid (fun z hz hu => usedL_get (f := f') (z := z) (n := n) hz hu); obtain ⟨ul, hul⟩ : ∃ ul, usedL f' n = ul := ⟨_, rfl⟩; rw [hul] at hr6 HG hle; rw [hul]; have HUL := Lib.hid hul; have HR6 := Lib.hid hr6; clear hul M6 hr6 J1 J2 J3 c1 c2 c3 c4 c5 c6))
          go_loop [15, 16] (fun kk j => ∃ z : Nat, z ≤ n ∧ j = .int .i64 z ∧ kk = .int .i64 (usedL f' z).length) (fun _ j => n - (intOf j).toNat)
          case atStart => exact ⟨0, by omega, rfl, rfl⟩
          case round =>
            obtain ⟨z, hz, rfl, rfl⟩ := hrel
            by_cases hzn : z < n
            · have d1 := P2.out.cell z hzn
              have hzi : (z : Int) < ((n : Nat) : Int) := by omega
              have hus := usedL_succ f' z
              have hlz := usedL_le f' z
              by_cases hu : (f' z == 1 || f' z == 2) = true
              · have hg := HG.out z hzn hu
                rw [if_pos hu] at hus
                have hlt2 : (usedL f' z).length < ul.length := (List.getElem?_eq_some_iff.1 hg).1
                obtain ⟨g6, rfl, hg6, hR6⟩ := HR6.out (by omega)
                have d2 := hR6.cell _ hlt2
                simp only [List.getD_eq_getElem?_getD, hg, Option.getD_some] at d2
                have HUS := Lib.hid hus
                clear hus hg hR6
                have hf : f' z = 1 ∨ f' z = 2 := by simpa using hu
                clear hu
                generalize hqq : (usedL f' z).length = q at *
                have HQ := Lib.hid hqq
                clear hqq
                rcases hf with hf | hf
                all_goals
                  rw [hf] at d1
                  clear hf
                  go_wp2
                  go_round
                  case rel => exact ⟨z + 1, by omega, by go_num, by rw [HUS.out, List.length_append, HQ.out]; go_num⟩
                  case measure => simp [intOf]; omega
              · rw [if_neg hu, List.append_nil] at hus
                have HUS := Lib.hid hus
                have f1 : (f' z == 1) = false := by simp only [Bool.or_eq_true, not_or, Bool.not_eq_true] at hu; exact hu.1
                have f2 : (f' z == 2) = false := by simp only [Bool.or_eq_true, not_or, Bool.not_eq_true] at hu; exact hu.2
                clear hus hu
                generalize hqq : (usedL f' z).length = q at *
                have HQ := Lib.hid hqq
                clear hqq
                generalize f' z = fz at *
                go_wp2
                go_round
                case rel => exact ⟨z + 1, by omega, by go_num, by rw [HUS.out, HQ.out]⟩
                case measure => simp [intOf]; omega
            · obtain rfl : z = n := by omega
              rw [HUL.out]
              go_wp2
              go_roundw
              case rel => exact ⟨k + 1, f', by go_num, by omega, P1.out, P2.out, P3.out⟩
              case measure => simp [intOf]; omega
    · go_wp2
      all_goals exact HR.out _ _ ⟨rfl, Same.below J3.out⟩
end Go.Proofs.Yteommjbbjdbhkaa
