import Derived.Test.YtifkdjecdmmegaaDiceC
set_option linter.unusedSimpArgs false
set_option linter.unusedVariables false
namespace Go.Proofs.Ytifkdjecdmmegaa
open Go Go.RowKit
set_option maxHeartbeats 4000000 in
theorem rdshuffle_any (D : Nat) (s : Int) (m : Nat) (w : World) (h : DS w D s) (hs : U64 s) (hm : 1 ≤ m ∧ m ≤ 1000) :
    Calls Try.prog 40 #[dptr D, .int .i64 m] w (Shuffled w D m (shRun (m - 1) (iotaF, s)).1 (shRun (m - 1) (iotaF, s)).2) := by
  refine opq fun R HR => ?_
  have H := Lib.hid h
  have HM : D < w.heap.size := h.lt
  clear h
  obtain ⟨hm1, hm2⟩ := hm
  obtain ⟨i0, hi, hz0, hz1, hz2⟩ := info_parts info3
  have HI := Lib.hid hi
  have HZ0 := Lib.hid hz0
  have HZ1 := Lib.hid hz1
  have HZ2 := Lib.hid hz2
  clear hi hz0 hz1 hz2
  go_enter Try.func40, Try.ntmps40
  go_wp2_with fail
  have hne : ¬ w.heap.size = D := by omega
  have HMD := Lib.hid HM
  clear HM
  go_loopw [5, 6] (fun v t wr => ∃ k : Nat, k ≤ m ∧ t = .int .i64 k ∧ wr.ownsRow w.heap.size 3 1 v k ((List.range k).map fun i : Nat => Value.int .i64 (i : Int)) ∧ DS wr D s ∧ Same w wr) (fun _ t _ => m - (intOf t).toNat)
  case atStart => exact ⟨0, by omega, rfl, World.ownsRow_made _ _ _ (Nat.le_refl _) (by unfold maxLen; omega) rfl, H.out.alloc _, (Mod.refl _ _).alloc _⟩
  case round =>
    obtain ⟨k, hk, rfl, hown, hD, M⟩ := hrel
    by_cases hlt : k < m
    · have hk1000 : (k : Int) < 1000 := by omega
      have hsz : w.heap.size ≤ wr.heap.size := M.size
      have J0 := Lib.hid hown
      have J2 := Lib.hid hD
      have J3 := Lib.hid M
      clear hown hD M
      go_wp2_with (at_builtin; refine wpList_append_own _ rfl (.tmp 20) (.tmp 22) 40 rfl w.heap.size 3 i0 (.int .i64 0) 1 8 Try.underlying40 HI.out HZ0.out HZ1.out HZ2.out rfl (by decide) _ _ _ rfl (J0.out.alloc _) ⟨wr.heap.size, 0, none⟩ 1 1 [.int .i64 (k : Int)] rfl rfl (one_new _ _ _) (fun u hu => (by simp at hu; subst hu; rfl)) (by unfold maxLen; omega) (by omega) (by simp only [World.size_alloc]; omega) ?_; intro v' w1 hown' hgrow _)
      have J4 := Lib.hid (same_append J3.out J0.out hgrow)
      have J5 := Lib.hid (blk_append J2.out HMD.out J0.out hgrow)
      have J6 := Lib.hid hown'
      clear hown' hgrow J0 J2 J3
      go_wp2
      go_roundw
      case rel => exact ⟨k + 1, by omega, by go_num, by rw [List.range_succ, List.map_append]; exact J6.out, J5.out, J4.out⟩
      case measure => simp [intOf]; omega
    · obtain rfl : k = m := by omega
      clear hlt hk
      obtain ⟨g, cap, rfl, hbg, hcap, hrow⟩ := RowV.of_owns hown (by omega)
      replace hrow : RowI wr g k iotaF := by
        rw [Nat.mul_one] at hrow
        refine hrow.congr fun i hi => ?_
        rw [List.getD_eq_getElem?_getD, List.getElem?_map, List.getElem?_range hi]; rfl
      have M' : Mod (fun i => i = D) w wr := M.mono (fun i _ q => q.elim)
      have hgD : ¬ g = D := by have := HMD.out; omega
      clear M hown
      go_wp2_with fail
      go_loopw [7, 8, 9] (fun t _ _ wr => ∃ (j : Nat) (f : Nat → Int) (z : Int), j < k ∧ t = .int .i64 j ∧ shRun j (f, z) = shRun (k - 1) (iotaF, s) ∧ U64 z ∧ RowI wr g k f ∧ DS wr D z ∧ Mod (fun i => i = D) w wr) (fun t _ _ _ => (intOf t).toNat)
      case atStart => exact ⟨k - 1, iotaF, s, by omega, by congr 1; omega, rfl, hs, hrow, hD, M'⟩
      case round =>
        clear hrow hD M'
        obtain ⟨j, f, z, hj, rfl, hrun, hz, hrow, hD, M⟩ := hrel
        have HRN := Lib.hid hrun
        clear hrun
        by_cases hj0 : j = 0
        · subst hj0
          have J1 := Lib.hid hrow
          have J2 := Lib.hid hD
          have J3 := Lib.hid M
          clear hrow hD M
          go_wp2
          refine HR.out _ _ ⟨_, _, rfl, fun _ => ⟨_, rfl, hbg, ?_⟩, ?_, J3.out⟩
          · rw [← HRN.out]; exact J1.out
          · rw [← HRN.out]; exact J2.out
        · obtain ⟨j', rfl⟩ : ∃ j', j = j' + 1 := ⟨j - 1, by omega⟩
          have hbd := belV_bd ((j' : Int) + 2) z
          have HT := rdbelow_any D z ((j' : Int) + 2) wr hD hz (by omega)
          have hst := belS_u ((j' : Int) + 2) z hz
          have hss := HRN.out
          rw [shRun_succ] at hss
          generalize belS ((j' : Int) + 2) z = z' at *
          generalize belV ((j' : Int) + 2) z = q' at *
          obtain ⟨q, rfl⟩ : ∃ q : Nat, q' = q := ⟨q'.toNat, by omega⟩
          rw [Int.toNat_natCast] at hss
          have HSS := Lib.hid hss
          have HT' := Lib.hid HT
          have hq : q < j' + 2 := by omega
          clear hss HT HRN hbd
          go_wp2_with fail
          rw [show ((j' : Int) + 1 + 1) = (j' : Int) + 2 from by omega]
          refine HT'.out.mono ?_
          rintro e w5 ⟨rfl, hD5, M5⟩
          replace hrow := hrow.mod M5 hgD
          have M6 : Mod (fun i => i = D) w w5 := M.trans M5
          have hcj := hrow.cell (j' + 1) hj
          have hcq := hrow.cell q (by omega)
          have hfr := hrow.free
          have J1 := Lib.hid hrow
          have J2 := Lib.hid hD5
          have J3 := Lib.hid M6
          clear hrow hD5 M6 M5 M hD HT'
          have hge : g < w.heap.size → g = D := fun h => absurd h (by omega)
          by_cases hqj : q = j' + 1
          · subst hqj
            have J4 := ((J1.out.set (j' + 1) hj (.int .i64 (f (j' + 1)))).set (j' + 1) (by omega) (.int .i64 (f (j' + 1))))
            rw [upd_int, upd_int] at J4
            replace J4 := Lib.hid J4
            go_wp2
            go_roundw
            case rel => exact ⟨j', _, z', by omega, by go_num, HSS.out, hst, J4.out, J2.out.set_far hgD _ |>.set_far hgD _, (J3.out.setCell hge _).setCell hge _⟩
            case measure => simp [intOf]
          · have hqj' : ¬ j' + 1 = q := fun e => hqj e.symm
            have J4 := ((J1.out.set (j' + 1) hj (.int .i64 (f q))).set q (by omega) (.int .i64 (f (j' + 1))))
            rw [upd_int, upd_int] at J4
            replace J4 := Lib.hid J4
            go_wp2
            go_roundw
            case rel => exact ⟨j', _, z', by omega, by go_num, HSS.out, hst, J4.out, J2.out.set_far hgD _ |>.set_far hgD _, (J3.out.setCell hge _).setCell hge _⟩
            case measure => simp [intOf]
end Go.Proofs.Ytifkdjecdmmegaa
