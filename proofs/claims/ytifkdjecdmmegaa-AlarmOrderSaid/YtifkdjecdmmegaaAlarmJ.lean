import Derived.Test.YtifkdjecdmmegaaAlarmH
set_option linter.unusedSimpArgs false
set_option linter.unusedVariables false
namespace Go.Proofs.Ytifkdjecdmmegaa
open Go Go.RowKit
theorem atF_mono {u u' a m : Int} (h : u ≤ u') (hx : atF u a m = true) : atF u' a m = true := by
  unfold atF at *; rw [decide_eq_true_eq] at *; omega
theorem nextA_mono (w f b st a : Int) {u u' : Int} (h : u ≤ u') : nextA w f b st u a ≤ nextA w f b st u' a := by
  unfold nextA
  by_cases h1 : atF u a f = true ∨ (st = 2 ∧ atF u a (f-b) = true)
  · have h2 : atF u' a f = true ∨ (st = 2 ∧ atF u' a (f-b) = true) := h1.imp (atF_mono h) (fun q => ⟨q.1, atF_mono h q.2⟩)
    rw [if_pos h1, if_pos h2]; exact Int.le_refl _
  · rw [if_neg h1]
    by_cases h3 : atF u a w = true ∨ (st ≠ 0 ∧ atF u a (w - b) = true)
    · have h4 : atF u' a w = true ∨ (st ≠ 0 ∧ atF u' a (w - b) = true) := h3.imp (atF_mono h) (fun q => ⟨q.1, atF_mono h q.2⟩)
      rw [if_pos h3, if_pos h4]; split <;> omega
    · rw [if_neg h3]; split <;> (try split) <;> omega
theorem rungF_mono {st n n' r : Int} (h : n ≤ n') : rungF st n r ≤ rungF st n' r := by unfold rungF; split <;> split <;> omega
theorem clF_mono {a b : Int} (h : a ≤ b) : clF a ≤ clF b := by unfold clF; omega
set_option maxRecDepth 100000 in
set_option maxHeartbeats 4000000 in
theorem alarmOrder_good (wm fm bk : Int) (a1 : Option Addr) (l1 c1 : Nat) (x y z : Int) (w : World) (hl1 : l1 ≤ 9223372036854775807) (h1 : Ints w a1 l1) (hg : goodB wm fm bk = true) :
    Calls Try.prog 6 #[.agg #[.int .i64 wm, .int .i64 fm, .int .i64 bk], .slice a1 l1 c1, .int .i64 x, .int .i64 y, .int .i64 z] w fun e w' => e = .returned (.bool true) ∧ Below w.heap.size w w' := by
  refine opq fun R HR => ?_
  have hgi := Lib.hid (goodI_of hg)
  have HG := Lib.hid hg
  have H1 := Lib.hid h1
  clear hg h1
  go_enter Try.func6, Try.ntmps6
  go_wp2_with fail
  refine (aawake_any _).mono ?_
  rintro e w1 ⟨rfl, hb⟩
  have hx := (Blk.new w #[.int .i64 wm, .int .i64 fm, .int .i64 bk] 39).mod hb (fun q => q)
  have M := ((Mod.refl (fun _ => False) w).alloc _).same hb
  clear hb
  have hxc := hx.cell
  go_wp2_with fail
  refine (new_good _ _ _ _ HG.out).mono ?_
  rintro e w2 ⟨g, rfl, hgg, hB, M2⟩
  have hgw : w.heap.size < g := by have := hx.lt; omega
  clear hgg
  replace hx := hx.mod M2 (fun q => q)
  replace M := M.same M2
  clear M2 hxc
  have hxc := hx.cell
  go_wp2_with fail
  refine (new_good _ _ _ _ HG.out).mono ?_
  rintro e w3 ⟨g', rfl, hgg, hB', M2⟩
  have hgw' : g < g' := by have := hB.lt; omega
  clear hgg
  replace hB := hB.mod M2 (fun q => q)
  replace M := M.same M2
  clear M2 hxc hx
  have hne : ¬ g' = g := by omega
  have hne' : ¬ g = g' := by omega
  go_wp2_with fail
  go_loopw [13] (fun i wr => ∃ (s r : Int) (k : Nat), i = .int .i64 k ∧ 0 ≤ s ∧ s ≤ 2 ∧ 0 ≤ r ∧ r ≤ k ∧ k ≤ 30 ∧ Blk wr g (alc wm fm bk s r) ∧ Blk wr g' (alc wm fm bk s r) ∧ Same w wr) (fun i _ => 30 - (intOf i).toNat)
  case atStart => exact ⟨0, 0, 0, rfl, by omega, by omega, by omega, by omega, by omega, hB, hB', M⟩
  case round =>
    clear hB hB' M
    obtain ⟨s, r, k, rfl, hs0, hs2, hr0, hrk, hk, hB, hB', M⟩ := hrel
    by_cases hlt : k < l1 ∧ k < 30
    · obtain ⟨k1, k3⟩ := hlt
      obtain ⟨b1, o1, rfl, hb1, hc1⟩ := H1.out (by omega)
      obtain ⟨u, hu, _⟩ := hc1 k k1
      clear hc1
      rw [← M.cell hb1 (fun q => q)] at hu
      have hk30 : ((k : Int) < 30) := by omega
      have hb1w : b1 < wr.heap.size := Nat.lt_of_lt_of_le hb1 M.size
      go_wp2_with fail
      refine (tell_any g _ _ _ _ _ _ _ _ hB hgi.out ⟨hs0, hs2⟩ (by omega)).mono ?_
      have HT := fun (wz : World) (hz : Blk wz g' (alc wm fm bk s r)) => tell_any g' wm fm bk s r u 100 wz hz hgi.out ⟨hs0, hs2⟩ (by omega)
      have hn := nextA_bd wm fm bk s (clF u) (clF 100)
      generalize nextA wm fm bk s (clF u) (clF 100) = n at *
      have HT' := Lib.hid HT
      clear HT
      rintro e w4 ⟨rfl, hB4, M4⟩
      have hu4 := (M4.cell hb1w (by omega) (o1 + k)).trans hu
      replace hB' := hB'.mod M4 hne
      have hM4 : Same w w4 := M.then_ M4 (fun i h1 h2 => by omega)
      clear hu M M4 hB
      go_wp2_with fail
      refine (HT'.out _ hB').mono ?_
      rintro e w5 ⟨rfl, hB5, M5⟩
      replace hB4 := hB4.mod M5 hne'
      have hM5 : Same w w5 := hM4.then_ M5 (fun i h1 h2 => by omega)
      clear M5 hM4 hu4 hB'
      have hrr : 0 ≤ rungF s n r ∧ rungF s n r ≤ k + 1 := by unfold rungF; split <;> omega
      generalize rungF s n r = r' at *
      have J1 := Lib.hid hB4
      have J2 := Lib.hid hB5
      have J3 := Lib.hid hM5
      clear hB4 hB5 hM5
      go_wp2
      go_roundw
      case rel => exact ⟨n, r', k + 1, by go_num, hn.1, hn.2, hrr.1, by omega, by omega, J1.out, J2.out, J3.out⟩
      case measure => simp [intOf]; omega
    · clear H1
      rcases Int.lt_trichotomy x y with hxy | hxy | hxy
      all_goals
        first
        | (have hm := nextA_mono wm fm bk s (clF z) (clF_mono (Int.le_of_lt hxy)))
        | (subst hxy; have hm := nextA_mono wm fm bk s (clF z) (Int.le_refl (clF x)))
        have hr := rungF_mono (st := s) (r := r) hm
        have Hm := Lib.hid hm
        have Hr := Lib.hid hr
        clear hm hr
        go_wp2_with fail
        all_goals
          refine (tell_any g _ _ _ _ _ _ _ _ hB hgi.out ⟨hs0, hs2⟩ (by omega)).mono ?_
          rintro e w4 ⟨rfl, hB4, M4⟩
          replace hB' := hB'.mod M4 hne
          have hM4 : Same w w4 := M.then_ M4 (fun i h1 h2 => by omega)
          clear M M4 hB
          go_wp2_with fail
          refine (tell_any g' _ _ _ _ _ _ _ _ hB' hgi.out ⟨hs0, hs2⟩ (by omega)).mono ?_
          rintro e w5 ⟨rfl, hB5, M5⟩
          replace hB4 := hB4.mod M5 hne'
          have hM5 : Same w w5 := hM4.then_ M5 (fun i h1 h2 => by omega)
          have J1 := Lib.hid hB4
          have J2 := Lib.hid hB5
          have J3 := Lib.hid hM5
          clear hB4 hB5 hM5 M5 hM4 hB'
          have Hm' := Hm.out
          have Hr' := Hr.out
          go_wp2_with (first | (go_at_call_of 26 (ptr g); refine (rung_any _ _ _ _ _ _ _ J1.out).mono ?_; rintro e w5 ⟨rfl, rfl⟩) | (go_at_call_of 26 (ptr g'); refine (rung_any _ _ _ _ _ _ _ J2.out).mono ?_; rintro e w5 ⟨rfl, rfl⟩))
          exact HR.out _ _ ⟨rfl, Same.below J3.out⟩
theorem alarmOrder_bad (wm fm bk : Int) (a1 : Option Addr) (l1 c1 : Nat) (x y z : Int) (w : World) (hg : goodB wm fm bk = false) :
    Calls Try.prog 6 #[.agg #[.int .i64 wm, .int .i64 fm, .int .i64 bk], .slice a1 l1 c1, .int .i64 x, .int .i64 y, .int .i64 z] w fun e w' => e = .returned (.bool true) ∧ Below w.heap.size w w' := by
  refine opq fun R HR => ?_
  have HG := Lib.hid hg
  clear hg
  go_enter Try.func6, Try.ntmps6
  go_wp2_with fail
  refine (aawake_any _).mono ?_
  rintro e w1 ⟨rfl, hb⟩
  have hx := (Blk.new w #[.int .i64 wm, .int .i64 fm, .int .i64 bk] 39).mod hb (fun q => q)
  have M := ((Mod.refl (fun _ => False) w).alloc _).same hb
  clear hb
  have hxc := hx.cell
  go_wp2_with fail
  refine (new_bad _ _ _ _ HG.out).mono ?_
  rintro e w2 ⟨rfl, M2⟩
  replace hx := hx.mod M2 (fun q => q)
  replace M := M.same M2
  clear M2 hxc
  have hxc := hx.cell
  go_wp2_with fail
  refine (new_bad _ _ _ _ HG.out).mono ?_
  rintro e w3 ⟨rfl, M2⟩
  replace hx := hx.mod M2 (fun q => q)
  replace M := M.same M2
  clear M2 hxc
  have hxc := hx.cell
  go_wp2_with fail
  refine (good_any _ _ _ _).mono ?_
  rintro e w4 ⟨rfl, M2⟩
  rw [HG.out]
  replace M := M.same M2
  clear M2 hxc hx
  have J := Lib.hid M
  clear M
  go_wp2
  exact HR.out _ _ ⟨rfl, Same.below J.out⟩
end Go.Proofs.Ytifkdjecdmmegaa
