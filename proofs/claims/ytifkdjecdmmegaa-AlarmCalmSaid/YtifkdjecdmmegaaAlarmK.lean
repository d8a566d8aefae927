import Derived.Test.YtifkdjecdmmegaaAlarmH
set_option linter.unusedSimpArgs false
set_option linter.unusedVariables false
namespace Go.Proofs.Ytifkdjecdmmegaa
open Go Go.RowKit
theorem u64wrap_nn (n : Int) : 0 ≤ IntKind.u64.wrap n ∧ IntKind.u64.wrap n ≤ 18446744073709551615 := by
  unfold IntKind.wrap; simp [IntKind.bits, IntKind.signed]; omega
theorem utmodA (n k : Int) (hk : 0 < k) (hk2 : k ≤ 9223372036854775807) : 0 ≤ wrap64 ((IntKind.u64.wrap n).tmod k) ∧ wrap64 ((IntKind.u64.wrap n).tmod k) < k := by
  have h := u64wrap_nn n
  rw [Int.tmod_eq_emod_of_nonneg h.1]
  have h1 := Int.emod_nonneg (IntKind.u64.wrap n) (by omega : k ≠ 0)
  have h2 := Int.emod_lt_of_pos (IntKind.u64.wrap n) hk
  unfold wrap64; omega
theorem nextA_calm (w n s : Int) (h0 : 0 ≤ s ∧ s ≤ 2) : nextA w 100 0 s n 100 = nextA w 100 0 0 n 100 := by
  unfold nextA
  simp only [Int.sub_zero]
  by_cases h1 : atF n 100 100 = true <;> by_cases h2 : atF n 100 w = true <;> simp [h1, h2]
theorem nextA_stay (w b n : Int) (hw : w ≤ 99) (h1 : w - b ≤ n) (h2 : n ≤ w) : nextA w 100 b 1 n 100 = 1 := by
  unfold nextA atF; simp; omega
theorem nextA_first (w b : Int) (hw : w ≤ 99) : nextA w 100 b 0 w 100 = 1 := by
  unfold nextA atF; simp; omega
theorem nextA_fall (w b : Int) (hw : w ≤ 99) (hb : 0 ≤ b) : nextA w 100 b 1 (w - b - 1) 100 = 0 := by
  unfold nextA atF; simp; omega
theorem clF_in (n : Int) (h : 0 ≤ n) (h2 : n ≤ 100) : clF n = n := by unfold clF; omega
set_option maxRecDepth 100000 in
set_option maxHeartbeats 4000000 in
theorem alarmCalm_walk (warn back : Int) (a1 : Option Addr) (l1 c1 : Nat) (w : World) (hl1 : l1 ≤ 9223372036854775807) (h1 : Ints w a1 l1) :
    Calls Try.prog 8 #[.int .i64 warn, .int .i64 back, .slice a1 l1 c1] w fun e w' => e = .returned (.bool true) ∧ Below w.heap.size w w' := by
  refine opq fun R HR => ?_
  have H1 := Lib.hid h1
  clear h1
  by_cases hlen : 60 < l1
  · go_enter Try.func8, Try.ntmps8
    go_wp2_with fail
    refine (aawake_any _).mono ?_
    rintro e w1 ⟨rfl, hb⟩
    have J := Lib.hid hb
    clear hb
    go_wp2
    exact HR.out _ _ ⟨rfl, Same.below J.out⟩
  · obtain ⟨W1, hW⟩ : ∃ W1, wrap64 (1 + wrap64 ((IntKind.u64.wrap warn).tmod 99)) = W1 := ⟨_, rfl⟩
    have hWb : 1 ≤ W1 ∧ W1 ≤ 99 := by
      have := utmodA warn 99 (by omega) (by omega)
      rw [← hW]; generalize wrap64 ((IntKind.u64.wrap warn).tmod 99) = q at *; unfold wrap64; omega
    obtain ⟨B1, hB1⟩ : ∃ B1, wrap64 ((IntKind.u64.wrap back).tmod (W1 + 1)) = B1 := ⟨_, rfl⟩
    have hBb : 0 ≤ B1 ∧ B1 ≤ W1 := by
      have := utmodA back (W1 + 1) (by omega) (by omega)
      rw [← hB1]; omega
    have hgi : goodI W1 100 B1 := by unfold goodI; omega
    have HG := Lib.hid hgi
    have hg : goodB W1 100 B1 = true := by unfold goodB; rw [decide_eq_true_eq]; exact hgi
    have HG' := Lib.hid hg
    clear hgi hg
    go_enter Try.func8, Try.ntmps8
    go_wp2_with fail
    refine (aawake_any _).mono ?_
    rintro e w1 ⟨rfl, M⟩
    go_wp2_with fail
    rw [hW, hB1]
    clear hW hB1
    refine (new_good _ _ _ _ HG'.out).mono ?_
    rintro e w2 ⟨g, rfl, hgg, hB, M2⟩
    have hgw : w.heap.size ≤ g := by have := M.size; omega
    replace M := M.same M2
    clear M2 hgg HG'
    go_wp2_with fail
    refine (tell_any g _ _ _ _ _ _ _ _ hB HG.out (by omega) (by omega)).mono ?_
    rw [clF_in W1 (by omega) (by omega), clF_in 100 (by omega) (by omega), nextA_first _ _ hWb.2, show rungF 0 1 0 = 1 from rfl]
    rintro e w3 ⟨rfl, hB3, M3⟩
    replace M : Same w w3 := M.then_ M3 (fun i h1 h2 => by omega)
    clear hB M3
    go_wp2_with fail
    go_loopw [12] (fun i wr => ∃ k : Nat, i = .int .i64 k ∧ k ≤ l1 ∧ Blk wr g (alc W1 100 B1 1 1) ∧ Same w wr) (fun i _ => l1 - (intOf i).toNat)
    case atStart => exact ⟨0, rfl, by omega, hB3, M⟩
    case round =>
      clear hB3 M
      obtain ⟨k, rfl, hk, hB, M⟩ := hrel
      by_cases hlt : k < l1
      · obtain ⟨b1, o1, rfl, hb1, hc1⟩ := H1.out (by omega)
        obtain ⟨u, hu, _⟩ := hc1 k hlt
        clear hc1
        rw [← M.cell hb1 (fun q => q)] at hu
        obtain ⟨Q, hQ⟩ : ∃ Q, wrap64 ((IntKind.u64.wrap u).tmod (B1 + 1)) = Q := ⟨_, rfl⟩
        have hQb : 0 ≤ Q ∧ Q ≤ B1 := by
          have := utmodA u (B1 + 1) (by omega) (by omega)
          rw [← hQ]; omega
        have J1 := Lib.hid hB
        have J2 := Lib.hid M
        clear hB M
        go_wp2_with fail
        rw [hQ]
        clear hQ
        refine (tell_any g _ _ _ _ _ _ _ _ J1.out HG.out (by omega) (by omega)).mono ?_
        rw [clF_in (W1 - Q) (by omega) (by omega), clF_in 100 (by omega) (by omega), nextA_stay _ _ _ hWb.2 (by omega) (by omega), show rungF 1 1 1 = 1 from rfl]
        rintro e w4 ⟨rfl, hB4, M4⟩
        have J3 := Lib.hid hB4
        have J4 := Lib.hid (J2.out.then_ M4 (fun i h1 h2 => by omega))
        clear hB4 M4 hu
        go_wp2_with (go_at_call 26; refine (rung_any _ _ _ _ _ _ _ J3.out).mono ?_; rintro e w5 ⟨rfl, rfl⟩)
        go_roundw
        case rel => exact ⟨k + 1, by go_num, by omega, J3.out, J4.out⟩
        case measure => simp [intOf]; omega
      · have J1 := Lib.hid hB
        have J2 := Lib.hid M
        clear hB M
        have hgi0 : goodI W1 100 0 := by unfold goodI; omega
        have HGI0 := Lib.hid hgi0
        have hg0 : goodB W1 100 0 = true := by unfold goodB; rw [decide_eq_true_eq]; exact hgi0
        have HG0 := Lib.hid hg0
        clear hgi0 hg0
        by_cases hpos : 0 < W1 - B1
        · go_wp2_with fail
          refine (tell_any g _ _ _ _ _ _ _ _ J1.out HG.out (by omega) (by omega)).mono ?_
          rw [clF_in (W1 - B1 - 1) (by omega) (by omega), clF_in 100 (by omega) (by omega), nextA_fall _ _ hWb.2 hBb.1, show rungF 1 0 1 = 1 from rfl]
          rintro e w4 ⟨rfl, hB4, M4⟩
          have J4 := Lib.hid (J2.out.then_ M4 (fun i h1 h2 => by omega))
          clear hB4 M4 J2
          go_wp2_with fail
          refine (new_good _ _ _ _ HG0.out).mono ?_
          rintro e w5 ⟨gx, rfl, hgx, hBx, Mx⟩
          have hgxw : w.heap.size ≤ gx := by have := J4.out.size; omega
          have M : Same w w5 := J4.out.same Mx
          clear Mx hgx J4
          go_wp2_with fail
          go_loopw [19] (fun i wr => ∃ (s r : Int) (k : Nat), i = .int .i64 k ∧ 0 ≤ s ∧ s ≤ 2 ∧ 0 ≤ r ∧ r ≤ k ∧ k ≤ l1 ∧ Blk wr gx (alc W1 100 0 s r) ∧ Same w wr) (fun i _ => l1 - (intOf i).toNat)
          case atStart => exact ⟨0, 0, 0, rfl, by omega, by omega, by omega, by omega, by omega, hBx, M⟩
          case round =>
            clear hBx M
            obtain ⟨s, r, k, rfl, hs0, hs2, hr0, hrk, hk, hB, M⟩ := hrel
            by_cases hlt : k < l1
            · obtain ⟨b1, o1, rfl, hb1, hc1⟩ := H1.out (by omega)
              obtain ⟨u, hu, _⟩ := hc1 k hlt
              clear hc1
              rw [← M.cell hb1 (fun q => q)] at hu
              obtain ⟨Q, hQ⟩ : ∃ Q, wrap64 ((IntKind.u64.wrap u).tmod 101) = Q := ⟨_, rfl⟩
              have hQb : 0 ≤ Q ∧ Q ≤ 100 := by
                have := utmodA u 101 (by omega) (by omega)
                rw [← hQ]; omega
              have J1 := Lib.hid hB
              have J2 := Lib.hid M
              clear hB M
              go_wp2_with fail
              rw [hQ]
              clear hQ hu
              refine (new_good _ _ _ _ HG0.out).mono ?_
              rintro e w6 ⟨gy, rfl, hgy, hBy, My⟩
              have hxy : ¬ gx = gy := by have := J1.out.lt; omega
              have hgyw : w.heap.size ≤ gy := by have := J2.out.size; omega
              have J3 := Lib.hid (J2.out.same My)
              have J5 := Lib.hid (J1.out.mod My (fun q => q))
              have J6 := Lib.hid hBy
              clear hBy My J1 J2 hgy
              go_wp2_with fail
              refine (tell_any gx _ _ _ _ _ _ _ _ J5.out HGI0.out (by omega) (by omega)).mono ?_
              have hn := nextA_bd W1 100 0 s Q 100
              have HE := Lib.hid (nextA_calm W1 Q s ⟨hs0, hs2⟩)
              rw [clF_in Q (by omega) (by omega), clF_in 100 (by omega) (by omega)]
              rintro e w7 ⟨rfl, hB7, M7⟩
              have J7 := Lib.hid hB7
              have J8 := Lib.hid (J6.out.mod M7 (fun q => hxy q.symm))
              have J9 := Lib.hid (J3.out.then_ M7 (fun i h1 h2 => by omega))
              clear J3 J5 J6 hB7 M7
              go_wp2_with fail
              refine (tell_any gy _ _ _ _ _ _ _ _ J8.out HGI0.out (by omega) (by omega)).mono ?_
              rw [clF_in Q (by omega) (by omega), clF_in 100 (by omega) (by omega), ← HE.out]
              generalize nextA W1 100 0 s Q 100 = n at *
              have hrr : 0 ≤ rungF s n r ∧ rungF s n r ≤ k + 1 := by unfold rungF; split <;> omega
              generalize rungF s n r = r' at *
              rintro e w8 ⟨rfl, hB8, M8⟩
              have J10 := Lib.hid (J7.out.mod M8 hxy)
              have J11 := Lib.hid (J9.out.then_ M8 (fun i h1 h2 => by omega))
              clear J7 J8 J9 hB8 M8 HE
              go_wp2_with (go_at_call 28; refine (state_any _ _ _ _ _ _ _ J10.out).mono ?_; rintro e w9 ⟨rfl, rfl⟩)
              go_roundw
              case rel => exact ⟨n, r', k + 1, by go_num, hn.1, hn.2, hrr.1, by omega, by omega, J10.out, J11.out⟩
              case measure => simp [intOf]; omega
            · have J1 := Lib.hid M
              clear hB M
              go_wp2
              exact HR.out _ _ ⟨rfl, Same.below J1.out⟩
        · go_wp2_with fail
          have J4 := J2
          refine (new_good _ _ _ _ HG0.out).mono ?_
          rintro e w5 ⟨gx, rfl, hgx, hBx, Mx⟩
          have hgxw : w.heap.size ≤ gx := by have := J4.out.size; omega
          have M : Same w w5 := J4.out.same Mx
          clear Mx hgx J4
          go_wp2_with fail
          go_loopw [19] (fun i wr => ∃ (s r : Int) (k : Nat), i = .int .i64 k ∧ 0 ≤ s ∧ s ≤ 2 ∧ 0 ≤ r ∧ r ≤ k ∧ k ≤ l1 ∧ Blk wr gx (alc W1 100 0 s r) ∧ Same w wr) (fun i _ => l1 - (intOf i).toNat)
          case atStart => exact ⟨0, 0, 0, rfl, by omega, by omega, by omega, by omega, by omega, hBx, M⟩
          case round =>
            clear hBx M
            obtain ⟨s, r, k, rfl, hs0, hs2, hr0, hrk, hk, hB, M⟩ := hrel
            by_cases hlt : k < l1
            · obtain ⟨b1, o1, rfl, hb1, hc1⟩ := H1.out (by omega)
              obtain ⟨u, hu, _⟩ := hc1 k hlt
              clear hc1
              rw [← M.cell hb1 (fun q => q)] at hu
              obtain ⟨Q, hQ⟩ : ∃ Q, wrap64 ((IntKind.u64.wrap u).tmod 101) = Q := ⟨_, rfl⟩
              have hQb : 0 ≤ Q ∧ Q ≤ 100 := by
                have := utmodA u 101 (by omega) (by omega)
                rw [← hQ]; omega
              have J1 := Lib.hid hB
              have J2 := Lib.hid M
              clear hB M
              go_wp2_with fail
              rw [hQ]
              clear hQ hu
              refine (new_good _ _ _ _ HG0.out).mono ?_
              rintro e w6 ⟨gy, rfl, hgy, hBy, My⟩
              have hxy : ¬ gx = gy := by have := J1.out.lt; omega
              have hgyw : w.heap.size ≤ gy := by have := J2.out.size; omega
              have J3 := Lib.hid (J2.out.same My)
              have J5 := Lib.hid (J1.out.mod My (fun q => q))
              have J6 := Lib.hid hBy
              clear hBy My J1 J2 hgy
              go_wp2_with fail
              refine (tell_any gx _ _ _ _ _ _ _ _ J5.out HGI0.out (by omega) (by omega)).mono ?_
              have hn := nextA_bd W1 100 0 s Q 100
              have HE := Lib.hid (nextA_calm W1 Q s ⟨hs0, hs2⟩)
              rw [clF_in Q (by omega) (by omega), clF_in 100 (by omega) (by omega)]
              rintro e w7 ⟨rfl, hB7, M7⟩
              have J7 := Lib.hid hB7
              have J8 := Lib.hid (J6.out.mod M7 (fun q => hxy q.symm))
              have J9 := Lib.hid (J3.out.then_ M7 (fun i h1 h2 => by omega))
              clear J3 J5 J6 hB7 M7
              go_wp2_with fail
              refine (tell_any gy _ _ _ _ _ _ _ _ J8.out HGI0.out (by omega) (by omega)).mono ?_
              rw [clF_in Q (by omega) (by omega), clF_in 100 (by omega) (by omega), ← HE.out]
              generalize nextA W1 100 0 s Q 100 = n at *
              have hrr : 0 ≤ rungF s n r ∧ rungF s n r ≤ k + 1 := by unfold rungF; split <;> omega
              generalize rungF s n r = r' at *
              rintro e w8 ⟨rfl, hB8, M8⟩
              have J10 := Lib.hid (J7.out.mod M8 hxy)
              have J11 := Lib.hid (J9.out.then_ M8 (fun i h1 h2 => by omega))
              clear J7 J8 J9 hB8 M8 HE
              go_wp2_with (go_at_call 28; refine (state_any _ _ _ _ _ _ _ J10.out).mono ?_; rintro e w9 ⟨rfl, rfl⟩)
              go_roundw
              case rel => exact ⟨n, r', k + 1, by go_num, hn.1, hn.2, hrr.1, by omega, by omega, J10.out, J11.out⟩
              case measure => simp [intOf]; omega
            · have J1 := Lib.hid M
              clear hB M
              go_wp2
              exact HR.out _ _ ⟨rfl, Same.below J1.out⟩
end Go.Proofs.Ytifkdjecdmmegaa
