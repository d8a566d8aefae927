import Derived.Test.YteommjbbjdbhkaaRankD
set_option linter.unusedSimpArgs false
set_option linter.unusedVariables false
namespace Go.Proofs.Yteommjbbjdbhkaa
open Go Go.RowKit
set_option maxHeartbeats 2000000 in
theorem up_any (a : Option Addr) (cap : Nat) (L : List It) (pick : Int) (w : World) (hl : L.length ≤ 1000) (hI : Its w a L) (hw : Wf L) :
    Calls Try.prog 31 #[.slice a L.length cap, .int .i64 pick] w fun e w' => e = .returned (.int .i64 (upC L pick)) ∧ Same w w' := by
  refine opq fun R HR => ?_
  have H1 := Lib.hid (some_none 42 slowP a cap L w hl hI (fun _ _ => by kernel_rfl) (fun x _ wz _ => up1_any x.c x.h x.t x.p x.b wz))
  have hsl : (L.filter slowP).length ≤ 1000 := Nat.le_trans (List.length_filter_le _ _) hl
  have hsw := hw.filter slowP
  unfold upC at HR
  generalize L.filter slowP = S at *
  go_enter Try.func31, Try.ntmps31
  go_wp2_with fail
  refine H1.out.mono ?_
  rintro e w1 ⟨a1, c1, rfl, hi1, M1⟩
  have H2 := Lib.hid (some_none 43 (·.p) a1 c1 S w1 hsl hi1 (fun _ _ => by kernel_rfl) (fun x _ wz _ => up2_any x.c x.h x.t x.p x.b wz))
  have hpl : (S.filter (·.p)).length ≤ 1000 := Nat.le_trans (List.length_filter_le _ _) hsl
  have J1 := Lib.hid hi1
  have J2 := Lib.hid M1
  clear hi1 M1 H1
  generalize hP : S.filter (·.p) = Pn at *
  clear hP
  go_wp2_with fail
  refine H2.out.mono ?_
  rintro e w2 ⟨a2, c2, rfl, hi2, M2⟩
  have J3 := Lib.hid hi2
  have J4 := Lib.hid (J2.out.same M2)
  have J5 := Lib.hid (J1.out.same M2)
  clear hi2 M2 J1 J2 H2
  by_cases hp0 : Pn.length = 0
  · rw [if_pos hp0] at HR
    obtain ⟨n, hn⟩ : ∃ n, S.length = n := ⟨_, rfl⟩
    have HN := Lib.hid hn
    have hn1000 : n ≤ 1000 := by omega
    rw [hp0, hn]
    clear hn
    go_wp2_with fail
    go_loopw [22, 7, 9] (fun i m _ wr => ∃ k : Nat, k ≤ n ∧ i = .int .i64 k ∧ m = .int .i64 (maxL (S.take k)) ∧ Same w2 wr) (fun i _ _ _ => n - (intOf i).toNat)
    case atStart => exact ⟨0, by omega, rfl, rfl, Mod.refl _ _⟩
    case round =>
      obtain ⟨k, hk, rfl, rfl, M⟩ := hrel
      have J6 := Lib.hid M
      clear M
      by_cases hlt : k < n
      · have hkL : k < S.length := by rw [HN.out]; exact hlt
        obtain ⟨b1, o1, rfl, hb1, hc1⟩ := (J5.out.same J6.out) (by omega)
        obtain ⟨x, hx⟩ : ∃ x, S[k]? = some x := ⟨_, List.getElem?_eq_getElem hkL⟩
        obtain ⟨e0, e1, e2, e3, e4⟩ := hc1 k x hx
        have htk : S.take (k + 1) = S.take k ++ [x] := by rw [List.take_add_one, hx]; rfl
        have hmx : maxL (S.take (k + 1)) = max (maxL (S.take k)) (lev x.h) := by rw [htk, maxL_snoc]
        have HM := Lib.hid hmx
        have HL := Lib.hid (fun wz => level_any x.h wz (hsw x (List.mem_of_getElem? hx)))
        have J7 := Lib.hid (J6.out.alloc (.cells #[.int .i64 x.c, .int .i64 x.h, .int .i64 x.t, .bool x.p, .bool x.b] 53))
        clear hc1 hx htk hmx
        generalize maxL (S.take k) = m at *
        generalize lev x.h = v at *
        go_wp2_with (go_at_call 27; refine (HL.out _).mono ?_; rintro e w5 ⟨rfl, rfl⟩)
        go_roundw
        case rel => exact ⟨k + 1, by omega, by go_num, by rw [HM.out], J7.out⟩
        case measure => simp [intOf]; omega
      · obtain rfl : k = n := by omega
        have hall : S.take k = S := List.take_of_length_le (by rw [HN.out]; exact Nat.le_refl _)
        rw [hall]
        have hlv := Lib.hid (fun (wz : World) (hz : Its wz a1 S) => levels_any a1 c1 S (maxL S) wz hsl hz hsw)
        have hmb := maxL_bd S
        rw [HN.out] at hlv
        generalize maxL S = m at *
        have hll : (levL S m).length ≤ 1000 := Nat.le_trans (List.length_filter_le _ _) hsl
        by_cases hm2 : m < 2
        · rw [if_pos hm2] at HR
          go_wp2
          exact HR.out _ _ ⟨rfl, J4.out.same J6.out⟩
        · rw [if_neg hm2] at HR
          go_wp2_with fail
          refine (hlv.out _ (J5.out.same J6.out)).mono ?_
          rintro e w7 ⟨a7, c7, rfl, hi7, M7⟩
          have HPK := Lib.hid (picked_any a7 c7 (levL S m) pick w7 hll hi7)
          have J8 := Lib.hid ((J4.out.same J6.out).same M7)
          clear hi7 M7
          generalize pickC (levL S m) pick = r at *
          generalize (levL S m).length = lq at *
          go_wp2_with fail
          refine HPK.out.mono ?_
          rintro e w8 ⟨rfl, rfl⟩
          go_wp2
          exact HR.out _ _ ⟨rfl, J8.out⟩
  · rw [if_neg hp0] at HR
    have HPK := Lib.hid (picked_any a2 c2 Pn pick w2 hpl J3.out)
    generalize pickC Pn pick = r at *
    generalize Pn.length = lq at *
    have hq : (0 : Int) < (lq : Int) := by omega
    go_wp2_with fail
    refine HPK.out.mono ?_
    rintro e w8 ⟨rfl, rfl⟩
    go_wp2
    exact HR.out _ _ ⟨rfl, J4.out⟩
end Go.Proofs.Yteommjbbjdbhkaa
