import Derived.Test.YteommjbbjdbhkaaRankE
set_option linter.unusedSimpArgs false
set_option linter.unusedVariables false
namespace Go.Proofs.Yteommjbbjdbhkaa
open Go Go.RowKit
set_option maxHeartbeats 2000000 in
theorem down_any (a : Option Addr) (cap : Nat) (L : List It) (pick : Int) (w : World) (hl : L.length ≤ 1000) (hI : Its w a L) (hw : Wf L) :
    Calls Try.prog 33 #[.slice a L.length cap, .int .i64 pick] w fun e w' => e = .returned (.int .i64 (downC L pick)) ∧ Same w w' := by
  refine opq fun R HR => ?_
  have H1 := Lib.hid (some_none 48 fastP a cap L w hl hI (fun _ _ => by kernel_rfl) (fun x _ wz _ => down1_any x.c x.h x.t x.p x.b wz))
  have hsl : (L.filter fastP).length ≤ 1000 := Nat.le_trans (List.length_filter_le _ _) hl
  have hsw := hw.filter fastP
  unfold downC at HR
  generalize L.filter fastP = S at *
  go_enter Try.func33, Try.ntmps33
  go_wp2_with fail
  refine H1.out.mono ?_
  rintro e w1 ⟨a1, c1, rfl, hi1, M1⟩
  have J5 := Lib.hid hi1
  have J4 := Lib.hid M1
  clear hi1 M1 H1
  obtain ⟨n, hn⟩ : ∃ n, S.length = n := ⟨_, rfl⟩
  have HN := Lib.hid hn
  have hn1000 : n ≤ 1000 := by omega
  rw [hn]
  clear hn
  go_wp2_with fail
  go_loopw [13, 6, 8] (fun i m _ wr => ∃ k : Nat, k ≤ n ∧ i = .int .i64 k ∧ m = .int .i64 (minL (S.take k)) ∧ Same w1 wr) (fun i _ _ _ => n - (intOf i).toNat)
  case atStart => exact ⟨0, by omega, rfl, rfl, Mod.refl _ _⟩
  case round =>
    obtain ⟨k, hk, rfl, rfl, M⟩ := hrel
    have J6 := Lib.hid M
    clear M
    by_cases hlt : k < n
    · have hkL : k < S.length := by rw [HN.out]; exact hlt
      obtain ⟨b1, o1, rfl, hb1, hc1⟩ := (J5.out.same J6.out) (by omega)
      obtain ⟨x, hx⟩ : ∃ x, S[k]? = some x := ⟨_, List.getElem?_eq_getElem hkL⟩
      obtain ⟨e0, e1, e2, e3, e4⟩ := hc1 k x hx
      have htk : S.take (k + 1) = S.take k ++ [x] := by rw [List.take_add_one, hx]; rfl
      have hmx : minL (S.take (k + 1)) = min (minL (S.take k)) (lev x.h) := by rw [htk, minL_snoc]
      have HM := Lib.hid hmx
      have HL := Lib.hid (fun wz => level_any x.h wz (hsw x (List.mem_of_getElem? hx)))
      have J7 := Lib.hid (J6.out.alloc (.cells #[.int .i64 x.c, .int .i64 x.h, .int .i64 x.t, .bool x.p, .bool x.b] 53))
      clear hc1 hx htk hmx
      generalize minL (S.take k) = m at *
      generalize lev x.h = v at *
      go_wp2_with (go_at_call 27; refine (HL.out _).mono ?_; rintro e w5 ⟨rfl, rfl⟩)
      go_roundw
      case rel => exact ⟨k + 1, by omega, by go_num, by rw [HM.out], J7.out⟩
      case measure => simp [intOf]; omega
    · obtain rfl : k = n := by omega
      have hall : S.take k = S := List.take_of_length_le (by rw [HN.out]; exact Nat.le_refl _)
      rw [hall]
      have hlv := Lib.hid (fun (wz : World) (hz : Its wz a1 S) => levels_any a1 c1 S (minL S) wz hsl hz hsw)
      rw [HN.out] at hlv
      generalize minL S = m at *
      have hll : (levL S m).length ≤ 1000 := Nat.le_trans (List.length_filter_le _ _) hsl
      go_wp2_with fail
      refine (hlv.out _ (J5.out.same J6.out)).mono ?_
      rintro e w7 ⟨a7, c7, rfl, hi7, M7⟩
      have HPK := Lib.hid (picked_any a7 c7 (levL S m) pick w7 hll hi7)
      have J8 := Lib.hid ((J4.out.same J6.out).same M7)
      clear hi7 M7
      generalize pickC (levL S m) pick = r at *
      generalize (levL S m).length = lq at *
      go_wp2_with fail
      refine HPK.out.mono ?_
      rintro e w8 ⟨rfl, rfl⟩
      go_wp2
      exact HR.out _ _ ⟨rfl, J8.out⟩
end Go.Proofs.Yteommjbbjdbhkaa
