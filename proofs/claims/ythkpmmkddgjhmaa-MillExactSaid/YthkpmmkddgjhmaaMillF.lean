import Derived.Test.YthkpmmkddgjhmaaMillE
set_option linter.unusedSimpArgs false
set_option linter.unusedVariables false
namespace Go.Proofs.Ythkpmmkddgjhmaa
open Go Go.RowKit
set_option maxRecDepth 10000 in
set_option maxHeartbeats 8000000 in
theorem order_any (k : Nat) (z : Int) (hz : z = k) (hk : k < 15) (M D : Nat) (sz s : Int) (w : World) (h : MS w M D sz s) (hs : U64 s) (hzz : 1 ≤ sz ∧ sz ≤ 8) :
    Calls Try.prog 14 #[dptr M, .int .i64 z] w (Mills w D (IsKind k)) := by
  refine opq fun R HR => ?_
  have H := Lib.hid h
  have hcm := h.m.cell
  have HT := Lib.hid (dbelow_any D s 4 w h.d hs (by omega))
  have hu := belS_u 4 s hs
  have hb := belV_bd 4 s
  generalize belV 4 s = v at *
  generalize belS 4 s = t at *
  have e4 : IntKind.i64.wrap (1 + v) = 1 + v := IntWalk.i64_in _ (by omega)
  clear h hs
  go_enter Try.func14, Try.ntmps14
  go_wp2_with fail
  refine HT.out.mono ?_
  rintro e w1 ⟨rfl, h1, M1⟩
  have J1 := Lib.hid (H.out.next h1 M1)
  have J2 := Lib.hid M1
  clear h1 M1 HT H hcm
  have HB := Lib.hid (fun n (hn : -9223372036854775808 ≤ n ∧ n ≤ 9223372036854775807) => dbelow_any D t n w1 J1.out.d hu hn)
  have HU := Lib.hid (fun n => belS_u n t hu)
  have HV := Lib.hid (fun (hk : k < 6) id => volume_any k z hz hk M D sz t id w1 J1.out hu)
  have HG := Lib.hid (fun (hk : 6 ≤ k ∧ k ≤ 8) id => ranged_any k z hz hk M D sz t id w1 J1.out hu hzz)
  have HC := Lib.hid (crash_any M D sz t w1 J1.out hu)
  have hcm := J1.out.m.cell
  have hk1 : k = 0 ∨ k = 1 ∨ k = 2 ∨ k = 3 ∨ k = 4 ∨ k = 5 ∨ k = 6 ∨ k = 7 ∨ k = 8 ∨ k = 9 ∨ k = 10 ∨ k = 11 ∨ k = 12 ∨ k = 13 ∨ k = 14 := by omega
  have hk' : (z = 0 ∧ k = 0) ∨ (z = 1 ∧ k = 1) ∨ (z = 2 ∧ k = 2) ∨ (z = 3 ∧ k = 3) ∨ (z = 4 ∧ k = 4) ∨ (z = 5 ∧ k = 5) ∨ (z = 6 ∧ k = 6) ∨ (z = 7 ∧ k = 7) ∨ (z = 8 ∧ k = 8) ∨ (z = 9 ∧ k = 9) ∨ (z = 10 ∧ k = 10) ∨ (z = 11 ∧ k = 11) ∨ (z = 12 ∧ k = 12) ∨ (z = 13 ∧ k = 13) ∨ (z = 14 ∧ k = 14) := by
    rcases hk1 with rfl | rfl | rfl | rfl | rfl | rfl | rfl | rfl | rfl | rfl | rfl | rfl | rfl | rfl | rfl <;> simp [hz]
  clear hk1
  clear hk hz
  rcases hk' with ⟨rfl, rfl⟩ | ⟨rfl, rfl⟩ | ⟨rfl, rfl⟩ | ⟨rfl, rfl⟩ | ⟨rfl, rfl⟩ | ⟨rfl, rfl⟩ | ⟨rfl, rfl⟩ | ⟨rfl, rfl⟩ | ⟨rfl, rfl⟩ | ⟨rfl, rfl⟩ | ⟨rfl, rfl⟩ | ⟨rfl, rfl⟩ | ⟨rfl, rfl⟩ | ⟨rfl, rfl⟩ | ⟨rfl, rfl⟩
  all_goals
    go_wp2_with (first
      | (go_at_call 21; refine (HB.out _ (by decide)).mono ?_; rintro e w2 ⟨rfl, h1, M1⟩; have K1 := Lib.hid h1; have K2 := Lib.hid (J2.out.trans M1); clear h1 M1)
      | (go_at_call 24; refine (HV.out (by decide) _).mono ?_; rintro e w2 ⟨_, t2, rfl, hq, hu2, h1, M1⟩; have K1 := Lib.hid h1; have K2 := Lib.hid (J2.out.trans M1); have KQ := Lib.hid hq; clear h1 M1 hq)
      | (go_at_call 22; refine (HG.out (by decide) _).mono ?_; rintro e w2 ⟨_, t2, rfl, hq, hu2, h1, M1⟩; have K1 := Lib.hid h1; have K2 := Lib.hid (J2.out.trans M1); have KQ := Lib.hid hq; clear h1 M1 hq)
      | (go_at_call 23; refine HC.out.mono ?_; rintro e w2 ⟨_, t2, rfl, hq, hu2, h1, M1⟩; have K1 := Lib.hid h1; have K2 := Lib.hid (J2.out.trans M1); have KQ := Lib.hid hq; clear h1 M1 hq))
    first
    | exact HR.out _ _ ⟨_, _, rfl, KQ.out, hu2, K1.out, K2.out⟩
    | exact HR.out _ _ ⟨_, _, rfl, ⟨_, rfl⟩, HU.out _, K1.out, K2.out⟩
    | exact HR.out _ _ ⟨_, _, rfl, ⟨_, rfl⟩, hu, J1.out.d, J2.out⟩
end Go.Proofs.Ythkpmmkddgjhmaa
