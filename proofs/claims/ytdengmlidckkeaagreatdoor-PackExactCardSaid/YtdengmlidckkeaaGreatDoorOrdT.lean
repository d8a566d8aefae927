import Derived.Test.YtdengmlidckkeaaGreatDoorOrdS
set_option linter.unusedSimpArgs false
set_option linter.unusedVariables false
namespace Go.Proofs.YtdengmlidckkeaaGreatDoor
open Go Go.RowKit
set_option maxRecDepth 10000 in
set_option maxHeartbeats 4000000 in
theorem order_some (b : Nat) (h6 : 6 ≤ b) (k : Nat) (hk : k < 15) (st : Rd) (hw : (rdNext st).1 = wordL k) (w : World) (hL : LibOK w) (h : RdS w b st) : Calls Tryz.prog 42 #[bptr b] w fun e w' => e = .returned (ordW (rdKind k (rdNext st).2).1) ∧ RdS w' b (rdKind k (rdNext st).2).2 ∧ Mod (At b) w w' := by
  refine opq fun R HR => ?_
  have HX := Lib.hid (next_any b st w h)
  rw [hw] at HX
  have K0 := Lib.hid hL
  clear h hL hw
  generalize (rdNext st).2 = st2 at *
  rcases kinds15 hk with rfl | rfl | rfl | rfl | rfl | rfl | rfl | rfl | rfl | rfl | rfl | rfl | rfl | rfl | rfl
  · have HX2 := Lib.hid (show Calls Tryz.prog 69 #[bptr b] w fun e w' => e = .returned (.string ⟨#[99, 114, 101, 97, 116, 101]⟩) ∧ RdS w' b st2 ∧ Mod (At b) w w' from HX.out)
    clear HX
    go_enter Tryz.func42, Tryz.ntmps42
    go_wp2_with fail
    refine HX2.out.mono ?_
    rintro e w1 ⟨rfl, h1, M1⟩
    have J1 := Lib.hid h1
    have K1 := Lib.hid (K0.out.mod M1 (fun i q => by have : i = b := q; omega))
    have T1 := Lib.hid M1
    clear h1 M1 HX2 K0
    go_wp2_with fail
    refine (volume_any b h6 0 (by decide) st2 _ K1.out J1.out).mono ?_
    rintro e w2 ⟨rfl, h2, M2⟩
    have J2 := Lib.hid h2
    have T2 := Lib.hid (T1.out.trans M2)
    clear h2 M2 J1 K1 T1
    go_wp2
    exact HR.out _ _ ⟨rfl, J2.out, T2.out⟩
  · have HX2 := Lib.hid (show Calls Tryz.prog 69 #[bptr b] w fun e w' => e = .returned (.string ⟨#[100, 101, 108, 101, 116, 101]⟩) ∧ RdS w' b st2 ∧ Mod (At b) w w' from HX.out)
    clear HX
    go_enter Tryz.func42, Tryz.ntmps42
    go_wp2_with fail
    refine HX2.out.mono ?_
    rintro e w1 ⟨rfl, h1, M1⟩
    have J1 := Lib.hid h1
    have K1 := Lib.hid (K0.out.mod M1 (fun i q => by have : i = b := q; omega))
    have T1 := Lib.hid M1
    clear h1 M1 HX2 K0
    go_wp2_with fail
    refine (volume_any b h6 1 (by decide) st2 _ K1.out J1.out).mono ?_
    rintro e w2 ⟨rfl, h2, M2⟩
    have J2 := Lib.hid h2
    have T2 := Lib.hid (T1.out.trans M2)
    clear h2 M2 J1 K1 T1
    go_wp2
    exact HR.out _ _ ⟨rfl, J2.out, T2.out⟩
  · have HX2 := Lib.hid (show Calls Tryz.prog 69 #[bptr b] w fun e w' => e = .returned (.string ⟨#[115, 110, 97, 112]⟩) ∧ RdS w' b st2 ∧ Mod (At b) w w' from HX.out)
    clear HX
    go_enter Tryz.func42, Tryz.ntmps42
    go_wp2_with fail
    refine HX2.out.mono ?_
    rintro e w1 ⟨rfl, h1, M1⟩
    have J1 := Lib.hid h1
    have K1 := Lib.hid (K0.out.mod M1 (fun i q => by have : i = b := q; omega))
    have T1 := Lib.hid M1
    clear h1 M1 HX2 K0
    go_wp2_with fail
    refine (volume_any b h6 2 (by decide) st2 _ K1.out J1.out).mono ?_
    rintro e w2 ⟨rfl, h2, M2⟩
    have J2 := Lib.hid h2
    have T2 := Lib.hid (T1.out.trans M2)
    clear h2 M2 J1 K1 T1
    go_wp2
    exact HR.out _ _ ⟨rfl, J2.out, T2.out⟩
  · have HX2 := Lib.hid (show Calls Tryz.prog 69 #[bptr b] w fun e w' => e = .returned (.string ⟨#[114, 101, 115, 105, 122, 101]⟩) ∧ RdS w' b st2 ∧ Mod (At b) w w' from HX.out)
    clear HX
    go_enter Tryz.func42, Tryz.ntmps42
    go_wp2_with fail
    refine HX2.out.mono ?_
    rintro e w1 ⟨rfl, h1, M1⟩
    have J1 := Lib.hid h1
    have K1 := Lib.hid (K0.out.mod M1 (fun i q => by have : i = b := q; omega))
    have T1 := Lib.hid M1
    clear h1 M1 HX2 K0
    go_wp2_with fail
    refine (volume_any b h6 3 (by decide) st2 _ K1.out J1.out).mono ?_
    rintro e w2 ⟨rfl, h2, M2⟩
    have J2 := Lib.hid h2
    have T2 := Lib.hid (T1.out.trans M2)
    clear h2 M2 J1 K1 T1
    go_wp2
    exact HR.out _ _ ⟨rfl, J2.out, T2.out⟩
  · have HX2 := Lib.hid (show Calls Tryz.prog 69 #[bptr b] w fun e w' => e = .returned (.string ⟨#[112, 105, 110]⟩) ∧ RdS w' b st2 ∧ Mod (At b) w w' from HX.out)
    clear HX
    go_enter Tryz.func42, Tryz.ntmps42
    go_wp2_with fail
    refine HX2.out.mono ?_
    rintro e w1 ⟨rfl, h1, M1⟩
    have J1 := Lib.hid h1
    have K1 := Lib.hid (K0.out.mod M1 (fun i q => by have : i = b := q; omega))
    have T1 := Lib.hid M1
    clear h1 M1 HX2 K0
    go_wp2_with fail
    refine (volume_any b h6 4 (by decide) st2 _ K1.out J1.out).mono ?_
    rintro e w2 ⟨rfl, h2, M2⟩
    have J2 := Lib.hid h2
    have T2 := Lib.hid (T1.out.trans M2)
    clear h2 M2 J1 K1 T1
    go_wp2
    exact HR.out _ _ ⟨rfl, J2.out, T2.out⟩
  · have HX2 := Lib.hid (show Calls Tryz.prog 69 #[bptr b] w fun e w' => e = .returned (.string ⟨#[102, 114, 101, 101]⟩) ∧ RdS w' b st2 ∧ Mod (At b) w w' from HX.out)
    clear HX
    go_enter Tryz.func42, Tryz.ntmps42
    go_wp2_with fail
    refine HX2.out.mono ?_
    rintro e w1 ⟨rfl, h1, M1⟩
    have J1 := Lib.hid h1
    have K1 := Lib.hid (K0.out.mod M1 (fun i q => by have : i = b := q; omega))
    have T1 := Lib.hid M1
    clear h1 M1 HX2 K0
    go_wp2_with fail
    refine (volume_any b h6 5 (by decide) st2 _ K1.out J1.out).mono ?_
    rintro e w2 ⟨rfl, h2, M2⟩
    have J2 := Lib.hid h2
    have T2 := Lib.hid (T1.out.trans M2)
    clear h2 M2 J1 K1 T1
    go_wp2
    exact HR.out _ _ ⟨rfl, J2.out, T2.out⟩
  · have HX2 := Lib.hid (show Calls Tryz.prog 69 #[bptr b] w fun e w' => e = .returned (.string ⟨#[114, 101, 97, 100]⟩) ∧ RdS w' b st2 ∧ Mod (At b) w w' from HX.out)
    clear HX
    go_enter Tryz.func42, Tryz.ntmps42
    go_wp2_with fail
    refine HX2.out.mono ?_
    rintro e w1 ⟨rfl, h1, M1⟩
    have J1 := Lib.hid h1
    have K1 := Lib.hid (K0.out.mod M1 (fun i q => by have : i = b := q; omega))
    have T1 := Lib.hid M1
    clear h1 M1 HX2 K0
    go_wp2_with fail
    refine (sectors_any b h6 6 (by decide) st2 _ K1.out J1.out).mono ?_
    rintro e w2 ⟨rfl, h2, M2⟩
    have J2 := Lib.hid h2
    have T2 := Lib.hid (T1.out.trans M2)
    clear h2 M2 J1 K1 T1
    go_wp2
    exact HR.out _ _ ⟨rfl, J2.out, T2.out⟩
  · have HX2 := Lib.hid (show Calls Tryz.prog 69 #[bptr b] w fun e w' => e = .returned (.string ⟨#[119, 114, 105, 116, 101]⟩) ∧ RdS w' b st2 ∧ Mod (At b) w w' from HX.out)
    clear HX
    go_enter Tryz.func42, Tryz.ntmps42
    go_wp2_with fail
    refine HX2.out.mono ?_
    rintro e w1 ⟨rfl, h1, M1⟩
    have J1 := Lib.hid h1
    have K1 := Lib.hid (K0.out.mod M1 (fun i q => by have : i = b := q; omega))
    have T1 := Lib.hid M1
    clear h1 M1 HX2 K0
    go_wp2_with fail
    refine (sectors_any b h6 7 (by decide) st2 _ K1.out J1.out).mono ?_
    rintro e w2 ⟨rfl, h2, M2⟩
    have J2 := Lib.hid h2
    have T2 := Lib.hid (T1.out.trans M2)
    clear h2 M2 J1 K1 T1
    go_wp2
    exact HR.out _ _ ⟨rfl, J2.out, T2.out⟩
  · have HX2 := Lib.hid (show Calls Tryz.prog 69 #[bptr b] w fun e w' => e = .returned (.string ⟨#[100, 105, 115, 99, 97, 114, 100]⟩) ∧ RdS w' b st2 ∧ Mod (At b) w w' from HX.out)
    clear HX
    go_enter Tryz.func42, Tryz.ntmps42
    go_wp2_with fail
    refine HX2.out.mono ?_
    rintro e w1 ⟨rfl, h1, M1⟩
    have J1 := Lib.hid h1
    have K1 := Lib.hid (K0.out.mod M1 (fun i q => by have : i = b := q; omega))
    have T1 := Lib.hid M1
    clear h1 M1 HX2 K0
    go_wp2_with fail
    refine (sectors_any b h6 8 (by decide) st2 _ K1.out J1.out).mono ?_
    rintro e w2 ⟨rfl, h2, M2⟩
    have J2 := Lib.hid h2
    have T2 := Lib.hid (T1.out.trans M2)
    clear h2 M2 J1 K1 T1
    go_wp2
    exact HR.out _ _ ⟨rfl, J2.out, T2.out⟩
  · have HX2 := Lib.hid (show Calls Tryz.prog 69 #[bptr b] w fun e w' => e = .returned (.string ⟨#[102, 108, 117, 115, 104]⟩) ∧ RdS w' b st2 ∧ Mod (At b) w w' from HX.out)
    clear HX
    go_enter Tryz.func42, Tryz.ntmps42
    go_wp2_with fail
    refine HX2.out.mono ?_
    rintro e w1 ⟨rfl, h1, M1⟩
    have J1 := Lib.hid h1
    have K1 := Lib.hid (K0.out.mod M1 (fun i q => by have : i = b := q; omega))
    have T1 := Lib.hid M1
    clear h1 M1 HX2 K0
    go_wp2
    exact HR.out _ _ ⟨rfl, J1.out, T1.out⟩
  · have HX2 := Lib.hid (show Calls Tryz.prog 69 #[bptr b] w fun e w' => e = .returned (.string ⟨#[116, 105, 99, 107]⟩) ∧ RdS w' b st2 ∧ Mod (At b) w w' from HX.out)
    clear HX
    go_enter Tryz.func42, Tryz.ntmps42
    go_wp2_with fail
    refine HX2.out.mono ?_
    rintro e w1 ⟨rfl, h1, M1⟩
    have J1 := Lib.hid h1
    have K1 := Lib.hid (K0.out.mod M1 (fun i q => by have : i = b := q; omega))
    have T1 := Lib.hid M1
    clear h1 M1 HX2 K0
    go_wp2_with fail
    refine (rnum_any b h6 st2 _ K1.out J1.out).mono ?_
    rintro e w2 ⟨rfl, h2, M2⟩
    have J2 := Lib.hid h2
    have T2 := Lib.hid (T1.out.trans M2)
    clear h2 M2 J1 K1 T1
    go_wp2
    exact HR.out _ _ ⟨rfl, J2.out, T2.out⟩
  · have HX2 := Lib.hid (show Calls Tryz.prog 69 #[bptr b] w fun e w' => e = .returned (.string ⟨#[100, 101, 99, 97, 121]⟩) ∧ RdS w' b st2 ∧ Mod (At b) w w' from HX.out)
    clear HX
    go_enter Tryz.func42, Tryz.ntmps42
    go_wp2_with fail
    refine HX2.out.mono ?_
    rintro e w1 ⟨rfl, h1, M1⟩
    have J1 := Lib.hid h1
    have K1 := Lib.hid (K0.out.mod M1 (fun i q => by have : i = b := q; omega))
    have T1 := Lib.hid M1
    clear h1 M1 HX2 K0
    go_wp2
    exact HR.out _ _ ⟨rfl, J1.out, T1.out⟩
  · have HX2 := Lib.hid (show Calls Tryz.prog 69 #[bptr b] w fun e w' => e = .returned (.string ⟨#[115, 116, 97, 116, 117, 115]⟩) ∧ RdS w' b st2 ∧ Mod (At b) w w' from HX.out)
    clear HX
    go_enter Tryz.func42, Tryz.ntmps42
    go_wp2_with fail
    refine HX2.out.mono ?_
    rintro e w1 ⟨rfl, h1, M1⟩
    have J1 := Lib.hid h1
    have K1 := Lib.hid (K0.out.mod M1 (fun i q => by have : i = b := q; omega))
    have T1 := Lib.hid M1
    clear h1 M1 HX2 K0
    go_wp2
    exact HR.out _ _ ⟨rfl, J1.out, T1.out⟩
  · have HX2 := Lib.hid (show Calls Tryz.prog 69 #[bptr b] w fun e w' => e = .returned (.string ⟨#[102, 117, 115, 101]⟩) ∧ RdS w' b st2 ∧ Mod (At b) w w' from HX.out)
    clear HX
    go_enter Tryz.func42, Tryz.ntmps42
    go_wp2_with fail
    refine HX2.out.mono ?_
    rintro e w1 ⟨rfl, h1, M1⟩
    have J1 := Lib.hid h1
    have K1 := Lib.hid (K0.out.mod M1 (fun i q => by have : i = b := q; omega))
    have T1 := Lib.hid M1
    clear h1 M1 HX2 K0
    go_wp2_with fail
    refine (rnum_any b h6 st2 _ K1.out J1.out).mono ?_
    rintro e w2 ⟨rfl, h2, M2⟩
    have J2 := Lib.hid h2
    have T2 := Lib.hid (T1.out.trans M2)
    clear h2 M2 J1 K1 T1
    go_wp2
    exact HR.out _ _ ⟨rfl, J2.out, T2.out⟩
  · have HX2 := Lib.hid (show Calls Tryz.prog 69 #[bptr b] w fun e w' => e = .returned (.string ⟨#[99, 114, 97, 115, 104]⟩) ∧ RdS w' b st2 ∧ Mod (At b) w w' from HX.out)
    clear HX
    go_enter Tryz.func42, Tryz.ntmps42
    go_wp2_with fail
    refine HX2.out.mono ?_
    rintro e w1 ⟨rfl, h1, M1⟩
    have J1 := Lib.hid h1
    have K1 := Lib.hid (K0.out.mod M1 (fun i q => by have : i = b := q; omega))
    have T1 := Lib.hid M1
    clear h1 M1 HX2 K0
    go_wp2_with fail
    refine (crash_any b h6 14 (by decide) st2 _ K1.out J1.out).mono ?_
    rintro e w2 ⟨rfl, h2, M2⟩
    have J2 := Lib.hid h2
    have T2 := Lib.hid (T1.out.trans M2)
    clear h2 M2 J1 K1 T1
    go_wp2
    exact HR.out _ _ ⟨rfl, J2.out, T2.out⟩
set_option maxRecDepth 10000 in
theorem order_none (b : Nat) (st : Rd) (hw : kindOf (rdNext st).1 = none) (w : World) (h : RdS w b st) : Calls Tryz.prog 42 #[bptr b] w fun e w' => e = .returned .nilIface ∧ RdS w' b (rdNext st).2 ∧ Mod (At b) w w' := by
  refine opq fun R HR => ?_
  have HX := Lib.hid (next_any b st w h)
  have hn := kind_none hw
  clear h hw
  generalize (rdNext st).2 = st2 at *
  generalize (rdNext st).1 = s at *
  have key : ∀ k, k < 15 → (s == wordL k) = false := fun k hk => by
    have := hn k hk
    rw [beq_eq_false_iff_ne] at this ⊢
    exact fun e => this e.symm
  have b0 : (s == [99, 114, 101, 97, 116, 101]) = false := key 0 (by decide)
  have b1 : (s == [100, 101, 108, 101, 116, 101]) = false := key 1 (by decide)
  have b2 : (s == [115, 110, 97, 112]) = false := key 2 (by decide)
  have b3 : (s == [114, 101, 115, 105, 122, 101]) = false := key 3 (by decide)
  have b4 : (s == [112, 105, 110]) = false := key 4 (by decide)
  have b5 : (s == [102, 114, 101, 101]) = false := key 5 (by decide)
  have b6 : (s == [114, 101, 97, 100]) = false := key 6 (by decide)
  have b7 : (s == [119, 114, 105, 116, 101]) = false := key 7 (by decide)
  have b8 : (s == [100, 105, 115, 99, 97, 114, 100]) = false := key 8 (by decide)
  have b9 : (s == [102, 108, 117, 115, 104]) = false := key 9 (by decide)
  have b10 : (s == [116, 105, 99, 107]) = false := key 10 (by decide)
  have b11 : (s == [100, 101, 99, 97, 121]) = false := key 11 (by decide)
  have b12 : (s == [115, 116, 97, 116, 117, 115]) = false := key 12 (by decide)
  have b13 : (s == [102, 117, 115, 101]) = false := key 13 (by decide)
  have b14 : (s == [99, 114, 97, 115, 104]) = false := key 14 (by decide)
  clear key hn
  unfold strV at HX
  go_enter Tryz.func42, Tryz.ntmps42
  go_wp2_with fail
  refine HX.out.mono ?_
  rintro e w1 ⟨rfl, h1, M1⟩
  have J1 := Lib.hid h1
  have T1 := Lib.hid M1
  clear h1 M1 HX
  go_wp2
  exact HR.out _ _ ⟨rfl, J1.out, T1.out⟩
end Go.Proofs.YtdengmlidckkeaaGreatDoor
