import Derived.Test.YtdengmlidckkeaaGreatDoorOrdR
set_option linter.unusedSimpArgs false
set_option linter.unusedVariables false
namespace Go.Proofs.YtdengmlidckkeaaGreatDoor
open Go Go.RowKit
theorem rest_short {st : Rd} (h : ∀ s ∈ st.1, s.length ≤ 50000) : ∀ s ∈ (rdNext st).2.1, s.length ≤ 50000 := by
  obtain ⟨r, b⟩ := st
  cases r with
  | nil => exact fun s hs => by cases hs
  | cons s r => exact fun t ht => h t (by exact List.mem_cons_of_mem _ ht)

set_option maxRecDepth 10000 in
set_option maxHeartbeats 1000000 in
theorem rnum_any (b : Nat) (h6 : 6 ≤ b) (st : Rd) (w : World) (hL : LibOK w) (h : RdS w b st) : Calls Tryz.prog 72 #[bptr b] w fun e w' => e = .returned (.int .i64 (rdNum st).1) ∧ RdS w' b (rdNum st).2 ∧ Mod (At b) w w' := by
  refine opq fun R HR => ?_
  have HL := Lib.hid hL
  have HX := Lib.hid (next_any b st w h)
  have hs := next_short st h.short
  clear h hL
  unfold rdNum at HR
  generalize (rdNext st).1 = s at *
  generalize (rdNext st).2 = st2 at *
  go_enter Tryz.func72, Tryz.ntmps72
  go_wp2_with fail
  refine HX.out.mono ?_
  rintro e w1 ⟨rfl, h1, M1⟩
  have K1 := Lib.hid h1
  have K2 := Lib.hid M1
  have K3 := Lib.hid (HL.out.mod M1 (fun i q => by have : i = b := q; omega))
  clear h1 M1 HX HL

  have HN := Lib.hid (number_any ⟨s.toArray⟩ (by rw [bytes_size]; omega) w1 K3.out.vars)
  unfold num at HR
  generalize numberL ⟨s.toArray⟩ = q at *

  obtain ⟨qv, qb⟩ := q
  dsimp only at HR HN
  unfold strV
  go_wp2_with fail
  refine HN.out.mono ?_
  rintro e w2 ⟨rfl, M2⟩
  have K4 := Lib.hid (K1.out.same M2)
  have K5 := Lib.hid (K2.out.same M2)
  clear M2 HN K1 K2 K3
  have hlt := K4.out.lt
  obtain ⟨a, hb, _⟩ := K4.out.blk
  have hc := hb.cell
  have hf := hb.free
  have KF := Lib.hid K4.out.flag
  obtain ⟨ws, bad⟩ := st2
  dsimp only at *
  clear hb K4
  cases bad <;> cases qb
  all_goals
    go_wp2
    exact HR.out _ _ ⟨rfl, KF.out _, K5.out.setCell (p := ⟨b, 1, none⟩) (fun _ => rfl) _⟩

set_option maxRecDepth 10000 in
set_option maxHeartbeats 1000000 in
theorem rdat_any (b : Nat) (h6 : 6 ≤ b) (st : Rd) (w : World) (hL : LibOK w) (h : RdS w b st) : Calls Tryz.prog 96 #[bptr b] w fun e w' => e = .returned (.string ⟨(rdDat st).1.toArray⟩) ∧ RdS w' b (rdDat st).2 ∧ Mod (At b) w w' := by
  refine opq fun R HR => ?_
  have HL := Lib.hid hL
  have HX := Lib.hid (next_any b st w h)
  have hs := next_short st h.short
  clear h hL
  unfold rdDat at HR
  generalize (rdNext st).1 = s at *
  generalize (rdNext st).2 = st2 at *
  go_enter Tryz.func96, Tryz.ntmps96
  go_wp2_with fail
  refine HX.out.mono ?_
  rintro e w1 ⟨rfl, h1, M1⟩
  have K1 := Lib.hid h1
  have K2 := Lib.hid M1
  have K3 := Lib.hid (HL.out.mod M1 (fun i q => by have : i = b := q; omega))
  clear h1 M1 HX HL

  have HN := Lib.hid (bytes_any s (by omega) w1 K3.out.utf)
  unfold byt at HR
  generalize refBytes s = q at *

  obtain ⟨qv, qb⟩ := q
  dsimp only at HR HN
  unfold strV
  go_wp2_with fail
  refine HN.out.mono ?_
  rintro e w2 ⟨rfl, M2⟩
  have K4 := Lib.hid (K1.out.same M2)
  have K5 := Lib.hid (K2.out.same M2)
  clear M2 HN K1 K2 K3
  have hlt := K4.out.lt
  obtain ⟨a, hb, _⟩ := K4.out.blk
  have hc := hb.cell
  have hf := hb.free
  have KF := Lib.hid K4.out.flag
  obtain ⟨ws, bad⟩ := st2
  dsimp only at *
  clear hb K4
  cases bad <;> cases qb
  all_goals
    go_wp2
    exact HR.out _ _ ⟨rfl, KF.out _, K5.out.setCell (p := ⟨b, 1, none⟩) (fun _ => rfl) _⟩

set_option maxRecDepth 10000 in
set_option maxHeartbeats 2000000 in
theorem volume_any (b : Nat) (h6 : 6 ≤ b) (k : Nat) (hk : k = 0 ∨ k = 1 ∨ k = 2 ∨ k = 3 ∨ k = 4 ∨ k = 5) (st : Rd) (w : World) (hL : LibOK w) (h : RdS w b st) : Calls Tryz.prog 70 #[bptr b, strV (wordL k)] w fun e w' => e = .returned (ordW (rdKind k st).1) ∧ RdS w' b (rdKind k st).2 ∧ Mod (At b) w w' := by
  refine opq fun R HR => ?_
  have K0 := Lib.hid hL
  have J0 := Lib.hid h
  have T0 := Lib.hid (Mod.refl (At b) w)
  clear hL h
  rcases hk with rfl | rfl | rfl | rfl | rfl | rfl
  · show Calls Tryz.prog 70 #[bptr b, .string ⟨#[99, 114, 101, 97, 116, 101]⟩] w R
    go_enter Tryz.func70, Tryz.ntmps70
    go_wp2_with fail
    refine (rnum_any b h6 _ _ K0.out J0.out).mono ?_
    rintro e w1 ⟨rfl, h1, M1⟩
    have J1 := Lib.hid h1
    have K1 := Lib.hid (K0.out.mod M1 (fun i q => by have : i = b := q; omega))
    have T1 := Lib.hid (T0.out.trans M1)
    clear h1 M1 K0 J0 T0
    go_wp2_with fail
    refine (rnum_any b h6 _ _ K1.out J1.out).mono ?_
    rintro e w2 ⟨rfl, h1, M1⟩
    have J2 := Lib.hid h1
    have K2 := Lib.hid (K1.out.mod M1 (fun i q => by have : i = b := q; omega))
    have T2 := Lib.hid (T1.out.trans M1)
    clear h1 M1 K1 J1 T1
    go_wp2
    exact HR.out _ _ ⟨rfl, J2.out, T2.out⟩
  · show Calls Tryz.prog 70 #[bptr b, .string ⟨#[100, 101, 108, 101, 116, 101]⟩] w R
    go_enter Tryz.func70, Tryz.ntmps70
    go_wp2_with fail
    refine (rnum_any b h6 _ _ K0.out J0.out).mono ?_
    rintro e w1 ⟨rfl, h1, M1⟩
    have J1 := Lib.hid h1
    have K1 := Lib.hid (K0.out.mod M1 (fun i q => by have : i = b := q; omega))
    have T1 := Lib.hid (T0.out.trans M1)
    clear h1 M1 K0 J0 T0
    go_wp2
    exact HR.out _ _ ⟨rfl, J1.out, T1.out⟩
  · show Calls Tryz.prog 70 #[bptr b, .string ⟨#[115, 110, 97, 112]⟩] w R
    go_enter Tryz.func70, Tryz.ntmps70
    go_wp2_with fail
    refine (rnum_any b h6 _ _ K0.out J0.out).mono ?_
    rintro e w1 ⟨rfl, h1, M1⟩
    have J1 := Lib.hid h1
    have K1 := Lib.hid (K0.out.mod M1 (fun i q => by have : i = b := q; omega))
    have T1 := Lib.hid (T0.out.trans M1)
    clear h1 M1 K0 J0 T0
    go_wp2_with fail
    refine (rnum_any b h6 _ _ K1.out J1.out).mono ?_
    rintro e w2 ⟨rfl, h1, M1⟩
    have J2 := Lib.hid h1
    have K2 := Lib.hid (K1.out.mod M1 (fun i q => by have : i = b := q; omega))
    have T2 := Lib.hid (T1.out.trans M1)
    clear h1 M1 K1 J1 T1
    go_wp2
    exact HR.out _ _ ⟨rfl, J2.out, T2.out⟩
  · show Calls Tryz.prog 70 #[bptr b, .string ⟨#[114, 101, 115, 105, 122, 101]⟩] w R
    go_enter Tryz.func70, Tryz.ntmps70
    go_wp2_with fail
    refine (rnum_any b h6 _ _ K0.out J0.out).mono ?_
    rintro e w1 ⟨rfl, h1, M1⟩
    have J1 := Lib.hid h1
    have K1 := Lib.hid (K0.out.mod M1 (fun i q => by have : i = b := q; omega))
    have T1 := Lib.hid (T0.out.trans M1)
    clear h1 M1 K0 J0 T0
    go_wp2_with fail
    refine (rnum_any b h6 _ _ K1.out J1.out).mono ?_
    rintro e w2 ⟨rfl, h1, M1⟩
    have J2 := Lib.hid h1
    have K2 := Lib.hid (K1.out.mod M1 (fun i q => by have : i = b := q; omega))
    have T2 := Lib.hid (T1.out.trans M1)
    clear h1 M1 K1 J1 T1
    go_wp2
    exact HR.out _ _ ⟨rfl, J2.out, T2.out⟩
  · show Calls Tryz.prog 70 #[bptr b, .string ⟨#[112, 105, 110]⟩] w R
    go_enter Tryz.func70, Tryz.ntmps70
    go_wp2_with fail
    refine (rnum_any b h6 _ _ K0.out J0.out).mono ?_
    rintro e w1 ⟨rfl, h1, M1⟩
    have J1 := Lib.hid h1
    have K1 := Lib.hid (K0.out.mod M1 (fun i q => by have : i = b := q; omega))
    have T1 := Lib.hid (T0.out.trans M1)
    clear h1 M1 K0 J0 T0
    go_wp2
    exact HR.out _ _ ⟨rfl, J1.out, T1.out⟩
  · show Calls Tryz.prog 70 #[bptr b, .string ⟨#[102, 114, 101, 101]⟩] w R
    go_enter Tryz.func70, Tryz.ntmps70
    go_wp2_with fail
    refine (rnum_any b h6 _ _ K0.out J0.out).mono ?_
    rintro e w1 ⟨rfl, h1, M1⟩
    have J1 := Lib.hid h1
    have K1 := Lib.hid (K0.out.mod M1 (fun i q => by have : i = b := q; omega))
    have T1 := Lib.hid (T0.out.trans M1)
    clear h1 M1 K0 J0 T0
    go_wp2
    exact HR.out _ _ ⟨rfl, J1.out, T1.out⟩
set_option maxRecDepth 10000 in
set_option maxHeartbeats 2000000 in
theorem sectors_any (b : Nat) (h6 : 6 ≤ b) (k : Nat) (hk : k = 6 ∨ k = 7 ∨ k = 8) (st : Rd) (w : World) (hL : LibOK w) (h : RdS w b st) : Calls Tryz.prog 71 #[bptr b, strV (wordL k)] w fun e w' => e = .returned (ordW (rdKind k st).1) ∧ RdS w' b (rdKind k st).2 ∧ Mod (At b) w w' := by
  refine opq fun R HR => ?_
  have K0 := Lib.hid hL
  have J0 := Lib.hid h
  have T0 := Lib.hid (Mod.refl (At b) w)
  clear hL h
  rcases hk with rfl | rfl | rfl
  · show Calls Tryz.prog 71 #[bptr b, .string ⟨#[114, 101, 97, 100]⟩] w R
    go_enter Tryz.func71, Tryz.ntmps71
    go_wp2_with fail
    refine (rnum_any b h6 _ _ K0.out J0.out).mono ?_
    rintro e w1 ⟨rfl, h1, M1⟩
    have J1 := Lib.hid h1
    have K1 := Lib.hid (K0.out.mod M1 (fun i q => by have : i = b := q; omega))
    have T1 := Lib.hid (T0.out.trans M1)
    clear h1 M1 K0 J0 T0
    go_wp2_with fail
    refine (rnum_any b h6 _ _ K1.out J1.out).mono ?_
    rintro e w2 ⟨rfl, h1, M1⟩
    have J2 := Lib.hid h1
    have K2 := Lib.hid (K1.out.mod M1 (fun i q => by have : i = b := q; omega))
    have T2 := Lib.hid (T1.out.trans M1)
    clear h1 M1 K1 J1 T1
    go_wp2_with fail
    refine (rnum_any b h6 _ _ K2.out J2.out).mono ?_
    rintro e w3 ⟨rfl, h1, M1⟩
    have J3 := Lib.hid h1
    have K3 := Lib.hid (K2.out.mod M1 (fun i q => by have : i = b := q; omega))
    have T3 := Lib.hid (T2.out.trans M1)
    clear h1 M1 K2 J2 T2
    go_wp2
    exact HR.out _ _ ⟨rfl, J3.out, T3.out⟩
  · show Calls Tryz.prog 71 #[bptr b, .string ⟨#[119, 114, 105, 116, 101]⟩] w R
    go_enter Tryz.func71, Tryz.ntmps71
    go_wp2_with fail
    refine (rnum_any b h6 _ _ K0.out J0.out).mono ?_
    rintro e w1 ⟨rfl, h1, M1⟩
    have J1 := Lib.hid h1
    have K1 := Lib.hid (K0.out.mod M1 (fun i q => by have : i = b := q; omega))
    have T1 := Lib.hid (T0.out.trans M1)
    clear h1 M1 K0 J0 T0
    go_wp2_with fail
    refine (rnum_any b h6 _ _ K1.out J1.out).mono ?_
    rintro e w2 ⟨rfl, h1, M1⟩
    have J2 := Lib.hid h1
    have K2 := Lib.hid (K1.out.mod M1 (fun i q => by have : i = b := q; omega))
    have T2 := Lib.hid (T1.out.trans M1)
    clear h1 M1 K1 J1 T1
    go_wp2_with fail
    refine (rdat_any b h6 _ _ K2.out J2.out).mono ?_
    rintro e w3 ⟨rfl, h1, M1⟩
    have J3 := Lib.hid h1
    have K3 := Lib.hid (K2.out.mod M1 (fun i q => by have : i = b := q; omega))
    have T3 := Lib.hid (T2.out.trans M1)
    clear h1 M1 K2 J2 T2
    go_wp2
    exact HR.out _ _ ⟨rfl, J3.out, T3.out⟩
  · show Calls Tryz.prog 71 #[bptr b, .string ⟨#[100, 105, 115, 99, 97, 114, 100]⟩] w R
    go_enter Tryz.func71, Tryz.ntmps71
    go_wp2_with fail
    refine (rnum_any b h6 _ _ K0.out J0.out).mono ?_
    rintro e w1 ⟨rfl, h1, M1⟩
    have J1 := Lib.hid h1
    have K1 := Lib.hid (K0.out.mod M1 (fun i q => by have : i = b := q; omega))
    have T1 := Lib.hid (T0.out.trans M1)
    clear h1 M1 K0 J0 T0
    go_wp2_with fail
    refine (rnum_any b h6 _ _ K1.out J1.out).mono ?_
    rintro e w2 ⟨rfl, h1, M1⟩
    have J2 := Lib.hid h1
    have K2 := Lib.hid (K1.out.mod M1 (fun i q => by have : i = b := q; omega))
    have T2 := Lib.hid (T1.out.trans M1)
    clear h1 M1 K1 J1 T1
    go_wp2_with fail
    refine (rnum_any b h6 _ _ K2.out J2.out).mono ?_
    rintro e w3 ⟨rfl, h1, M1⟩
    have J3 := Lib.hid h1
    have K3 := Lib.hid (K2.out.mod M1 (fun i q => by have : i = b := q; omega))
    have T3 := Lib.hid (T2.out.trans M1)
    clear h1 M1 K2 J2 T2
    go_wp2
    exact HR.out _ _ ⟨rfl, J3.out, T3.out⟩
set_option maxRecDepth 10000 in
set_option maxHeartbeats 2000000 in
theorem crash_any (b : Nat) (h6 : 6 ≤ b) (k : Nat) (hk : k = 14) (st : Rd) (w : World) (hL : LibOK w) (h : RdS w b st) : Calls Tryz.prog 73 #[bptr b] w fun e w' => e = .returned (ordW (rdKind k st).1) ∧ RdS w' b (rdKind k st).2 ∧ Mod (At b) w w' := by
  refine opq fun R HR => ?_
  have K0 := Lib.hid hL
  have J0 := Lib.hid h
  have T0 := Lib.hid (Mod.refl (At b) w)
  clear hL h
  subst hk
  go_enter Tryz.func73, Tryz.ntmps73
  go_wp2_with fail
  refine (rdat_any b h6 _ _ K0.out J0.out).mono ?_
  rintro e w1 ⟨rfl, h1, M1⟩
  have J1 := Lib.hid h1
  have K1 := Lib.hid (K0.out.mod M1 (fun i q => by have : i = b := q; omega))
  have T1 := Lib.hid (T0.out.trans M1)
  clear h1 M1 K0 J0 T0
  go_wp2_with fail
  refine (rdat_any b h6 _ _ K1.out J1.out).mono ?_
  rintro e w2 ⟨rfl, h1, M1⟩
  have J2 := Lib.hid h1
  have K2 := Lib.hid (K1.out.mod M1 (fun i q => by have : i = b := q; omega))
  have T2 := Lib.hid (T1.out.trans M1)
  clear h1 M1 K1 J1 T1
  go_wp2_with fail
  refine (rdat_any b h6 _ _ K2.out J2.out).mono ?_
  rintro e w3 ⟨rfl, h1, M1⟩
  have J3 := Lib.hid h1
  have K3 := Lib.hid (K2.out.mod M1 (fun i q => by have : i = b := q; omega))
  have T3 := Lib.hid (T2.out.trans M1)
  clear h1 M1 K2 J2 T2
  go_wp2
  exact HR.out _ _ ⟨rfl, J3.out, T3.out⟩
end Go.Proofs.YtdengmlidckkeaaGreatDoor
