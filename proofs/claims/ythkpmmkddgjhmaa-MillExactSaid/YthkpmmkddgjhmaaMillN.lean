import Derived.Test.YthkpmmkddgjhmaaMillM
import Derived.Test.YthkpmmkddgjhmaaMillF
set_option linter.unusedSimpArgs false
set_option linter.unusedVariables false
namespace Go.Proofs.Ythkpmmkddgjhmaa
open Go Go.RowKit
/-- An order: its kind, its numbers, its texts. -/
structure OV where
  k : Nat
  nums : List Int
  data : List ByteArray
def ordVal (o : OV) : Value := .iface (kT o.k) (.agg (o.nums.map (Value.int .i64) ++ o.data.map Value.string).toArray)
def volO (k : Nat) (id s : Int) : OV × Int :=
  match k with
  | 0 => (⟨0, [id, 1 + belV 8 s], []⟩, belS 8 s)
  | 1 => (⟨1, [id], []⟩, s)
  | 2 => (⟨2, [id, 1 + belV 5 s], []⟩, belS 5 s)
  | 3 => (⟨3, [id, belV 10 s], []⟩, belS 10 s)
  | 4 => (⟨4, [id], []⟩, s)
  | _ => (⟨5, [id], []⟩, s)
def rangeO (k : Nat) (id sz s : Int) : OV × Int :=
  match k with
  | 7 => (⟨7, [id, belV (8 * sz) s], [⟨(dataL (1 + belV 200 (belS (2 * sz) (belS (8 * sz) s))) (1 + belV (2 * sz) (belS (8 * sz) s)).toNat).toArray⟩]⟩, belS 200 (belS (2 * sz) (belS (8 * sz) s)))
  | k => (⟨k, [id, belV (8 * sz) s, 1 + belV (2 * sz) (belS (8 * sz) s)], []⟩, belS (2 * sz) (belS (8 * sz) s))
def crashO (s : Int) : OV × Int := (⟨14, [], [strOfNums [belV 256 s], strOfNums [belV 256 (belS 256 s)], strOfNums [belV 256 (belS 256 (belS 256 s))]]⟩, belS 256 (belS 256 (belS 256 s)))
def ordO (k : Nat) (id sz s : Int) : OV × Int :=
  match k with
  | 6 => rangeO 6 id sz s
  | 7 => rangeO 7 id sz s
  | 8 => rangeO 8 id sz s
  | 9 => (⟨9, [], []⟩, s)
  | 10 => (⟨10, [belV 9 s], []⟩, belS 9 s)
  | 11 => (⟨11, [], []⟩, s)
  | 12 => (⟨12, [], []⟩, s)
  | 13 => (⟨13, [belV 60 s], []⟩, belS 60 s)
  | 14 => crashO s
  | k => volO k id s
set_option maxRecDepth 10000 in
set_option maxHeartbeats 4000000 in
theorem volume_x (k : Nat) (z : Int) (hz : z = k) (hk : k < 6) (M D : Nat) (sz s id : Int) (w : World) (h : MS w M D sz s) (hs : U64 s) :
    Calls Try.prog 24 #[dptr M, .int .i64 z, .int .i64 id] w (Dealt w D (ordVal (volO k id s).1) (volO k id s).2) := by
  refine opq fun R HR => ?_
  have H := Lib.hid h
  have hcm := h.m.cell
  have HT := Lib.hid (fun n (hn : -9223372036854775808 ≤ n ∧ n ≤ 9223372036854775807) => dbelow_any D s n w h.d hs hn)
  have HU := Lib.hid (fun n => belS_u n s hs)
  have hb8 := belV_bd 8 s
  have hb5 := belV_bd 5 s
  have e8 : IntKind.i64.wrap (1 + belV 8 s) = 1 + belV 8 s := IntWalk.i64_in _ (by omega)
  have e5 : IntKind.i64.wrap (1 + belV 5 s) = 1 + belV 5 s := IntWalk.i64_in _ (by omega)
  clear h hb8 hb5
  have hk' : (z = 0 ∧ k = 0) ∨ (z = 1 ∧ k = 1) ∨ (z = 2 ∧ k = 2) ∨ (z = 3 ∧ k = 3) ∨ (z = 4 ∧ k = 4) ∨ (z = 5 ∧ k = 5) := by omega
  clear hk hz
  rcases hk' with ⟨rfl, rfl⟩ | ⟨rfl, rfl⟩ | ⟨rfl, rfl⟩ | ⟨rfl, rfl⟩ | ⟨rfl, rfl⟩ | ⟨rfl, rfl⟩
  all_goals
    go_enter Try.func24, Try.ntmps24
    go_wp2_with (go_at_call 21; refine (HT.out _ (by decide)).mono ?_; rintro e w1 ⟨rfl, h1, M1⟩; have J1 := Lib.hid h1; have J2 := Lib.hid M1; clear h1 M1)
    first
    | exact HR.out _ _ ⟨rfl, J1.out, J2.out⟩
    | exact HR.out _ _ ⟨rfl, H.out.d, Mod.refl _ _⟩
set_option maxRecDepth 10000 in
set_option maxHeartbeats 4000000 in
theorem ranged_x (k : Nat) (z : Int) (hz : z = k) (hk : 6 ≤ k ∧ k ≤ 8) (M D : Nat) (sz s id : Int) (w : World) (h : MS w M D sz s) (hs : U64 s) (hzz : 1 ≤ sz ∧ sz ≤ 8) :
    Calls Try.prog 22 #[dptr M, .int .i64 z, .int .i64 id] w (Dealt w D (ordVal (rangeO k id sz s).1) (rangeO k id sz s).2) := by
  refine opq fun R HR => ?_
  have H := Lib.hid h
  have HS := Lib.hid (sectors_x M D sz s w h hs hzz)
  clear h
  have hk' : (z = 6 ∧ k = 6) ∨ (z = 7 ∧ k = 7) ∨ (z = 8 ∧ k = 8) := by omega
  clear hk hz
  rcases hk' with ⟨rfl, rfl⟩ | ⟨rfl, rfl⟩ | ⟨rfl, rfl⟩
  all_goals
    go_enter Try.func22, Try.ntmps22
    go_wp2_with fail
    refine HS.out.mono ?_
    rintro e w1 ⟨rfl, hd, hM⟩
    have J1 := Lib.hid hd
    have J2 := Lib.hid hM
    have J3 := Lib.hid (H.out.next hd hM)
    clear hd hM HS
  · go_wp2
    exact HR.out _ _ ⟨rfl, J1.out, J2.out⟩
  · have hbb := belV_bd (2 * sz) (belS (8 * sz) s)
    obtain ⟨n, hn⟩ : ∃ n : Nat, 1 + belV (2 * sz) (belS (8 * sz) s) = n := ⟨(1 + belV (2 * sz) (belS (8 * sz) s)).toNat, by omega⟩
    have hn2 : n ≤ 100 := by omega
    have HRn := HR.out
    unfold rangeO at HRn
    simp only [hn, Int.toNat_natCast] at HRn
    have HRm := Lib.hid HRn
    clear HRn hbb
    rw [hn]
    have HD := Lib.hid (data_x M D sz (belS (2 * sz) (belS (8 * sz) s)) n w1 J3.out (belS_u _ _ (belS_u _ _ hs)) hn2)
    go_wp2_with fail
    refine HD.out.mono ?_
    rintro e w2 ⟨rfl, hd, hM⟩
    have K1 := Lib.hid hd
    have K2 := Lib.hid (J2.out.trans hM)
    clear hd hM HD
    go_wp2
    exact HRm.out _ _ ⟨rfl, K1.out, K2.out⟩
  · go_wp2
    exact HR.out _ _ ⟨rfl, J1.out, J2.out⟩
theorem crash_x (M D : Nat) (sz s : Int) (w : World) (h : MS w M D sz s) (hs : U64 s) :
    Calls Try.prog 23 #[dptr M] w (Dealt w D (ordVal (crashO s).1) (crashO s).2) := by
  refine opq fun R HR => ?_
  have HS := Lib.hid (keep_x M D sz s w h hs)
  have H := Lib.hid h
  have hu := belS_u 256 s hs
  clear h
  go_enter Try.func23, Try.ntmps23
  go_wp2_with fail
  refine HS.out.mono ?_
  rintro e w1 ⟨rfl, hd, hM⟩
  have J1 := Lib.hid (H.out.next hd hM)
  have J2 := Lib.hid hM
  clear hd hM HS H
  have HS := Lib.hid (keep_x M D sz _ w1 J1.out hu)
  have hu2 := belS_u 256 _ hu
  go_wp2_with fail
  refine HS.out.mono ?_
  rintro e w2 ⟨rfl, hd, hM⟩
  have K1 := Lib.hid (J1.out.next hd hM)
  have K2 := Lib.hid (J2.out.trans hM)
  clear hd hM HS J1 J2
  have HS := Lib.hid (keep_x M D sz _ w2 K1.out hu2)
  go_wp2_with fail
  refine HS.out.mono ?_
  rintro e w3 ⟨rfl, hd, hM⟩
  have L1 := Lib.hid hd
  have L2 := Lib.hid (K2.out.trans hM)
  clear hd hM HS K1 K2
  go_wp2
  exact HR.out _ _ ⟨rfl, L1.out, L2.out⟩
set_option maxRecDepth 10000 in
set_option maxHeartbeats 8000000 in
theorem order_x (k : Nat) (z : Int) (hz : z = k) (hk : k < 15) (M D : Nat) (sz s : Int) (w : World) (h : MS w M D sz s) (hs : U64 s) (hzz : 1 ≤ sz ∧ sz ≤ 8) :
    Calls Try.prog 14 #[dptr M, .int .i64 z] w (Dealt w D (ordVal (ordO k (1 + belV 4 s) sz (belS 4 s)).1) (ordO k (1 + belV 4 s) sz (belS 4 s)).2) := by
  refine opq fun R HR => ?_
  have H := Lib.hid h
  have hcm := h.m.cell
  have HT := Lib.hid (dbelow_any D s 4 w h.d hs (by omega))
  have hu := belS_u 4 s hs
  have hb := belV_bd 4 s
  generalize belV 4 s = v at *
  generalize belS 4 s = t at *
  have e4 : IntKind.i64.wrap (1 + v) = 1 + v := IntWalk.i64_in _ (by omega)
  clear h hs
  go_enter Try.func14, Try.ntmps14
  go_wp2_with fail
  refine HT.out.mono ?_
  rintro e w1 ⟨rfl, h1, M1⟩
  have J1 := Lib.hid (H.out.next h1 M1)
  have J2 := Lib.hid M1
  clear h1 M1 HT H hcm
  have HB := Lib.hid (fun n (hn : -9223372036854775808 ≤ n ∧ n ≤ 9223372036854775807) => dbelow_any D t n w1 J1.out.d hu hn)
  have HU := Lib.hid (fun n => belS_u n t hu)
  have HV := Lib.hid (fun (hk : k < 6) id => volume_x k z hz hk M D sz t id w1 J1.out hu)
  have HG := Lib.hid (fun (hk : 6 ≤ k ∧ k ≤ 8) id => ranged_x k z hz hk M D sz t id w1 J1.out hu hzz)
  have HC := Lib.hid (crash_x M D sz t w1 J1.out hu)
  have hcm := J1.out.m.cell
  have hk1 : k = 0 ∨ k = 1 ∨ k = 2 ∨ k = 3 ∨ k = 4 ∨ k = 5 ∨ k = 6 ∨ k = 7 ∨ k = 8 ∨ k = 9 ∨ k = 10 ∨ k = 11 ∨ k = 12 ∨ k = 13 ∨ k = 14 := by omega
  have hk' : (z = 0 ∧ k = 0) ∨ (z = 1 ∧ k = 1) ∨ (z = 2 ∧ k = 2) ∨ (z = 3 ∧ k = 3) ∨ (z = 4 ∧ k = 4) ∨ (z = 5 ∧ k = 5) ∨ (z = 6 ∧ k = 6) ∨ (z = 7 ∧ k = 7) ∨ (z = 8 ∧ k = 8) ∨ (z = 9 ∧ k = 9) ∨ (z = 10 ∧ k = 10) ∨ (z = 11 ∧ k = 11) ∨ (z = 12 ∧ k = 12) ∨ (z = 13 ∧ k = 13) ∨ (z = 14 ∧ k = 14) := by
    rcases hk1 with rfl | rfl | rfl | rfl | rfl | rfl | rfl | rfl | rfl | rfl | rfl | rfl | rfl | rfl | rfl <;> simp [hz]
  clear hk1
  clear hk hz
  rcases hk' with ⟨rfl, rfl⟩ | ⟨rfl, rfl⟩ | ⟨rfl, rfl⟩ | ⟨rfl, rfl⟩ | ⟨rfl, rfl⟩ | ⟨rfl, rfl⟩ | ⟨rfl, rfl⟩ | ⟨rfl, rfl⟩ | ⟨rfl, rfl⟩ | ⟨rfl, rfl⟩ | ⟨rfl, rfl⟩ | ⟨rfl, rfl⟩ | ⟨rfl, rfl⟩ | ⟨rfl, rfl⟩ | ⟨rfl, rfl⟩
  all_goals
    go_wp2_with (first
      | (go_at_call 21; refine (HB.out _ (by decide)).mono ?_; rintro e w2 ⟨rfl, h1, M1⟩; have K1 := Lib.hid h1; have K2 := Lib.hid (J2.out.trans M1); clear h1 M1)
      | (go_at_call 24; refine (HV.out (by decide) _).mono ?_; rintro e w2 ⟨rfl, h1, M1⟩; have K1 := Lib.hid h1; have K2 := Lib.hid (J2.out.trans M1); clear h1 M1)
      | (go_at_call 22; refine (HG.out (by decide) _).mono ?_; rintro e w2 ⟨rfl, h1, M1⟩; have K1 := Lib.hid h1; have K2 := Lib.hid (J2.out.trans M1); clear h1 M1)
      | (go_at_call 23; refine HC.out.mono ?_; rintro e w2 ⟨rfl, h1, M1⟩; have K1 := Lib.hid h1; have K2 := Lib.hid (J2.out.trans M1); clear h1 M1))
    first
    | exact HR.out _ _ ⟨rfl, K1.out, K2.out⟩
    | exact HR.out _ _ ⟨rfl, J1.out.d, J2.out⟩
end Go.Proofs.Ythkpmmkddgjhmaa
