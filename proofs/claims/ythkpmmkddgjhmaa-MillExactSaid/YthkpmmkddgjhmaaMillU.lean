import Derived.Test.YthkpmmkddgjhmaaMillT
set_option linter.unusedSimpArgs false
set_option linter.unusedVariables false
namespace Go.Proofs.Ythkpmmkddgjhmaa
open Go Go.RowKit
theorem parts_ord (j : Nat) (hj : j < 15) (id sz s : Int) (hz : 1 ≤ sz ∧ sz ≤ 8) (w : World) : Calls Try.prog 26 #[ordVal (ordO j id sz s).1] w (PartsV w ((ordO j id sz s).1.nums.map (Value.int .i64)) ((ordO j id sz s).1.data.map Value.string)) := by
  have h : j = 0 ∨ j = 1 ∨ j = 2 ∨ j = 3 ∨ j = 4 ∨ j = 5 ∨ j = 6 ∨ j = 7 ∨ j = 8 ∨ j = 9 ∨ j = 10 ∨ j = 11 ∨ j = 12 ∨ j = 13 ∨ j = 14 := by omega
  rcases h with rfl | rfl | rfl | rfl | rfl | rfl | rfl | rfl | rfl | rfl | rfl | rfl | rfl | rfl | rfl
  · exact parts90 _ _ w
  · exact parts92 _ w
  · exact parts94 _ _ w
  · exact parts95 _ _ w
  · exact parts96 _ w
  · exact parts97 _ w
  · exact parts82 _ _ _ w
  · refine parts86 _ _ _ ?_ w
    have hb := belV_bd (2 * sz) (belS (8 * sz) s)
    show (dataL _ _).toArray.size ≤ 512
    rw [List.size_toArray, dataL_len]
    omega
  · exact parts83 _ _ _ w
  · exact parts68 w
  · exact parts70 _ w
  · exact parts71 w
  · exact parts72 w
  · exact parts74 _ w
  · exact parts88 _ _ _ (strOfNums_size _) (strOfNums_size _) (strOfNums_size _) w
theorem ordVal_iface (o : OV) : ∃ T x, ordVal o = .iface T x := ⟨_, _, rfl⟩
theorem numbers_of (v : Value) (ns ts : List Value) (w : World) (h : ∀ wz, Calls Try.prog 26 #[v] wz (PartsV wz ns ts)) : Calls Try.prog 18 #[v] w fun e w' => ∃ a c, e = .returned (.slice a ns.length c) ∧ RowNew w w' a ns ∧ Same w w' := by
  refine opq fun R HR => ?_
  have H := Lib.hid h
  clear h
  obtain ⟨n, hn⟩ : ∃ n, ns.length = n := ⟨_, rfl⟩
  go_enter Try.func18, Try.ntmps18
  go_wp2_with fail
  refine (H.out _).mono ?_
  rintro e w1 ⟨a1, c1, a2, c2, rfl, h1, h2, M⟩
  have J1 := Lib.hid h1
  have J2 := Lib.hid M
  clear h1 h2 M
  go_wp2
  exact HR.out _ _ ⟨_, _, by rw [hn]; rfl, J1.out, J2.out⟩
theorem data_of (v : Value) (ns ts : List Value) (w : World) (h : ∀ wz, Calls Try.prog 26 #[v] wz (PartsV wz ns ts)) : Calls Try.prog 19 #[v] w fun e w' => ∃ a c, e = .returned (.slice a ts.length c) ∧ RowNew w w' a ts ∧ Same w w' := by
  refine opq fun R HR => ?_
  have H := Lib.hid h
  clear h
  obtain ⟨n, hn⟩ : ∃ n, ts.length = n := ⟨_, rfl⟩
  go_enter Try.func19, Try.ntmps19
  go_wp2_with fail
  refine (H.out _).mono ?_
  rintro e w1 ⟨a1, c1, a2, c2, rfl, h1, h2, M⟩
  have J1 := Lib.hid h2
  have J2 := Lib.hid M
  clear h1 h2 M
  go_wp2
  exact HR.out _ _ ⟨_, _, by rw [hn]; rfl, J1.out, J2.out⟩
end Go.Proofs.Ythkpmmkddgjhmaa
