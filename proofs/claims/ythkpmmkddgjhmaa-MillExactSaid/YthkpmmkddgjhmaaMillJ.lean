import Derived.Test.YthkpmmkddgjhmaaMillI
set_option linter.unusedSimpArgs false
set_option linter.unusedVariables false
namespace Go.Proofs.Ythkpmmkddgjhmaa
open Go Go.RowKit
def us : Nat → Int := fun i => #[(2 : Int), 1, 3, 1, 1, 1, 5, 8, 3, 2, 5, 1, 1, 1, 1].getD i 0
set_option maxRecDepth 10000 in
set_option maxHeartbeats 2000000 in
theorem mawake_any (w : World) : Calls Try.prog 5 #[] w fun e w' => e = .returned (.bool true) ∧ Same w w' := by
  refine opq fun R HR => ?_
  have H1 := Lib.hid (fun wz => script_any 7 3 (fun i => if i = 9 then 1 else 0) 0 0 1 0 wz (by unfold U64; omega))
  have H2 := Lib.hid (fun wz => usual_any wz)
  have H3 := Lib.hid (fun wz => (show Calls Try.prog 7 #[.agg #[.int .i64 2, .int .i64 1, .int .i64 3, .int .i64 1, .int .i64 1, .int .i64 1, .int .i64 5, .int .i64 8, .int .i64 3, .int .i64 2, .int .i64 5, .int .i64 1, .int .i64 1, .int .i64 1, .int .i64 1]] wz fun e w' => e = .returned (.agg #[.int .i64 2, .int .i64 1, .int .i64 3, .int .i64 1, .int .i64 1, .int .i64 1, .int .i64 5, .int .i64 8, .int .i64 3, .int .i64 2, .int .i64 5, .int .i64 1, .int .i64 1, .int .i64 0, .int .i64 0]) ∧ Same wz w' from calm_any us wz))
  have H4 := Lib.hid (fun wz => script_any 7 3 (fun i => 0) 0 0 0 0 wz (by unfold U64; omega))
  go_enter Try.func5, Try.ntmps5
  go_wp2_with fail
  refine (H1.out _).mono ?_
  rintro e w1 ⟨a, l, c, rfl, hl, ho, M1⟩
  obtain rfl : l = 3 := by
    have : (l : Int) = 3 := hl.trans (by decide)
    omega
  obtain ⟨b, o, rfl, hb, hc⟩ := ho (by omega)
  obtain ⟨v, ⟨j, x, hj, hjz, rfl⟩, hv⟩ := hc 2 (by omega)
  obtain rfl : j = 9 := by
    by_cases q : j = 9
    · exact q
    · simp only [if_neg q] at hjz; omega
  have HV := Lib.hid hv
  have J1 := Lib.hid M1
  clear ho hc hl hv M1 hjz hj
  go_wp2_with fail
  refine (H2.out _).mono ?_
  rintro e w2 ⟨rfl, M2⟩
  have J2 := Lib.hid (J1.out.same M2)
  have HV2 := Lib.hid ((M2.cell hb (fun q => q) _).trans HV.out)
  have hb2 : b < w2.heap.size := Nat.lt_of_lt_of_le hb M2.size
  clear M2 J1 HV hb
  go_wp2_with fail
  refine (H3.out _).mono ?_
  have BU := Lib.hid (Blk.new w2 #[.int .i64 2, .int .i64 1, .int .i64 3, .int .i64 1, .int .i64 1, .int .i64 1, .int .i64 5, .int .i64 8, .int .i64 3, .int .i64 2, .int .i64 5, .int .i64 1, .int .i64 1, .int .i64 1, .int .i64 1] 30)
  have J3 := Lib.hid (J2.out.alloc (.cells #[.int .i64 2, .int .i64 1, .int .i64 3, .int .i64 1, .int .i64 1, .int .i64 1, .int .i64 5, .int .i64 8, .int .i64 3, .int .i64 2, .int .i64 5, .int .i64 1, .int .i64 1, .int .i64 1, .int .i64 1] 30))
  have N2 := Lib.hid ((Mod.refl (fun _ => False) w2).alloc (.cells #[.int .i64 2, .int .i64 1, .int .i64 3, .int .i64 1, .int .i64 1, .int .i64 1, .int .i64 5, .int .i64 8, .int .i64 3, .int .i64 2, .int .i64 5, .int .i64 1, .int .i64 1, .int .i64 1, .int .i64 1] 30))
  generalize w2.alloc _ = W2 at *
  rintro e w3 ⟨rfl, M3⟩
  have J4 := Lib.hid (J3.out.same M3)
  have BU4 := Lib.hid (BU.out.mod M3 (fun q => q))
  have hb3 : b < w3.heap.size := Nat.lt_of_lt_of_le hb2 (Nat.le_trans N2.out.size M3.size)
  have hv3 := (M3.cell (Nat.lt_of_lt_of_le hb2 N2.out.size) (fun q => q) _).trans ((N2.out.cell hb2 (fun q => q) _).trans HV2.out)
  clear M3 J3 BU HV2 N2 H1 H2 H3 hb2
  have hc2 := BU4.out.at_ (i := 7) (.int .i64 8) rfl
  have hl2 := BU4.out.lt
  go_wp2_with fail
  refine (word62 _ _).mono ?_
  have BC := Lib.hid (Blk.new w3 #[.int .i64 2, .int .i64 1, .int .i64 3, .int .i64 1, .int .i64 1, .int .i64 1, .int .i64 5, .int .i64 8, .int .i64 3, .int .i64 2, .int .i64 5, .int .i64 1, .int .i64 1, .int .i64 0, .int .i64 0] 30)
  have BU5 := Lib.hid (BU4.out.alloc (.cells #[.int .i64 2, .int .i64 1, .int .i64 3, .int .i64 1, .int .i64 1, .int .i64 1, .int .i64 5, .int .i64 8, .int .i64 3, .int .i64 2, .int .i64 5, .int .i64 1, .int .i64 1, .int .i64 0, .int .i64 0] 30))
  have J5 := Lib.hid (J4.out.alloc (.cells #[.int .i64 2, .int .i64 1, .int .i64 3, .int .i64 1, .int .i64 1, .int .i64 1, .int .i64 5, .int .i64 8, .int .i64 3, .int .i64 2, .int .i64 5, .int .i64 1, .int .i64 1, .int .i64 0, .int .i64 0] 30))
  generalize w3.alloc _ = W4 at *
  clear hc2 hl2 hv3 hb3 BU4 J4
  rintro e w5 ⟨rfl, M5⟩
  have J6 := Lib.hid (J5.out.same M5)
  have c7 := (BU5.out.mod M5 (fun q => q)).at_ (i := 7) (.int .i64 8) rfl
  have c14 := (BC.out.mod M5 (fun q => q)).at_ (i := 14) (.int .i64 0) rfl
  have c13 := (BC.out.mod M5 (fun q => q)).at_ (i := 13) (.int .i64 0) rfl
  have c0 := (BC.out.mod M5 (fun q => q)).at_ (i := 0) (.int .i64 2) rfl
  clear BC BU5 J5 M5
  go_wp2_with fail
  refine (H4.out _).mono ?_
  rintro e w6 ⟨a, l, c', rfl, hl, _, M6⟩
  obtain rfl : l = 0 := by
    have : (l : Int) = 0 := hl.trans (by decide)
    omega
  have J7 := Lib.hid (J6.out.same M6)
  clear M6 hl J6 c7 c14 c13 c0
  go_wp2
  exact HR.out _ _ ⟨rfl, J7.out⟩
end Go.Proofs.Ythkpmmkddgjhmaa
