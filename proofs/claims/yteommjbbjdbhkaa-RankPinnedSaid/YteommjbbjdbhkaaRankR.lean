import Derived.Test.YteommjbbjdbhkaaRankQ
import Derived.Test.YteommjbbjdbhkaaRankK
set_option linter.unusedSimpArgs false
set_option linter.unusedVariables false
namespace Go.Proofs.Yteommjbbjdbhkaa
open Go Go.RowKit Go.ChangeShapes Go.WideShapes
set_option maxHeartbeats 4000000 in
theorem rankExact_walk (a : Option Addr) (cap : Nat) (L : List It) (room pick h : Int) (w : World) (hm : L.length ≤ 9223372036854775807) (hI : Its w a L) (hw : Wf L) (hh : h ≤ 9223372036854775807) :
    Calls Try.prog 6 #[.slice a L.length cap, .int .i64 room, .int .i64 pick, .int .i64 h] w fun e w' => e = .returned (.bool true) ∧ Below w.heap.size w w' := by
  refine opq fun R HR => ?_
  have HA := Lib.hid (awake_any w)
  by_cases h40 : 40 < L.length
  · clear hI hw
    generalize L.length = n at *
    go_enter Try.func6, Try.ntmps6
    go_wp2_with fail
    refine HA.out.mono ?_
    rintro e w1 ⟨rfl, M1⟩
    have J1 := Lib.hid M1
    clear M1 HA
    go_wp2
    exact HR.out _ _ ⟨rfl, J1.out.below⟩
  · have hl : L.length ≤ 1000 := by omega
    have HF := Lib.hid (fun (wz : World) (M : Same w wz) => form_any a cap L wz hl (hI.same M))
    have HW1 := Lib.hid (fun (wz : World) (M : Same w wz) => wants_any a cap L room pick wz hl (hI.same M) hw)
    have HU1 := Lib.hid (fun (wz : World) (M : Same w wz) => up_any a cap L pick wz hl (hI.same M) hw)
    have HD1 := Lib.hid (fun (wz : World) (M : Same w wz) => down_any a cap L pick wz hl (hI.same M) hw)
    have HW2 := Lib.hid (fun a' c' (wz : World) (hi : Its wz a' L) => rwants_any a' c' L room pick wz hl hi hw)
    have HU2 := Lib.hid (fun a' c' (wz : World) (hi : Its wz a' L) => rup_any a' c' L pick wz hl hi hw)
    have HD2 := Lib.hid (fun a' c' (wz : World) (hi : Its wz a' L) => rdown_any a' c' L pick wz hl hi hw)
    have HL1 := Lib.hid (fun wz => level_any h wz hh)
    have HL2 := Lib.hid (fun wz => rlevel_any h wz hh)
    generalize lev h = lh at *
    generalize upC L pick = u at *
    generalize downC L pick = d at *
    generalize wantsC L room pick = ww at *
    obtain ⟨x1, x2, x3⟩ := ww
    clear hI hw
    generalize L.length = n at *
    have h40' : ¬ (40 : Int) < (n : Int) := by omega
    clear hl h40
    go_enter Try.func6, Try.ntmps6
    go_wp2_with fail
    refine HA.out.mono ?_
    rintro e w1 ⟨rfl, M1⟩
    have J1 := Lib.hid M1
    clear M1 HA
    go_wp2_with fail
    refine (HF.out _ J1.out).mono ?_
    rintro e w2 ⟨v, b, rfl, M2, hb⟩
    have J2 := Lib.hid (J1.out.same M2)
    have HB := Lib.hid hb
    clear M2 hb J1 HF
    go_wp2_with fail
    refine (HL1.out _).mono ?_
    rintro e w3 ⟨rfl, rfl⟩
    go_wp2_with fail
    refine (HL2.out _).mono ?_
    rintro e w3 ⟨rfl, rfl⟩
    cases b
    · go_wp2
      exact HR.out _ _ ⟨rfl, (show Same w _ from J2.out).below⟩
    · obtain ⟨_, a', c', rfl, hi⟩ := HB.out rfl
      have K2 := Lib.hid hi
      clear hi HB
      go_wp2_with fail
      refine (HW1.out _ J2.out).mono ?_
      rintro e w3 ⟨rfl, M3⟩
      have J3 := Lib.hid (J2.out.same M3)
      have K3 := Lib.hid (K2.out.same M3)
      clear M3 J2 K2
      go_wp2_with fail
      refine (HW2.out _ _ _ K3.out).mono ?_
      rintro e w4 ⟨rfl, M4⟩
      have J4 := Lib.hid (J3.out.same M4)
      have K4 := Lib.hid (K3.out.same M4)
      clear M4 J3 K3
      go_wp2_with fail
      refine (HU1.out _ J4.out).mono ?_
      rintro e w5 ⟨rfl, M5⟩
      have J5 := Lib.hid (J4.out.same M5)
      have K5 := Lib.hid (K4.out.same M5)
      clear M5 J4 K4
      go_wp2_with fail
      refine (HU2.out _ _ _ K5.out).mono ?_
      rintro e w6 ⟨rfl, M6⟩
      have J6 := Lib.hid (J5.out.same M6)
      have K6 := Lib.hid (K5.out.same M6)
      clear M6 J5 K5
      go_wp2_with fail
      refine (HD1.out _ J6.out).mono ?_
      rintro e w7 ⟨rfl, M7⟩
      have J7 := Lib.hid (J6.out.same M7)
      have K7 := Lib.hid (K6.out.same M7)
      clear M7 J6 K6
      go_wp2_with fail
      refine (HD2.out _ _ _ K7.out).mono ?_
      rintro e w8 ⟨rfl, M8⟩
      have J8 := Lib.hid (J7.out.same M8)
      clear M8 J7 K7
      go_wp2
      exact HR.out _ _ ⟨by simp, (show Same w _ from J8.out).below⟩
instance : Inhabited It := ⟨it0⟩
theorem cells53 : Try.prog.cellsOf 53 = 5 := by kernel_rfl
theorem cells3r : Try.prog.cellsOf 3 = 1 := by kernel_rfl
theorem cells4r : Try.prog.cellsOf 4 = 1 := by kernel_rfl
theorem its_open {H : Type} {enc : TypeId × Value → H} {w : World} {b0 : Nat} {base : Nat} {spare : Nat → Bool} {held : Bool} {v : Value} {d : DataW H} {p : List MemPlace} (h0 : DataW.Trod enc Try.prog w base spare held 41 v d p) (hv0 : Value.okWide Try.prog w .any b0 41 v) :
    ∃ a c L, v = .slice a L.length c ∧ L.length ≤ 9223372036854775807 ∧ Its w a L ∧ Wf L := by
  obtain ⟨a, l, c, rfl, hl, hm, hi⟩ := slice_opens Try.underlying41 cells53 (by omega) hv0 h0
  unfold maxLen at hm
  have key : ∃ f : Nat → It, 0 < l → ∃ b o, a = some ⟨b, o, none⟩ ∧ b < w.heap.size ∧ ∀ i, i < l → (w.cell? ⟨b, o + i * 5, none⟩ = some (.int .i64 (f i).c) ∧ w.cell? ⟨b, o + i * 5 + 1, none⟩ = some (.int .i64 (f i).h) ∧ w.cell? ⟨b, o + i * 5 + 2, none⟩ = some (.int .i64 (f i).t) ∧ w.cell? ⟨b, o + i * 5 + 3, none⟩ = some (.bool (f i).p) ∧ w.cell? ⟨b, o + i * 5 + 4, none⟩ = some (.bool (f i).b)) ∧ (f i).h ≤ 9223372036854775807 := by
    by_cases hp : 0 < l
    · obtain ⟨b, o, ha, hb, hi⟩ := hi hp
      obtain ⟨f, hf⟩ := Go.Deep.choose_lt (n := l) (p := fun i (x : It) => (w.cell? ⟨b, o + i * 5, none⟩ = some (.int .i64 x.c) ∧ w.cell? ⟨b, o + i * 5 + 1, none⟩ = some (.int .i64 x.h) ∧ w.cell? ⟨b, o + i * 5 + 2, none⟩ = some (.int .i64 x.t) ∧ w.cell? ⟨b, o + i * 5 + 3, none⟩ = some (.bool x.p) ∧ w.cell? ⟨b, o + i * 5 + 4, none⟩ = some (.bool x.b)) ∧ x.h ≤ 9223372036854775807) (fun i hil => by
        obtain ⟨m, ds, y, hd, hc, ht⟩ := hi i hil
        obtain ⟨m', _, hf⟩ := fields_of_trod Try.underlying53 ht
        clear ht
        match ds, hd with
        | [a0, a1, a2, a3, a4], _ =>
          have c0 := hc 0 (by omega)
          have c1 := hc 1 (by omega)
          have c2 := hc 2 (by omega)
          have c3 := hc 3 (by omega)
          have c4 := hc 4 (by omega)
          simp only [List.getElem?_cons_zero, List.getElem?_cons_succ, Nat.add_zero] at c0 c1 c2 c3 c4
          clear hc
          obtain ⟨y0, h0⟩ := hf 0 _ rfl
          obtain ⟨y1, h1⟩ := hf 1 _ rfl
          obtain ⟨y2, h2⟩ := hf 2 _ rfl
          obtain ⟨y3, h3⟩ := hf 3 _ rfl
          obtain ⟨y4, h4⟩ := hf 4 _ rfl
          obtain ⟨z0, g0, _⟩ := int_of_trod Try.underlying3 (cs := [a0]) (by rw [show [a0] = ([a0, a1, a2, a3, a4].drop 0).take (Try.prog.cellsOf 3) by rw [cells3r]; rfl]; exact h0)
          obtain ⟨z1, g1, w1⟩ := int_of_trod Try.underlying3 (cs := [a1]) (by rw [show [a1] = ([a0, a1, a2, a3, a4].drop 1).take (Try.prog.cellsOf 3) by rw [cells3r]; rfl]; exact h1)
          obtain ⟨z2, g2, _⟩ := int_of_trod Try.underlying3 (cs := [a2]) (by rw [show [a2] = ([a0, a1, a2, a3, a4].drop 2).take (Try.prog.cellsOf 3) by rw [cells3r]; rfl]; exact h2)
          obtain ⟨z3, g3⟩ := bool_of_trod Try.underlying4 (cs := [a3]) (by rw [show [a3] = ([a0, a1, a2, a3, a4].drop 3).take (Try.prog.cellsOf 4) by rw [cells4r]; rfl]; exact h3)
          obtain ⟨z4, g4⟩ := bool_of_trod Try.underlying4 (cs := [a4]) (by rw [show [a4] = ([a0, a1, a2, a3, a4].drop 4).take (Try.prog.cellsOf 4) by rw [cells4r]; rfl]; exact h4)
          simp only [List.cons.injEq, and_true] at g0 g1 g2 g3 g4
          subst g0 g1 g2 g3 g4
          exact ⟨⟨z0, z1, z2, z3, z4⟩, ⟨c0, c1, c2, c3, c4⟩, (bounds_i64 w1).2⟩)
      exact ⟨f, fun _ => ⟨b, o, ha, hb, fun i hil => hf i hil⟩⟩
    · exact ⟨fun _ => it0, fun q => absurd q hp⟩
  obtain ⟨f, hf⟩ := key
  have hlen : ((List.range l).map f).length = l := by simp
  refine ⟨a, c, (List.range l).map f, by rw [hlen], by rw [hlen]; omega, fun hp => ?_, fun x hx => ?_⟩
  · rw [hlen] at hp
    obtain ⟨b, o, ha, hb, hc⟩ := hf hp
    refine ⟨b, o, ha, hb, fun i x hx => ?_⟩
    have hi : i < l := by have := (List.getElem?_eq_some_iff.1 hx).1; simpa using this
    have : x = f i := by simpa [hi] using hx.symm
    subst this
    exact (hc i hi).1
  · obtain ⟨i, hi, rfl⟩ := List.mem_map.1 hx
    have hi' : i < l := List.mem_range.1 hi
    obtain ⟨b, o, ha, hb, hc⟩ := hf (by omega)
    exact (hc i hi').2
theorem rankExact_open {H : Type} {enc : TypeId × Value → H} (w : World) (b0 : Nat) {base : Nat} {spare : Nat → Bool} {held : Bool} {v0 v1 v2 v3 : Value} {d0 d1 d2 d3 : DataW H} {p0 p1 p2 p3 : List MemPlace} (h0 : DataW.Trod enc Try.prog w base spare held 41 v0 d0 p0) (h1 : DataW.Trod enc Try.prog w base spare held 3 v1 d1 p1) (h2 : DataW.Trod enc Try.prog w base spare held 3 v2 d2 p2) (h3 : DataW.Trod enc Try.prog w base spare held 3 v3 d3 p3)
    (hv0 : Value.okWide Try.prog w .any b0 41 v0) (hv1 : Value.okWide Try.prog w .any b0 3 v1) (hv2 : Value.okWide Try.prog w .any b0 3 v2) (hv3 : Value.okWide Try.prog w .any b0 3 v3) :
    Calls Try.prog 6 #[v0, v1, v2, v3] w fun e w' => e = .returned (.bool true) ∧ Below w.heap.size w w' := by
  obtain ⟨a, c, L, rfl, hm, hI, hw⟩ := its_open h0 hv0
  obtain ⟨r, rfl, _⟩ := int_open Try.underlying3 hv1 h1
  obtain ⟨k, rfl, _⟩ := int_open Try.underlying3 hv2 h2
  obtain ⟨h, rfl, hh⟩ := int_open Try.underlying3 hv3 h3
  exact rankExact_walk a c L r k h w hm hI hw (bounds_i64 hh).2
end Go.Proofs.Yteommjbbjdbhkaa
