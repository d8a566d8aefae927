import Derived.Test.YtdengmlidckkeaaGreatDoorOrdU
set_option linter.unusedSimpArgs false
set_option linter.unusedVariables false
namespace Go.Proofs.YtdengmlidckkeaaGreatDoor
open Go Go.RowKit
theorem ordW_iface (o : OW) : ∃ T x, ordW o = .iface T x := ⟨_, _, rfl⟩
/-- Whether two orders are told alike: one and the same is. -/
theorem alike20_same (o : OW) (hf : o.form) (hfit : o.fits = true) (w : World) (hL : LibOK w) :
    Calls Tryz.prog 34 #[ordW o, ordW o] w fun e w' => e = .returned (.bool true) ∧ Same w w' := by
  refine opq fun R HR => ?_
  have HT := Lib.hid (fun (w : World) (hL : LibOK w) => text_ok o hf hfit w hL.tab)
  have HL := Lib.hid hL
  clear hf hfit hL
  generalize (⟨(textO o).toArray⟩ : ByteArray) = tx at *
  obtain ⟨T, x, hv⟩ := ordW_iface o
  rw [hv] at HT ⊢
  clear hv
  go_enter Tryz.func34, Tryz.ntmps34
  go_wp2_with fail
  refine (HT.out _ HL.out).mono ?_
  rintro e w1 ⟨rfl, M1⟩
  have K1 := Lib.hid M1
  clear M1
  go_wp2_with fail
  refine (HT.out _ (HL.out.same K1.out)).mono ?_
  rintro e w2 ⟨rfl, M2⟩
  have K2 := Lib.hid (K1.out.same M2)
  clear M2 HT
  go_wp2
  exact HR.out _ _ ⟨rfl, K2.out⟩
theorem num_plain (l : List UInt8) (n : Int) (hn : I64 n) (h : plainL l = Lib.itoa n) : num l = (n, true) := by
  unfold num; rw [number_same, h, ref_itoa n hn]
theorem itoa1 : Lib.itoa 1 = [49] := by rw [itoa_pos 1 (by decide)]; exact Lib.decDigits_one (i := 1) (by decide)
theorem itoa8 : Lib.itoa 8 = [56] := by rw [itoa_pos 8 (by decide)]; exact Lib.decDigits_one (i := 8) (by decide)
theorem itoam12 : Lib.itoa (-12) = [45, 49, 50] := by
  rw [itoa_neg (-12) (by decide)]
  show 45 :: Lib.decDigits 12 = _
  rw [Lib.decDigits_two (by decide) (by decide)]; rfl
theorem num_w1 : num [239, 188, 145] = (1, true) := num_plain _ 1 (by unfold I64; omega) (by rw [itoa1]; decide)
theorem num_8 : num [56] = (8, true) := num_plain _ 8 (by unfold I64; omega) (by rw [itoa8]; decide)
theorem num_m12 : num [45, 239, 188, 145, 239, 188, 146] = (-12, true) := num_plain _ (-12) (by unfold I64; omega) (by rw [itoam12]; decide)
def oC : OW := ⟨0, [1, 8], []⟩
theorem oC_form : oC.form := ⟨by decide, rfl, rfl, fun n hn => by unfold oC at hn; simp at hn; unfold I64; omega⟩
theorem oC_text : textO oC = [99, 114, 101, 97, 116, 101, 32, 49, 32, 56] := by
  unfold textO oC
  simp only [List.map_cons, List.map_nil]
  rw [itoa1, itoa8]; decide
theorem parse_w1 : parseL [99, 114, 101, 97, 116, 101, 32, 239, 188, 145, 32, 56] = some oC := by
  have e : spl [99, 114, 101, 97, 116, 101, 32, 239, 188, 145, 32, 56] = [wordL 0, [239, 188, 145], [56]] := by decide
  unfold parseL
  rw [e]
  unfold parseW
  simp only [rdNext]
  rw [kind_word 0 (by decide)]
  have e2 : rdKind 0 ([[239, 188, 145], [56]], false) = (oC, ([], false)) := by
    show ((⟨0, [(num [239, 188, 145]).1, (num [56]).1], []⟩ : OW), (([] : List (List UInt8)), (false || !(num [239, 188, 145]).2) || !(num [56]).2)) = _
    rw [num_w1, num_8]; rfl
  simp only [e2]; rfl
theorem bytes_w : refBytes [226, 160, 129, 226, 163, 191] = ([1, 255], true) := by decide +kernel
set_option maxRecDepth 10000 in
set_option maxHeartbeats 1000000 in
theorem awake20_any (w : World) (hL : LibOK w) : Calls Tryz.prog 6 #[] w fun e w' => e = .returned (.bool true) ∧ Same w w' := by
  refine opq fun R HR => ?_
  have HL := Lib.hid hL
  have H1 := Lib.hid (fun (w : World) (hL : LibOK w) => show Calls Tryz.prog 11 #[.iface 74 (.agg #[.int .i64 1, .int .i64 8])] w fun e w' => e = .returned (.tuple #[.string ⟨#[99, 114, 101, 97, 116, 101, 32, 49, 32, 56]⟩, .int .i64 0]) ∧ Same w w' by
    have := text_ok oC oC_form rfl w hL.tab
    rw [oC_text] at this; exact this)
  have H2 := Lib.hid (fun (w : World) (hL : LibOK w) => show Calls Tryz.prog 17 #[.string ⟨#[99, 114, 101, 97, 116, 101, 32, 239, 188, 145, 32, 56]⟩] w fun e w' => e = .returned (.tuple #[.iface 74 (.agg #[.int .i64 1, .int .i64 8]), .int .i64 0]) ∧ Same w w' by
    have := parse_any [99, 114, 101, 97, 116, 101, 32, 239, 188, 145, 32, 56] (by decide) w hL
    rw [parse_w1] at this; exact this)
  have H3 := Lib.hid (fun (w : World) (hL : LibOK w) => show Calls Tryz.prog 32 #[.string ⟨#[45, 239, 188, 145, 239, 188, 146]⟩] w fun e w' => e = .returned (.tuple #[.int .i64 (-12), .bool true]) ∧ Same w w' by
    have := number_any ⟨[45, 239, 188, 145, 239, 188, 146].toArray⟩ (by decide) w hL.vars
    rw [show numberL ⟨[45, 239, 188, 145, 239, 188, 146].toArray⟩ = (-12, true) from num_m12] at this; exact this)
  have H4 := Lib.hid (fun (w : World) (hL : LibOK w) => show Calls Tryz.prog 33 #[.string ⟨#[226, 160, 129, 226, 163, 191]⟩] w fun e w' => e = .returned (.tuple #[.string ⟨#[1, 255]⟩, .bool true]) ∧ Same w w' by
    have := bytes_any [226, 160, 129, 226, 163, 191] (by decide) w hL.utf
    rw [bytes_w] at this; exact this)
  have H5 := Lib.hid (fun (w : World) (hL : LibOK w) => show Calls Tryz.prog 34 #[.iface 74 (.agg #[.int .i64 1, .int .i64 8]), .iface 74 (.agg #[.int .i64 1, .int .i64 8])] w fun e w' => e = .returned (.bool true) ∧ Same w w' from alike20_same oC oC_form rfl w hL)
  clear hL
  go_enter Tryz.func6, Tryz.ntmps6
  go_wp2_with fail
  refine (H1.out _ HL.out).mono ?_
  rintro e w1 ⟨rfl, M1⟩
  have K1 := Lib.hid M1
  clear M1 H1
  go_wp2_with fail
  refine (H2.out _ (HL.out.same K1.out)).mono ?_
  rintro e w2 ⟨rfl, M2⟩
  have K2 := Lib.hid (K1.out.same M2)
  clear M2 H2 K1
  go_wp2_with fail
  refine (H3.out _ (HL.out.same K2.out)).mono ?_
  rintro e w3 ⟨rfl, M3⟩
  have K3 := Lib.hid (K2.out.same M3)
  clear M3 H3 K2
  go_wp2_with fail
  refine (H4.out _ (HL.out.same K3.out)).mono ?_
  rintro e w4 ⟨rfl, M4⟩
  have K4 := Lib.hid (K3.out.same M4)
  clear M4 H4 K3
  go_wp2_with fail
  refine (text_nil _).mono ?_
  rintro e w5 ⟨rfl, M5⟩
  have K5 := Lib.hid (K4.out.same M5)
  clear M5 K4
  go_wp2_with fail
  refine (H5.out _ (HL.out.same K5.out)).mono ?_
  rintro e w6 ⟨rfl, M6⟩
  have K6 := Lib.hid (K5.out.same M6)
  clear M6 H5 K5
  go_wp2
  exact HR.out _ _ ⟨rfl, K6.out⟩
end Go.Proofs.YtdengmlidckkeaaGreatDoor
