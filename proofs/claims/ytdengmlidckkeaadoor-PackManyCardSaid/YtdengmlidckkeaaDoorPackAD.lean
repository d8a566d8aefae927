import Derived.Test.YtdengmlidckkeaaDoorPackAC
set_option linter.unusedSimpArgs false
set_option linter.unusedVariables false
namespace Go.Proofs.YtdengmlidckkeaaDoor
open Go Go.RowKit
theorem ok9 : PO.ok ⟨9, []⟩ := .inl ⟨rfl, rfl⟩
theorem ok1 : PO.ok ⟨1, [5]⟩ := .inr ⟨.inl rfl, 5, by unfold I64; omega, rfl⟩
theorem ok4 : PO.ok ⟨4, [1]⟩ := .inr ⟨.inr (.inl rfl), 1, by unfold I64; omega, rfl⟩
theorem pack9 : packO ⟨9, []⟩ = [10] := by decide
theorem pack1 : packO ⟨1, [5]⟩ = [2, 5, 0, 0, 0, 0, 0, 0, 0] := by decide
theorem pack4 : packO ⟨4, [1]⟩ = [5, 1, 0, 0, 0, 0, 0, 0, 0] := by decide
theorem two_new (w : World) (x y : Value) (t : TypeId) : ∀ i o, [x, y][i]? = some o → (w.alloc (.cells #[x, y] t)).cell? ⟨w.heap.size, 0 + i, none⟩ = some o := by
  intro i o h
  match i, h with
  | 0, h => simp at h; subst h; simp
  | 1, h => simp at h; subst h; simp
set_option maxRecDepth 10000 in
set_option maxHeartbeats 1000000 in
theorem awake_any (w : World) (hT : TabOK w) : Calls Tryd.prog 7 #[] w fun e w' => e = .returned (.bool true) ∧ Same w w' := by
  refine opq fun R HR => ?_
  have HT := Lib.hid hT
  have H1 := Lib.hid (fun w hT => show Calls Tryd.prog 22 #[.iface 57 (.agg #[])] w fun e w' => e = .returned (.tuple #[.string ⟨#[10]⟩, .int .i64 0]) ∧ Same w w' from bytes_po ok9 w hT)
  have H2 := Lib.hid (fun w => show Calls Tryd.prog 23 #[.string ⟨#[2, 5, 0, 0, 0, 0, 0, 0, 0, 114, 101, 115, 116]⟩] w fun e w' => e = .returned (.tuple #[.iface 62 (.agg #[.int .i64 5]), .int .i64 9, .int .i64 0]) ∧ Same w w' from read_po ok1 [114, 101, 115, 116] (by decide) w)
  have hL : ∀ o ∈ ([⟨9, []⟩, ⟨4, [1]⟩] : List PO), o.ok := by
    intro o ho; simp at ho; rcases ho with rfl | rfl
    · exact ok9
    · exact ok4
  have hlen : (sealL (allL [⟨9, []⟩, ⟨4, [1]⟩])).length = 16 := by rw [sealL_len]; decide
  have H3 := Lib.hid (fun b o0 c w hT hb hc => all_po [⟨9, []⟩, ⟨4, [1]⟩] hL b o0 2 c rfl (by decide) (by decide) w hT hb hc)
  have H4 := Lib.hid (fun w => parse_po [⟨9, []⟩, ⟨4, [1]⟩] hL 2 rfl (by decide) w)
  have H5 := Lib.hid (fun w => bytes_nil w)
  have H6 := Lib.hid (fun w hT => show Calls Tryd.prog 24 #[.iface 62 (.agg #[.int .i64 5]), .iface 62 (.agg #[.int .i64 5])] w fun e w' => e = .returned (.bool true) ∧ Same w w' from alike_po ok1 w hT)
  have H7 := Lib.hid (fun w hT => show Calls Tryd.prog 24 #[.iface 61 (.agg #[.int .i64 1]), .iface 61 (.agg #[.int .i64 1])] w fun e w' => e = .returned (.bool true) ∧ Same w w' from alike_po ok4 w hT)
  have hsz := bytes_size (sealL (allL [⟨9, []⟩, ⟨4, [1]⟩]))
  rw [hlen] at hsz
  generalize sealL (allL [⟨9, []⟩, ⟨4, [1]⟩]) = S at *
  clear hlen hL hT
  go_enter Tryd.func7, Tryd.ntmps7
  go_wp2_with fail
  refine (H1.out _ HT.out).mono ?_
  rintro e w1 ⟨rfl, M1⟩
  have K1 := Lib.hid M1
  clear M1 H1
  go_wp2_with fail
  refine (H2.out _).mono ?_
  rintro e w2 ⟨rfl, M2⟩
  have K2 := Lib.hid (K1.out.same M2)
  clear M2 H2 K1
  go_wp2_with fail
  refine (H3.out w2.heap.size 0 2 _ (tab_same HT.out (K2.out.alloc _)) (by simp) (fun i o h => two_new w2 (.iface 57 (.agg #[])) (.iface 61 (.agg #[.int .i64 1])) 41 i (poVal o) (by rw [show [(Value.iface 57 (.agg #[]) : Value), .iface 61 (.agg #[.int .i64 1])] = ([⟨9, []⟩, ⟨4, [1]⟩] : List PO).map poVal from rfl, List.getElem?_map, h]; rfl))).mono ?_
  rintro e w3 ⟨rfl, M3⟩
  have K3 := Lib.hid ((K2.out.alloc (.cells #[.iface 57 (.agg #[]), .iface 61 (.agg #[.int .i64 1])] 41)).same M3)
  clear M3 H3 K2
  go_wp2_with fail
  refine (H4.out _).mono ?_
  rintro e w4 ⟨a, c, rfl, hl, M4⟩
  obtain ⟨b, o, rfl, hb, hc⟩ := hl (by decide)
  have hc1 := hc 1 ⟨4, [1]⟩ rfl
  have K4 := Lib.hid (K3.out.same M4)
  have KC := Lib.hid (show w4.cell? ⟨b, o + 1, none⟩ = some (.iface 61 (.agg #[.int .i64 1])) from hc1)
  clear M4 H4 K3 hl hc hc1
  go_wp2_with fail
  refine (H5.out _).mono ?_
  rintro e w5 ⟨rfl, M5⟩
  have K5 := Lib.hid (K4.out.same M5)
  have KC5 := Lib.hid ((M5.cell hb (fun q => q) _).trans KC.out)
  have hb5 : b < w5.heap.size := Nat.lt_of_lt_of_le hb M5.size
  clear M5 H5 K4 KC hb
  go_wp2_with fail
  refine (H6.out _ (tab_same HT.out K5.out)).mono ?_
  rintro e w6 ⟨rfl, M6⟩
  have K6 := Lib.hid (K5.out.same M6)
  have hc6 := (M6.cell hb5 (fun q => q) _).trans KC5.out
  have hb6 : b < w6.heap.size := Nat.lt_of_lt_of_le hb5 M6.size
  clear M6 H6 K5 KC5 hb5
  go_wp2_with fail
  refine (H7.out _ (tab_same HT.out K6.out)).mono ?_
  rintro e w7 ⟨rfl, M7⟩
  have K7 := Lib.hid (K6.out.same M7)
  clear M7 H7 K6 hc6
  go_wp2
  exact HR.out _ _ ⟨rfl, K7.out⟩
end Go.Proofs.YtdengmlidckkeaaDoor
