import Derived.Test.YtdengmlidckkeaaDoorPackY
set_option linter.unusedSimpArgs false
set_option linter.unusedVariables false
namespace Go.Proofs.YtdengmlidckkeaaDoor
open Go Go.RowKit
theorem packO_ne {o : PO} (h : o.ok) : packO o ≠ [] := by
  intro e; have := (packO_len h).1; rw [e] at this; simp at this
set_option maxRecDepth 10000 in
theorem bytes_po {o : PO} (h : o.ok) (w : World) (hT : TabOK w) : Calls Tryd.prog 22 #[poVal o] w fun e w' => e = .returned (.tuple #[.string ⟨(packO o).toArray⟩, .int .i64 0]) ∧ Same w w' := by
  refine opq fun R HR => ?_
  have HPt := Lib.hid (fun w hT B b l hW h1 h2 h3 => po_put h w hT B b l hW h1 h2 h3)
  have HNe := Lib.hid (packO_ne h)
  have h4 := tab_lt hT
  have HT := Lib.hid (tab_same hT ((Mod.refl (fun _ => False) w).alloc (.cells #[.pointer none, .slice none 0 0] 67)))
  obtain ⟨T, x, hv⟩ : ∃ T x, poVal o = .iface T x := ⟨_, _, rfl⟩
  rw [hv] at HPt ⊢
  clear hT hv
  have H0 := Lib.hid (wr_new w w.heap.size (Nat.le_refl _))
  have B0 := Lib.hid (Below.alloc (Below.refl w.heap.size w) (Nat.le_refl _) (.cells #[.pointer none, .slice none 0 0] 67))
  have hsz : w.heap.size ≤ (w.alloc (.cells #[.pointer none, .slice none 0 0] 67)).heap.size := B0.out.size
  go_enter Tryd.func22, Tryd.ntmps22
  go_wp2_with fail
  generalize w.alloc _ = W at *
  generalize hZ : w.heap.size = Z at *
  refine (HPt.out W HT.out Z Z [] H0.out (by simp) hsz h4).mono ?_
  rintro e w1 ⟨rfl, h1, h2⟩
  rw [List.nil_append] at h1
  have K1 := Lib.hid h1
  have K2 := Lib.hid (B0.out.trans h2)
  clear h1 h2 H0 B0 HPt
  go_wp2_with fail
  refine (string_any Z Z _ w1 K1.out HNe.out).mono ?_
  rintro e w2 ⟨rfl, h1⟩
  have K3 := Lib.hid (K2.out.trans h1)
  clear h1
  go_wp2
  exact HR.out _ _ ⟨rfl, Same.of_below (by rw [hZ]; exact K3.out)⟩
set_option maxRecDepth 10000 in
theorem alike_po {o : PO} (h : o.ok) (w : World) (hT : TabOK w) : Calls Tryd.prog 24 #[poVal o, poVal o] w fun e w' => e = .returned (.bool true) ∧ Same w w' := by
  refine opq fun R HR => ?_
  have HL := Lib.hid (fun w hT => po_line h w hT)
  have HT := Lib.hid hT
  obtain ⟨T, x, hv⟩ : ∃ T x, poVal o = .iface T x := ⟨_, _, rfl⟩
  rw [hv] at HL ⊢
  generalize textN o.k o.ns = tx at *
  clear hT hv
  go_enter Tryd.func24, Tryd.ntmps24
  go_wp2_with fail
  refine (HL.out _ HT.out).mono ?_
  rintro e w1 ⟨rfl, M1⟩
  have K1 := Lib.hid M1
  clear M1
  go_wp2_with fail
  refine (HL.out _ (tab_same HT.out K1.out)).mono ?_
  rintro e w2 ⟨rfl, M2⟩
  have K2 := Lib.hid (K1.out.same M2)
  clear M2
  go_wp2
  exact HR.out _ _ ⟨rfl, K2.out⟩
theorem as83_nil (W : World) : (Instr.typeAssert .nilIface 41 83 true).run Tryd.prog W = .ok (.tuple #[.agg #[.int .i64 0, .int .i64 0], .bool false]) W := by kernel_rfl
theorem as62_nil (W : World) : (Instr.typeAssert .nilIface 41 62 true).run Tryd.prog W = .ok (.tuple #[.agg #[.int .i64 0], .bool false]) W := by kernel_rfl
theorem as98_nil (W : World) : (Instr.typeAssert .nilIface 41 98 true).run Tryd.prog W = .ok (.tuple #[.agg #[.int .i64 0, .int .i64 0], .bool false]) W := by kernel_rfl
theorem as99_nil (W : World) : (Instr.typeAssert .nilIface 41 99 true).run Tryd.prog W = .ok (.tuple #[.agg #[.int .i64 0, .int .i64 0], .bool false]) W := by kernel_rfl
theorem as61_nil (W : World) : (Instr.typeAssert .nilIface 41 61 true).run Tryd.prog W = .ok (.tuple #[.agg #[.int .i64 0], .bool false]) W := by kernel_rfl
theorem as100_nil (W : World) : (Instr.typeAssert .nilIface 41 100 true).run Tryd.prog W = .ok (.tuple #[.agg #[.int .i64 0], .bool false]) W := by kernel_rfl
theorem as102_nil (W : World) : (Instr.typeAssert .nilIface 41 102 true).run Tryd.prog W = .ok (.tuple #[.agg #[.int .i64 0, .int .i64 0, .int .i64 0], .bool false]) W := by kernel_rfl
theorem as104_nil (W : World) : (Instr.typeAssert .nilIface 41 104 true).run Tryd.prog W = .ok (.tuple #[.agg #[.int .i64 0, .int .i64 0, .string ⟨#[]⟩], .bool false]) W := by kernel_rfl
theorem as105_nil (W : World) : (Instr.typeAssert .nilIface 41 105 true).run Tryd.prog W = .ok (.tuple #[.agg #[.int .i64 0, .int .i64 0, .int .i64 0], .bool false]) W := by kernel_rfl
theorem as26_nil (W : World) : (Instr.typeAssert .nilIface 41 26 true).run Tryd.prog W = .ok (.tuple #[.agg #[.int .i64 0], .bool false]) W := by kernel_rfl
theorem as109_nil (W : World) : (Instr.typeAssert .nilIface 41 109 true).run Tryd.prog W = .ok (.tuple #[.agg #[.int .i64 0], .bool false]) W := by kernel_rfl
theorem as111_nil (W : World) : (Instr.typeAssert .nilIface 41 111 true).run Tryd.prog W = .ok (.tuple #[.agg #[.string ⟨#[]⟩, .string ⟨#[]⟩, .string ⟨#[]⟩], .bool false]) W := by kernel_rfl
theorem as57_nil (W : World) : (Instr.typeAssert .nilIface 41 57 true).run Tryd.prog W = .ok (.tuple #[.agg #[], .bool false]) W := by kernel_rfl
theorem as106_nil (W : World) : (Instr.typeAssert .nilIface 41 106 true).run Tryd.prog W = .ok (.tuple #[.agg #[], .bool false]) W := by kernel_rfl
theorem as107_nil (W : World) : (Instr.typeAssert .nilIface 41 107 true).run Tryd.prog W = .ok (.tuple #[.agg #[], .bool false]) W := by kernel_rfl
set_option maxRecDepth 10000 in
theorem parts_nil (w : World) : Calls Tryd.prog 42 #[.nilIface] w fun e w' => e = .returned (.tuple #[.slice none 0 0, .slice none 0 0, .bool false]) ∧ Same w w' := by
  refine opq fun R HR => ?_
  have m83 := as83_nil
  have m62 := as62_nil
  have m98 := as98_nil
  have m99 := as99_nil
  have m61 := as61_nil
  have m100 := as100_nil
  have m102 := as102_nil
  have m104 := as104_nil
  have m105 := as105_nil
  have m26 := as26_nil
  have m109 := as109_nil
  have m111 := as111_nil
  have m57 := as57_nil
  have m106 := as106_nil
  have m107 := as107_nil
  go_enter Tryd.func42, Tryd.ntmps42
  go_wp2_with fail
  exact HR.out _ _ ⟨rfl, Mod.refl _ _⟩
set_option maxRecDepth 10000 in
theorem bytes_nil (w : World) : Calls Tryd.prog 22 #[.nilIface] w fun e w' => e = .returned (.tuple #[.string ⟨#[]⟩, .int .i64 1]) ∧ Same w w' := by
  refine opq fun R HR => ?_
  go_enter Tryd.func22, Tryd.ntmps22
  have HP := Lib.hid (fun w => parts_nil w)
  go_wp2_with (first
    | (go_at_call 42; refine (HP.out _).mono ?_; rintro e w1 ⟨rfl, M1⟩; have K1 := Lib.hid M1; clear M1)
    | go_in)
  exact HR.out _ _ ⟨rfl, (((Mod.refl (fun _ => False) w).alloc _)).same K1.out⟩
end Go.Proofs.YtdengmlidckkeaaDoor
