import Derived.Test.YtlcepoagpocadaaGreatDoorMeU
set_option linter.unusedSimpArgs false
set_option linter.unusedVariables false
set_option maxRecDepth 100000
/- An order is done. -/
namespace Go.Proofs.YtlcepoagpocadaaGreatDoor
open Go Go.RowKit
theorem is25 (W : World) (v : Value) : (Instr.typeAssert (.iface 25 v) 27 25 true).run Tryz.prog W = .ok (.tuple #[v, .bool true]) W := by kernel_rfl
theorem no25 (W : World) (u : TypeId) (v : Value) (h : u ≠ 25) : (Instr.typeAssert (.iface u v) 27 25 true).run Tryz.prog W = .ok (.tuple #[.agg #[.int .i64 0, .int .i64 0], .bool false]) W := by
  have e : (Instr.typeAssert (.iface u v) 27 25 true).run Tryz.prog W = (if u = 25 then (pure (Value.tuple #[v, .bool true]) : Sem Value) else (do pure (Value.tuple #[← zeroValue 25, .bool false]))).run Tryz.prog W := by kernel_rfl
  rw [e, if_neg h]
  have z : (do pure (Value.tuple #[← zeroValue 25, .bool false]) : Sem Value).run Tryz.prog W = .ok (.tuple #[.agg #[.int .i64 0, .int .i64 0], .bool false]) W := by kernel_rfl
  exact z
theorem is79 (W : World) (v : Value) : (Instr.typeAssert (.iface 79 v) 27 79 true).run Tryz.prog W = .ok (.tuple #[v, .bool true]) W := by kernel_rfl
theorem no79 (W : World) (u : TypeId) (v : Value) (h : u ≠ 79) : (Instr.typeAssert (.iface u v) 27 79 true).run Tryz.prog W = .ok (.tuple #[.agg #[.int .i64 0], .bool false]) W := by
  have e : (Instr.typeAssert (.iface u v) 27 79 true).run Tryz.prog W = (if u = 79 then (pure (Value.tuple #[v, .bool true]) : Sem Value) else (do pure (Value.tuple #[← zeroValue 79, .bool false]))).run Tryz.prog W := by kernel_rfl
  rw [e, if_neg h]
  have z : (do pure (Value.tuple #[← zeroValue 79, .bool false]) : Sem Value).run Tryz.prog W = .ok (.tuple #[.agg #[.int .i64 0], .bool false]) W := by kernel_rfl
  exact z
theorem is81 (W : World) (v : Value) : (Instr.typeAssert (.iface 81 v) 27 81 true).run Tryz.prog W = .ok (.tuple #[v, .bool true]) W := by kernel_rfl
theorem no81 (W : World) (u : TypeId) (v : Value) (h : u ≠ 81) : (Instr.typeAssert (.iface u v) 27 81 true).run Tryz.prog W = .ok (.tuple #[.agg #[.int .i64 0, .int .i64 0], .bool false]) W := by
  have e : (Instr.typeAssert (.iface u v) 27 81 true).run Tryz.prog W = (if u = 81 then (pure (Value.tuple #[v, .bool true]) : Sem Value) else (do pure (Value.tuple #[← zeroValue 81, .bool false]))).run Tryz.prog W := by kernel_rfl
  rw [e, if_neg h]
  have z : (do pure (Value.tuple #[← zeroValue 81, .bool false]) : Sem Value).run Tryz.prog W = .ok (.tuple #[.agg #[.int .i64 0, .int .i64 0], .bool false]) W := by kernel_rfl
  exact z
theorem is137 (W : World) (v : Value) : (Instr.typeAssert (.iface 137 v) 27 137 true).run Tryz.prog W = .ok (.tuple #[v, .bool true]) W := by kernel_rfl
theorem no137 (W : World) (u : TypeId) (v : Value) (h : u ≠ 137) : (Instr.typeAssert (.iface u v) 27 137 true).run Tryz.prog W = .ok (.tuple #[.agg #[.int .i64 0, .int .i64 0], .bool false]) W := by
  have e : (Instr.typeAssert (.iface u v) 27 137 true).run Tryz.prog W = (if u = 137 then (pure (Value.tuple #[v, .bool true]) : Sem Value) else (do pure (Value.tuple #[← zeroValue 137, .bool false]))).run Tryz.prog W := by kernel_rfl
  rw [e, if_neg h]
  have z : (do pure (Value.tuple #[← zeroValue 137, .bool false]) : Sem Value).run Tryz.prog W = .ok (.tuple #[.agg #[.int .i64 0, .int .i64 0], .bool false]) W := by kernel_rfl
  exact z
theorem is139 (W : World) (v : Value) : (Instr.typeAssert (.iface 139 v) 27 139 true).run Tryz.prog W = .ok (.tuple #[v, .bool true]) W := by kernel_rfl
theorem no139 (W : World) (u : TypeId) (v : Value) (h : u ≠ 139) : (Instr.typeAssert (.iface u v) 27 139 true).run Tryz.prog W = .ok (.tuple #[.agg #[.int .i64 0], .bool false]) W := by
  have e : (Instr.typeAssert (.iface u v) 27 139 true).run Tryz.prog W = (if u = 139 then (pure (Value.tuple #[v, .bool true]) : Sem Value) else (do pure (Value.tuple #[← zeroValue 139, .bool false]))).run Tryz.prog W := by kernel_rfl
  rw [e, if_neg h]
  have z : (do pure (Value.tuple #[← zeroValue 139, .bool false]) : Sem Value).run Tryz.prog W = .ok (.tuple #[.agg #[.int .i64 0], .bool false]) W := by kernel_rfl
  exact z
theorem is141 (W : World) (v : Value) : (Instr.typeAssert (.iface 141 v) 27 141 true).run Tryz.prog W = .ok (.tuple #[v, .bool true]) W := by kernel_rfl
theorem no141 (W : World) (u : TypeId) (v : Value) (h : u ≠ 141) : (Instr.typeAssert (.iface u v) 27 141 true).run Tryz.prog W = .ok (.tuple #[.agg #[.int .i64 0], .bool false]) W := by
  have e : (Instr.typeAssert (.iface u v) 27 141 true).run Tryz.prog W = (if u = 141 then (pure (Value.tuple #[v, .bool true]) : Sem Value) else (do pure (Value.tuple #[← zeroValue 141, .bool false]))).run Tryz.prog W := by kernel_rfl
  rw [e, if_neg h]
  have z : (do pure (Value.tuple #[← zeroValue 141, .bool false]) : Sem Value).run Tryz.prog W = .ok (.tuple #[.agg #[.int .i64 0], .bool false]) W := by kernel_rfl
  exact z
theorem is94 (W : World) (v : Value) : (Instr.typeAssert (.iface 94 v) 27 94 true).run Tryz.prog W = .ok (.tuple #[v, .bool true]) W := by kernel_rfl
theorem no94 (W : World) (u : TypeId) (v : Value) (h : u ≠ 94) : (Instr.typeAssert (.iface u v) 27 94 true).run Tryz.prog W = .ok (.tuple #[.agg #[.int .i64 0, .int .i64 0, .int .i64 0], .bool false]) W := by
  have e : (Instr.typeAssert (.iface u v) 27 94 true).run Tryz.prog W = (if u = 94 then (pure (Value.tuple #[v, .bool true]) : Sem Value) else (do pure (Value.tuple #[← zeroValue 94, .bool false]))).run Tryz.prog W := by kernel_rfl
  rw [e, if_neg h]
  have z : (do pure (Value.tuple #[← zeroValue 94, .bool false]) : Sem Value).run Tryz.prog W = .ok (.tuple #[.agg #[.int .i64 0, .int .i64 0, .int .i64 0], .bool false]) W := by kernel_rfl
  exact z
theorem is117 (W : World) (v : Value) : (Instr.typeAssert (.iface 117 v) 27 117 true).run Tryz.prog W = .ok (.tuple #[v, .bool true]) W := by kernel_rfl
theorem no117 (W : World) (u : TypeId) (v : Value) (h : u ≠ 117) : (Instr.typeAssert (.iface u v) 27 117 true).run Tryz.prog W = .ok (.tuple #[.agg #[], .bool false]) W := by
  have e : (Instr.typeAssert (.iface u v) 27 117 true).run Tryz.prog W = (if u = 117 then (pure (Value.tuple #[v, .bool true]) : Sem Value) else (do pure (Value.tuple #[← zeroValue 117, .bool false]))).run Tryz.prog W := by kernel_rfl
  rw [e, if_neg h]
  have z : (do pure (Value.tuple #[← zeroValue 117, .bool false]) : Sem Value).run Tryz.prog W = .ok (.tuple #[.agg #[], .bool false]) W := by kernel_rfl
  exact z
section
variable {K : Nat → Prop} {w : World} {m : Nat} {S : MS} {v v' : Vo}
set_option maxHeartbeats 4000000 in
theorem do_create (h : Md Tryz.prog K w m S) (G : Good S) (W : Wf S) (id size : Int) (hid : I64 id) (hsz : I64 size)
    (HT : ∀ w', Same w w' → Calls Tryz.prog 51 #[.iface 25 (.agg #[.int .i64 id, .int .i64 size])] w' fun e w'' => ∃ s, e = .returned (.tuple #[.string s, .int .i64 0]) ∧ Same w' w'') :
    Calls Tryz.prog 20 #[bp m, .iface 25 (.agg #[.int .i64 id, .int .i64 size])] w fun e w' => ∃ b pb, e = .returned (.agg #[.int .i64 ((createS S id size b pb).1), .string ⟨#[]⟩, .slice none 0 0]) ∧ Md Tryz.prog K w' m (createS S id size b pb).2 ∧ Mod (fun i => ¬ K i) w w' := by
  refine opq fun R HR => ?_
  have HM := Lib.hid h
  have HG := Lib.hid G
  have HWf := Lib.hid W
  have HTX := Lib.hid HT
  have Xhid := Lib.hid hid
  have Xhsz := Lib.hid hsz
  have a25 := fun W => is25 W (.agg #[.int .i64 id, .int .i64 size])
  obtain ⟨W1, hW1⟩ : ∃ z, w.alloc (.cells #[.int .i64 0, .string ⟨#[]⟩, .slice none 0 0] 31) = z := ⟨_, rfl⟩
  have J1 := Lib.hid (show Same w W1 by rw [← hW1]; exact (Mod.refl _ _).alloc _)
  have B1 := Lib.hid (show Blk W1 w.heap.size #[.int .i64 0, .string ⟨#[]⟩, .slice none 0 0] by rw [← hW1]; exact Blk.new w _ 31)
  clear h G W HT hid hsz
  go_enter Tryz.func20, Tryz.ntmps20
  go_wp2_with fail
  refine (HTX.out W1 J1.out).mono ?_
  rintro e w2 ⟨s, rfl, M⟩
  have J2 := Lib.hid (J1.out.same M)
  have B2 := Lib.hid (B1.out.mod M (fun q => q))
  have hs2 : w.heap.size < w2.heap.size := B2.out.lt
  clear M hW1 B1 J1
  obtain ⟨W3, hW3⟩ : ∃ z, w2.alloc (.cells #[.int .i64 id, .int .i64 size] 25) = z := ⟨_, rfl⟩
  have N3 := Lib.hid (show Same w2 W3 by rw [← hW3]; exact (Mod.refl _ _).alloc _)
  have C3 := Lib.hid (show Blk W3 w2.heap.size #[.int .i64 id, .int .i64 size] by rw [← hW3]; exact Blk.new w2 _ 25)
  have B3 := Lib.hid (B2.out.mod N3.out (fun q => q))
  have J3 := Lib.hid (J2.out.same N3.out)
  have HM3 := Lib.hid (HM.out.more J3.out)
  have hs3 : w.heap.size < W3.heap.size := B3.out.lt
  have c0 := C3.out.at_ (i := 0) (.int .i64 id) rfl
  have c1 := C3.out.at_ (i := 1) (.int .i64 size) rfl
  go_wp2_with fail
  refine (create_md HM3.out HG.out HWf.out id size Xhid.out Xhsz.out).mono ?_
  rintro e w4 ⟨b, pb, rfl, hm4, M4⟩
  clear c0 c1 hW3 C3
  have B4 := Lib.hid (B3.out.mod M4 (fun q => q (Or.inr ⟨Nat.le_refl _, hs3⟩)))
  have HM4 := Lib.hid hm4
  have M4H := Lib.hid M4
  clear hm4 M4
  generalize hr : (createS S id size b pb).1 = r at *
  have fA := fun i => B4.out.free i
  have a0 := B4.out.at_ (i := 0) (.int .i64 0) rfl
  have a1 := B4.out.at_ (i := 1) (.string ⟨#[]⟩) rfl
  have a2 := B4.out.at_ (i := 2) (.slice none 0 0) rfl
  have HRR := Lib.hid hr
  clear hr
  go_wp2
  have BF := ((B4.out.set 0 (.int .i64 r)).set 1 (.string ⟨#[]⟩)).set 2 (.slice none 0 0)
  have g0 := BF.at_ (i := 0) (.int .i64 r) rfl
  have g1 := BF.at_ (i := 1) (.string ⟨#[]⟩) rfl
  have g2 := BF.at_ (i := 2) (.slice none 0 0) rfl
  have MS4 := Lib.hid ((((Mod.refl (fun i => i = w.heap.size) w4).setCell (p := ⟨w.heap.size, 0, none⟩) (fun _ => rfl) (.int .i64 r)).setCell (p := ⟨w.heap.size, 1, none⟩) (fun _ => rfl) (.string ⟨#[]⟩)).setCell (p := ⟨w.heap.size, 2, none⟩) (fun _ => rfl) (.slice none 0 0))
  clear BF
  generalize ((w4.setCell ⟨w.heap.size, 0, none⟩ (.int .i64 r)).setCell ⟨w.heap.size, 1, none⟩ (.string ⟨#[]⟩)).setCell ⟨w.heap.size, 2, none⟩ (.slice none 0 0) = wf at *
  have HMF := Lib.hid ((HM4.out.mod MS4.out (fun b _ q => by rw [q]; exact Or.inr ⟨Nat.le_refl _, hs3⟩)).less (fun i q => Or.inl q))
  have MF := Lib.hid (show Mod (fun i => ¬ K i) w wf from ((J3.out.mono (fun _ _ q => q.elim)).then_ M4H.out (fun i _ q r => q (Or.inl r))).then_ MS4.out (fun i hi q => absurd (q ▸ hi) (Nat.lt_irrefl _)))
  exact bodyPost_ret (v := .agg #[.int .i64 r, .string ⟨#[]⟩, .slice none 0 0]) (by simp [results, Tryz.results20, go_sem, g0, g1, g2]) rfl (HR.out _ _ ⟨b, pb, by first | rfl | rw [HRR.out], HMF.out, MF.out⟩)
set_option maxHeartbeats 4000000 in
theorem do_delete (h : Md Tryz.prog K w m S) (G : Good S) (W : Wf S) (id : Int) (hid : I64 id)
    (HT : ∀ w', Same w w' → Calls Tryz.prog 51 #[.iface 79 (.agg #[.int .i64 id])] w' fun e w'' => ∃ s, e = .returned (.tuple #[.string s, .int .i64 0]) ∧ Same w' w'') :
    Calls Tryz.prog 20 #[bp m, .iface 79 (.agg #[.int .i64 id])] w fun e w' => e = .returned (.agg #[.int .i64 ((deleteS S id).1), .string ⟨#[]⟩, .slice none 0 0]) ∧ Md Tryz.prog K w' m (deleteS S id).2 ∧ Mod (fun i => ¬ K i) w w' := by
  refine opq fun R HR => ?_
  have HM := Lib.hid h
  have HG := Lib.hid G
  have HWf := Lib.hid W
  have HTX := Lib.hid HT
  have Xhid := Lib.hid hid
  have a25 := fun W => no25 W 79 (.agg #[.int .i64 id]) (by decide)
  have a79 := fun W => is79 W (.agg #[.int .i64 id])
  obtain ⟨W1, hW1⟩ : ∃ z, w.alloc (.cells #[.int .i64 0, .string ⟨#[]⟩, .slice none 0 0] 31) = z := ⟨_, rfl⟩
  have J1 := Lib.hid (show Same w W1 by rw [← hW1]; exact (Mod.refl _ _).alloc _)
  have B1 := Lib.hid (show Blk W1 w.heap.size #[.int .i64 0, .string ⟨#[]⟩, .slice none 0 0] by rw [← hW1]; exact Blk.new w _ 31)
  clear h G W HT hid
  go_enter Tryz.func20, Tryz.ntmps20
  go_wp2_with fail
  refine (HTX.out W1 J1.out).mono ?_
  rintro e w2 ⟨s, rfl, M⟩
  have J2 := Lib.hid (J1.out.same M)
  have B2 := Lib.hid (B1.out.mod M (fun q => q))
  have hs2 : w.heap.size < w2.heap.size := B2.out.lt
  clear M hW1 B1 J1
  obtain ⟨W3, hW3⟩ : ∃ z, w2.alloc (.cells #[.int .i64 id] 79) = z := ⟨_, rfl⟩
  have N3 := Lib.hid (show Same w2 W3 by rw [← hW3]; exact (Mod.refl _ _).alloc _)
  have C3 := Lib.hid (show Blk W3 w2.heap.size #[.int .i64 id] by rw [← hW3]; exact Blk.new w2 _ 79)
  have B3 := Lib.hid (B2.out.mod N3.out (fun q => q))
  have J3 := Lib.hid (J2.out.same N3.out)
  have HM3 := Lib.hid (HM.out.more J3.out)
  have hs3 : w.heap.size < W3.heap.size := B3.out.lt
  have c0 := C3.out.at_ (i := 0) (.int .i64 id) rfl
  go_wp2_with fail
  refine (remove_any HM3.out HG.out HWf.out id Xhid.out).mono ?_
  rintro e w4 ⟨rfl, hm4, M4⟩
  clear c0 hW3 C3
  have B4 := Lib.hid (B3.out.mod M4 (fun q => q (Or.inr ⟨Nat.le_refl _, hs3⟩)))
  have HM4 := Lib.hid hm4
  have M4H := Lib.hid M4
  clear hm4 M4
  generalize hr : (deleteS S id).1 = r at *
  have fA := fun i => B4.out.free i
  have a0 := B4.out.at_ (i := 0) (.int .i64 0) rfl
  have a1 := B4.out.at_ (i := 1) (.string ⟨#[]⟩) rfl
  have a2 := B4.out.at_ (i := 2) (.slice none 0 0) rfl
  have HRR := Lib.hid hr
  clear hr
  go_wp2
  have BF := ((B4.out.set 0 (.int .i64 r)).set 1 (.string ⟨#[]⟩)).set 2 (.slice none 0 0)
  have g0 := BF.at_ (i := 0) (.int .i64 r) rfl
  have g1 := BF.at_ (i := 1) (.string ⟨#[]⟩) rfl
  have g2 := BF.at_ (i := 2) (.slice none 0 0) rfl
  have MS4 := Lib.hid ((((Mod.refl (fun i => i = w.heap.size) w4).setCell (p := ⟨w.heap.size, 0, none⟩) (fun _ => rfl) (.int .i64 r)).setCell (p := ⟨w.heap.size, 1, none⟩) (fun _ => rfl) (.string ⟨#[]⟩)).setCell (p := ⟨w.heap.size, 2, none⟩) (fun _ => rfl) (.slice none 0 0))
  clear BF
  generalize ((w4.setCell ⟨w.heap.size, 0, none⟩ (.int .i64 r)).setCell ⟨w.heap.size, 1, none⟩ (.string ⟨#[]⟩)).setCell ⟨w.heap.size, 2, none⟩ (.slice none 0 0) = wf at *
  have HMF := Lib.hid ((HM4.out.mod MS4.out (fun b _ q => by rw [q]; exact Or.inr ⟨Nat.le_refl _, hs3⟩)).less (fun i q => Or.inl q))
  have MF := Lib.hid (show Mod (fun i => ¬ K i) w wf from ((J3.out.mono (fun _ _ q => q.elim)).then_ M4H.out (fun i _ q r => q (Or.inl r))).then_ MS4.out (fun i hi q => absurd (q ▸ hi) (Nat.lt_irrefl _)))
  exact bodyPost_ret (v := .agg #[.int .i64 r, .string ⟨#[]⟩, .slice none 0 0]) (by simp [results, Tryz.results20, go_sem, g0, g1, g2]) rfl (HR.out _ _ ⟨by first | rfl | rw [HRR.out], HMF.out, MF.out⟩)
set_option maxHeartbeats 4000000 in
theorem do_snap (h : Md Tryz.prog K w m S) (G : Good S) (W : Wf S) (fr tgt : Int) (hfr : I64 fr) (hto : I64 tgt)
    (HT : ∀ w', Same w w' → Calls Tryz.prog 51 #[.iface 81 (.agg #[.int .i64 fr, .int .i64 tgt])] w' fun e w'' => ∃ s, e = .returned (.tuple #[.string s, .int .i64 0]) ∧ Same w' w'') :
    Calls Tryz.prog 20 #[bp m, .iface 81 (.agg #[.int .i64 fr, .int .i64 tgt])] w fun e w' => ∃ b pb, e = .returned (.agg #[.int .i64 ((snapS S fr tgt b pb).1), .string ⟨#[]⟩, .slice none 0 0]) ∧ Md Tryz.prog K w' m (snapS S fr tgt b pb).2 ∧ Mod (fun i => ¬ K i) w w' := by
  refine opq fun R HR => ?_
  have HM := Lib.hid h
  have HG := Lib.hid G
  have HWf := Lib.hid W
  have HTX := Lib.hid HT
  have Xhfr := Lib.hid hfr
  have Xhto := Lib.hid hto
  have a25 := fun W => no25 W 81 (.agg #[.int .i64 fr, .int .i64 tgt]) (by decide)
  have a79 := fun W => no79 W 81 (.agg #[.int .i64 fr, .int .i64 tgt]) (by decide)
  have a81 := fun W => is81 W (.agg #[.int .i64 fr, .int .i64 tgt])
  obtain ⟨W1, hW1⟩ : ∃ z, w.alloc (.cells #[.int .i64 0, .string ⟨#[]⟩, .slice none 0 0] 31) = z := ⟨_, rfl⟩
  have J1 := Lib.hid (show Same w W1 by rw [← hW1]; exact (Mod.refl _ _).alloc _)
  have B1 := Lib.hid (show Blk W1 w.heap.size #[.int .i64 0, .string ⟨#[]⟩, .slice none 0 0] by rw [← hW1]; exact Blk.new w _ 31)
  clear h G W HT hfr hto
  go_enter Tryz.func20, Tryz.ntmps20
  go_wp2_with fail
  refine (HTX.out W1 J1.out).mono ?_
  rintro e w2 ⟨s, rfl, M⟩
  have J2 := Lib.hid (J1.out.same M)
  have B2 := Lib.hid (B1.out.mod M (fun q => q))
  have hs2 : w.heap.size < w2.heap.size := B2.out.lt
  clear M hW1 B1 J1
  obtain ⟨W3, hW3⟩ : ∃ z, w2.alloc (.cells #[.int .i64 fr, .int .i64 tgt] 81) = z := ⟨_, rfl⟩
  have N3 := Lib.hid (show Same w2 W3 by rw [← hW3]; exact (Mod.refl _ _).alloc _)
  have C3 := Lib.hid (show Blk W3 w2.heap.size #[.int .i64 fr, .int .i64 tgt] by rw [← hW3]; exact Blk.new w2 _ 81)
  have B3 := Lib.hid (B2.out.mod N3.out (fun q => q))
  have J3 := Lib.hid (J2.out.same N3.out)
  have HM3 := Lib.hid (HM.out.more J3.out)
  have hs3 : w.heap.size < W3.heap.size := B3.out.lt
  have c0 := C3.out.at_ (i := 0) (.int .i64 fr) rfl
  have c1 := C3.out.at_ (i := 1) (.int .i64 tgt) rfl
  go_wp2_with fail
  refine (snap_any HM3.out HG.out HWf.out fr tgt Xhfr.out Xhto.out).mono ?_
  rintro e w4 ⟨b, pb, rfl, hm4, M4⟩
  clear c0 c1 hW3 C3
  have B4 := Lib.hid (B3.out.mod M4 (fun q => q (Or.inr ⟨Nat.le_refl _, hs3⟩)))
  have HM4 := Lib.hid hm4
  have M4H := Lib.hid M4
  clear hm4 M4
  generalize hr : (snapS S fr tgt b pb).1 = r at *
  have fA := fun i => B4.out.free i
  have a0 := B4.out.at_ (i := 0) (.int .i64 0) rfl
  have a1 := B4.out.at_ (i := 1) (.string ⟨#[]⟩) rfl
  have a2 := B4.out.at_ (i := 2) (.slice none 0 0) rfl
  have HRR := Lib.hid hr
  clear hr
  go_wp2
  have BF := ((B4.out.set 0 (.int .i64 r)).set 1 (.string ⟨#[]⟩)).set 2 (.slice none 0 0)
  have g0 := BF.at_ (i := 0) (.int .i64 r) rfl
  have g1 := BF.at_ (i := 1) (.string ⟨#[]⟩) rfl
  have g2 := BF.at_ (i := 2) (.slice none 0 0) rfl
  have MS4 := Lib.hid ((((Mod.refl (fun i => i = w.heap.size) w4).setCell (p := ⟨w.heap.size, 0, none⟩) (fun _ => rfl) (.int .i64 r)).setCell (p := ⟨w.heap.size, 1, none⟩) (fun _ => rfl) (.string ⟨#[]⟩)).setCell (p := ⟨w.heap.size, 2, none⟩) (fun _ => rfl) (.slice none 0 0))
  clear BF
  generalize ((w4.setCell ⟨w.heap.size, 0, none⟩ (.int .i64 r)).setCell ⟨w.heap.size, 1, none⟩ (.string ⟨#[]⟩)).setCell ⟨w.heap.size, 2, none⟩ (.slice none 0 0) = wf at *
  have HMF := Lib.hid ((HM4.out.mod MS4.out (fun b _ q => by rw [q]; exact Or.inr ⟨Nat.le_refl _, hs3⟩)).less (fun i q => Or.inl q))
  have MF := Lib.hid (show Mod (fun i => ¬ K i) w wf from ((J3.out.mono (fun _ _ q => q.elim)).then_ M4H.out (fun i _ q r => q (Or.inl r))).then_ MS4.out (fun i hi q => absurd (q ▸ hi) (Nat.lt_irrefl _)))
  exact bodyPost_ret (v := .agg #[.int .i64 r, .string ⟨#[]⟩, .slice none 0 0]) (by simp [results, Tryz.results20, go_sem, g0, g1, g2]) rfl (HR.out _ _ ⟨b, pb, by first | rfl | rw [HRR.out], HMF.out, MF.out⟩)
set_option maxHeartbeats 4000000 in
theorem do_resize (h : Md Tryz.prog K w m S) (G : Good S) (W : Wf S) (id size : Int) (hid : I64 id) (hsz : I64 size)
    (HT : ∀ w', Same w w' → Calls Tryz.prog 51 #[.iface 137 (.agg #[.int .i64 id, .int .i64 size])] w' fun e w'' => ∃ s, e = .returned (.tuple #[.string s, .int .i64 0]) ∧ Same w' w'') :
    Calls Tryz.prog 20 #[bp m, .iface 137 (.agg #[.int .i64 id, .int .i64 size])] w fun e w' => e = .returned (.agg #[.int .i64 ((resizeS S id size).1), .string ⟨#[]⟩, .slice none 0 0]) ∧ Md Tryz.prog K w' m (resizeS S id size).2 ∧ Mod (fun i => ¬ K i) w w' := by
  refine opq fun R HR => ?_
  have HM := Lib.hid h
  have HG := Lib.hid G
  have HWf := Lib.hid W
  have HTX := Lib.hid HT
  have Xhid := Lib.hid hid
  have Xhsz := Lib.hid hsz
  have a25 := fun W => no25 W 137 (.agg #[.int .i64 id, .int .i64 size]) (by decide)
  have a79 := fun W => no79 W 137 (.agg #[.int .i64 id, .int .i64 size]) (by decide)
  have a81 := fun W => no81 W 137 (.agg #[.int .i64 id, .int .i64 size]) (by decide)
  have a137 := fun W => is137 W (.agg #[.int .i64 id, .int .i64 size])
  obtain ⟨W1, hW1⟩ : ∃ z, w.alloc (.cells #[.int .i64 0, .string ⟨#[]⟩, .slice none 0 0] 31) = z := ⟨_, rfl⟩
  have J1 := Lib.hid (show Same w W1 by rw [← hW1]; exact (Mod.refl _ _).alloc _)
  have B1 := Lib.hid (show Blk W1 w.heap.size #[.int .i64 0, .string ⟨#[]⟩, .slice none 0 0] by rw [← hW1]; exact Blk.new w _ 31)
  clear h G W HT hid hsz
  go_enter Tryz.func20, Tryz.ntmps20
  go_wp2_with fail
  refine (HTX.out W1 J1.out).mono ?_
  rintro e w2 ⟨s, rfl, M⟩
  have J2 := Lib.hid (J1.out.same M)
  have B2 := Lib.hid (B1.out.mod M (fun q => q))
  have hs2 : w.heap.size < w2.heap.size := B2.out.lt
  clear M hW1 B1 J1
  obtain ⟨W3, hW3⟩ : ∃ z, w2.alloc (.cells #[.int .i64 id, .int .i64 size] 137) = z := ⟨_, rfl⟩
  have N3 := Lib.hid (show Same w2 W3 by rw [← hW3]; exact (Mod.refl _ _).alloc _)
  have C3 := Lib.hid (show Blk W3 w2.heap.size #[.int .i64 id, .int .i64 size] by rw [← hW3]; exact Blk.new w2 _ 137)
  have B3 := Lib.hid (B2.out.mod N3.out (fun q => q))
  have J3 := Lib.hid (J2.out.same N3.out)
  have HM3 := Lib.hid (HM.out.more J3.out)
  have hs3 : w.heap.size < W3.heap.size := B3.out.lt
  have c0 := C3.out.at_ (i := 0) (.int .i64 id) rfl
  have c1 := C3.out.at_ (i := 1) (.int .i64 size) rfl
  go_wp2_with fail
  refine (resize_any HM3.out HG.out HWf.out id size Xhid.out Xhsz.out).mono ?_
  rintro e w4 ⟨rfl, hm4, M4⟩
  clear c0 c1 hW3 C3
  have B4 := Lib.hid (B3.out.mod M4 (fun q => q (Or.inr ⟨Nat.le_refl _, hs3⟩)))
  have HM4 := Lib.hid hm4
  have M4H := Lib.hid M4
  clear hm4 M4
  generalize hr : (resizeS S id size).1 = r at *
  have fA := fun i => B4.out.free i
  have a0 := B4.out.at_ (i := 0) (.int .i64 0) rfl
  have a1 := B4.out.at_ (i := 1) (.string ⟨#[]⟩) rfl
  have a2 := B4.out.at_ (i := 2) (.slice none 0 0) rfl
  have HRR := Lib.hid hr
  clear hr
  go_wp2
  have BF := ((B4.out.set 0 (.int .i64 r)).set 1 (.string ⟨#[]⟩)).set 2 (.slice none 0 0)
  have g0 := BF.at_ (i := 0) (.int .i64 r) rfl
  have g1 := BF.at_ (i := 1) (.string ⟨#[]⟩) rfl
  have g2 := BF.at_ (i := 2) (.slice none 0 0) rfl
  have MS4 := Lib.hid ((((Mod.refl (fun i => i = w.heap.size) w4).setCell (p := ⟨w.heap.size, 0, none⟩) (fun _ => rfl) (.int .i64 r)).setCell (p := ⟨w.heap.size, 1, none⟩) (fun _ => rfl) (.string ⟨#[]⟩)).setCell (p := ⟨w.heap.size, 2, none⟩) (fun _ => rfl) (.slice none 0 0))
  clear BF
  generalize ((w4.setCell ⟨w.heap.size, 0, none⟩ (.int .i64 r)).setCell ⟨w.heap.size, 1, none⟩ (.string ⟨#[]⟩)).setCell ⟨w.heap.size, 2, none⟩ (.slice none 0 0) = wf at *
  have HMF := Lib.hid ((HM4.out.mod MS4.out (fun b _ q => by rw [q]; exact Or.inr ⟨Nat.le_refl _, hs3⟩)).less (fun i q => Or.inl q))
  have MF := Lib.hid (show Mod (fun i => ¬ K i) w wf from ((J3.out.mono (fun _ _ q => q.elim)).then_ M4H.out (fun i _ q r => q (Or.inl r))).then_ MS4.out (fun i hi q => absurd (q ▸ hi) (Nat.lt_irrefl _)))
  exact bodyPost_ret (v := .agg #[.int .i64 r, .string ⟨#[]⟩, .slice none 0 0]) (by simp [results, Tryz.results20, go_sem, g0, g1, g2]) rfl (HR.out _ _ ⟨by first | rfl | rw [HRR.out], HMF.out, MF.out⟩)
set_option maxHeartbeats 4000000 in
theorem do_pin (h : Md Tryz.prog K w m S) (G : Good S) (W : Wf S) (id : Int) (hid : I64 id)
    (HT : ∀ w', Same w w' → Calls Tryz.prog 51 #[.iface 139 (.agg #[.int .i64 id])] w' fun e w'' => ∃ s, e = .returned (.tuple #[.string s, .int .i64 0]) ∧ Same w' w'') :
    Calls Tryz.prog 20 #[bp m, .iface 139 (.agg #[.int .i64 id])] w fun e w' => e = .returned (.agg #[.int .i64 ((pinS S id true).1), .string ⟨#[]⟩, .slice none 0 0]) ∧ Md Tryz.prog K w' m (pinS S id true).2 ∧ Mod (fun i => ¬ K i) w w' := by
  refine opq fun R HR => ?_
  have HM := Lib.hid h
  have HG := Lib.hid G
  have HWf := Lib.hid W
  have HTX := Lib.hid HT
  have Xhid := Lib.hid hid
  have a25 := fun W => no25 W 139 (.agg #[.int .i64 id]) (by decide)
  have a79 := fun W => no79 W 139 (.agg #[.int .i64 id]) (by decide)
  have a81 := fun W => no81 W 139 (.agg #[.int .i64 id]) (by decide)
  have a137 := fun W => no137 W 139 (.agg #[.int .i64 id]) (by decide)
  have a139 := fun W => is139 W (.agg #[.int .i64 id])
  obtain ⟨W1, hW1⟩ : ∃ z, w.alloc (.cells #[.int .i64 0, .string ⟨#[]⟩, .slice none 0 0] 31) = z := ⟨_, rfl⟩
  have J1 := Lib.hid (show Same w W1 by rw [← hW1]; exact (Mod.refl _ _).alloc _)
  have B1 := Lib.hid (show Blk W1 w.heap.size #[.int .i64 0, .string ⟨#[]⟩, .slice none 0 0] by rw [← hW1]; exact Blk.new w _ 31)
  clear h G W HT hid
  go_enter Tryz.func20, Tryz.ntmps20
  go_wp2_with fail
  refine (HTX.out W1 J1.out).mono ?_
  rintro e w2 ⟨s, rfl, M⟩
  have J2 := Lib.hid (J1.out.same M)
  have B2 := Lib.hid (B1.out.mod M (fun q => q))
  have hs2 : w.heap.size < w2.heap.size := B2.out.lt
  clear M hW1 B1 J1
  obtain ⟨W3, hW3⟩ : ∃ z, w2.alloc (.cells #[.int .i64 id] 139) = z := ⟨_, rfl⟩
  have N3 := Lib.hid (show Same w2 W3 by rw [← hW3]; exact (Mod.refl _ _).alloc _)
  have C3 := Lib.hid (show Blk W3 w2.heap.size #[.int .i64 id] by rw [← hW3]; exact Blk.new w2 _ 139)
  have B3 := Lib.hid (B2.out.mod N3.out (fun q => q))
  have J3 := Lib.hid (J2.out.same N3.out)
  have HM3 := Lib.hid (HM.out.more J3.out)
  have hs3 : w.heap.size < W3.heap.size := B3.out.lt
  have c0 := C3.out.at_ (i := 0) (.int .i64 id) rfl
  go_wp2_with fail
  refine (pin_md HM3.out HWf.out id Xhid.out true).mono ?_
  rintro e w4 ⟨rfl, hm4, M4⟩
  clear c0 hW3 C3
  have B4 := Lib.hid (B3.out.mod M4 (fun q => q (Or.inr ⟨Nat.le_refl _, hs3⟩)))
  have HM4 := Lib.hid hm4
  have M4H := Lib.hid M4
  clear hm4 M4
  generalize hr : (pinS S id true).1 = r at *
  have fA := fun i => B4.out.free i
  have a0 := B4.out.at_ (i := 0) (.int .i64 0) rfl
  have a1 := B4.out.at_ (i := 1) (.string ⟨#[]⟩) rfl
  have a2 := B4.out.at_ (i := 2) (.slice none 0 0) rfl
  have HRR := Lib.hid hr
  clear hr
  go_wp2
  have BF := ((B4.out.set 0 (.int .i64 r)).set 1 (.string ⟨#[]⟩)).set 2 (.slice none 0 0)
  have g0 := BF.at_ (i := 0) (.int .i64 r) rfl
  have g1 := BF.at_ (i := 1) (.string ⟨#[]⟩) rfl
  have g2 := BF.at_ (i := 2) (.slice none 0 0) rfl
  have MS4 := Lib.hid ((((Mod.refl (fun i => i = w.heap.size) w4).setCell (p := ⟨w.heap.size, 0, none⟩) (fun _ => rfl) (.int .i64 r)).setCell (p := ⟨w.heap.size, 1, none⟩) (fun _ => rfl) (.string ⟨#[]⟩)).setCell (p := ⟨w.heap.size, 2, none⟩) (fun _ => rfl) (.slice none 0 0))
  clear BF
  generalize ((w4.setCell ⟨w.heap.size, 0, none⟩ (.int .i64 r)).setCell ⟨w.heap.size, 1, none⟩ (.string ⟨#[]⟩)).setCell ⟨w.heap.size, 2, none⟩ (.slice none 0 0) = wf at *
  have HMF := Lib.hid ((HM4.out.mod MS4.out (fun b _ q => by rw [q]; exact Or.inr ⟨Nat.le_refl _, hs3⟩)).less (fun i q => Or.inl q))
  have MF := Lib.hid (show Mod (fun i => ¬ K i) w wf from ((J3.out.mono (fun _ _ q => q.elim)).then_ M4H.out (fun i _ q r => q (Or.inl r))).then_ MS4.out (fun i hi q => absurd (q ▸ hi) (Nat.lt_irrefl _)))
  exact bodyPost_ret (v := .agg #[.int .i64 r, .string ⟨#[]⟩, .slice none 0 0]) (by simp [results, Tryz.results20, go_sem, g0, g1, g2]) rfl (HR.out _ _ ⟨by first | rfl | rw [HRR.out], HMF.out, MF.out⟩)
set_option maxHeartbeats 4000000 in
theorem do_free (h : Md Tryz.prog K w m S) (G : Good S) (W : Wf S) (id : Int) (hid : I64 id)
    (HT : ∀ w', Same w w' → Calls Tryz.prog 51 #[.iface 141 (.agg #[.int .i64 id])] w' fun e w'' => ∃ s, e = .returned (.tuple #[.string s, .int .i64 0]) ∧ Same w' w'') :
    Calls Tryz.prog 20 #[bp m, .iface 141 (.agg #[.int .i64 id])] w fun e w' => e = .returned (.agg #[.int .i64 ((pinS S id false).1), .string ⟨#[]⟩, .slice none 0 0]) ∧ Md Tryz.prog K w' m (pinS S id false).2 ∧ Mod (fun i => ¬ K i) w w' := by
  refine opq fun R HR => ?_
  have HM := Lib.hid h
  have HG := Lib.hid G
  have HWf := Lib.hid W
  have HTX := Lib.hid HT
  have Xhid := Lib.hid hid
  have a25 := fun W => no25 W 141 (.agg #[.int .i64 id]) (by decide)
  have a79 := fun W => no79 W 141 (.agg #[.int .i64 id]) (by decide)
  have a81 := fun W => no81 W 141 (.agg #[.int .i64 id]) (by decide)
  have a137 := fun W => no137 W 141 (.agg #[.int .i64 id]) (by decide)
  have a139 := fun W => no139 W 141 (.agg #[.int .i64 id]) (by decide)
  have a141 := fun W => is141 W (.agg #[.int .i64 id])
  obtain ⟨W1, hW1⟩ : ∃ z, w.alloc (.cells #[.int .i64 0, .string ⟨#[]⟩, .slice none 0 0] 31) = z := ⟨_, rfl⟩
  have J1 := Lib.hid (show Same w W1 by rw [← hW1]; exact (Mod.refl _ _).alloc _)
  have B1 := Lib.hid (show Blk W1 w.heap.size #[.int .i64 0, .string ⟨#[]⟩, .slice none 0 0] by rw [← hW1]; exact Blk.new w _ 31)
  clear h G W HT hid
  go_enter Tryz.func20, Tryz.ntmps20
  go_wp2_with fail
  refine (HTX.out W1 J1.out).mono ?_
  rintro e w2 ⟨s, rfl, M⟩
  have J2 := Lib.hid (J1.out.same M)
  have B2 := Lib.hid (B1.out.mod M (fun q => q))
  have hs2 : w.heap.size < w2.heap.size := B2.out.lt
  clear M hW1 B1 J1
  obtain ⟨W3, hW3⟩ : ∃ z, w2.alloc (.cells #[.int .i64 id] 141) = z := ⟨_, rfl⟩
  have N3 := Lib.hid (show Same w2 W3 by rw [← hW3]; exact (Mod.refl _ _).alloc _)
  have C3 := Lib.hid (show Blk W3 w2.heap.size #[.int .i64 id] by rw [← hW3]; exact Blk.new w2 _ 141)
  have B3 := Lib.hid (B2.out.mod N3.out (fun q => q))
  have J3 := Lib.hid (J2.out.same N3.out)
  have HM3 := Lib.hid (HM.out.more J3.out)
  have hs3 : w.heap.size < W3.heap.size := B3.out.lt
  have c0 := C3.out.at_ (i := 0) (.int .i64 id) rfl
  go_wp2_with fail
  refine (pin_md HM3.out HWf.out id Xhid.out false).mono ?_
  rintro e w4 ⟨rfl, hm4, M4⟩
  clear c0 hW3 C3
  have B4 := Lib.hid (B3.out.mod M4 (fun q => q (Or.inr ⟨Nat.le_refl _, hs3⟩)))
  have HM4 := Lib.hid hm4
  have M4H := Lib.hid M4
  clear hm4 M4
  generalize hr : (pinS S id false).1 = r at *
  have fA := fun i => B4.out.free i
  have a0 := B4.out.at_ (i := 0) (.int .i64 0) rfl
  have a1 := B4.out.at_ (i := 1) (.string ⟨#[]⟩) rfl
  have a2 := B4.out.at_ (i := 2) (.slice none 0 0) rfl
  have HRR := Lib.hid hr
  clear hr
  go_wp2
  have BF := ((B4.out.set 0 (.int .i64 r)).set 1 (.string ⟨#[]⟩)).set 2 (.slice none 0 0)
  have g0 := BF.at_ (i := 0) (.int .i64 r) rfl
  have g1 := BF.at_ (i := 1) (.string ⟨#[]⟩) rfl
  have g2 := BF.at_ (i := 2) (.slice none 0 0) rfl
  have MS4 := Lib.hid ((((Mod.refl (fun i => i = w.heap.size) w4).setCell (p := ⟨w.heap.size, 0, none⟩) (fun _ => rfl) (.int .i64 r)).setCell (p := ⟨w.heap.size, 1, none⟩) (fun _ => rfl) (.string ⟨#[]⟩)).setCell (p := ⟨w.heap.size, 2, none⟩) (fun _ => rfl) (.slice none 0 0))
  clear BF
  generalize ((w4.setCell ⟨w.heap.size, 0, none⟩ (.int .i64 r)).setCell ⟨w.heap.size, 1, none⟩ (.string ⟨#[]⟩)).setCell ⟨w.heap.size, 2, none⟩ (.slice none 0 0) = wf at *
  have HMF := Lib.hid ((HM4.out.mod MS4.out (fun b _ q => by rw [q]; exact Or.inr ⟨Nat.le_refl _, hs3⟩)).less (fun i q => Or.inl q))
  have MF := Lib.hid (show Mod (fun i => ¬ K i) w wf from ((J3.out.mono (fun _ _ q => q.elim)).then_ M4H.out (fun i _ q r => q (Or.inl r))).then_ MS4.out (fun i hi q => absurd (q ▸ hi) (Nat.lt_irrefl _)))
  exact bodyPost_ret (v := .agg #[.int .i64 r, .string ⟨#[]⟩, .slice none 0 0]) (by simp [results, Tryz.results20, go_sem, g0, g1, g2]) rfl (HR.out _ _ ⟨by first | rfl | rw [HRR.out], HMF.out, MF.out⟩)
set_option maxHeartbeats 4000000 in
theorem do_write (h : Md Tryz.prog K w m S) (G : Good S) (W : Wf S) (id x : Int) (t : List UInt8) (hid : I64 id) (hx : I64 x) (ht : t.length ≤ 1000)
    (HT : ∀ w', Same w w' → Calls Tryz.prog 51 #[.iface 38 (.agg #[.int .i64 id, .int .i64 x, .string ⟨t.toArray⟩])] w' fun e w'' => ∃ s, e = .returned (.tuple #[.string s, .int .i64 0]) ∧ Same w' w'') :
    Calls Tryz.prog 20 #[bp m, .iface 38 (.agg #[.int .i64 id, .int .i64 x, .string ⟨t.toArray⟩])] w fun e w' => ∃ S', e = .returned (.agg #[.int .i64 (writeE S id x t), .string ⟨#[]⟩, .slice none 0 0]) ∧ (if writeE S id x t = 0 then WrR (cut16 t) S id x.toNat S' else S' = S) ∧ Md Tryz.prog K w' m S' ∧ Mod (fun i => ¬ K i) w w' := by
  refine opq fun R HR => ?_
  have HM := Lib.hid h
  have HG := Lib.hid G
  have HWf := Lib.hid W
  have HTX := Lib.hid HT
  have Xhid := Lib.hid hid
  have Xhx := Lib.hid hx
  have Xht := Lib.hid ht
  have a25 := fun W => no25 W 38 (.agg #[.int .i64 id, .int .i64 x, .string ⟨t.toArray⟩]) (by decide)
  have a79 := fun W => no79 W 38 (.agg #[.int .i64 id, .int .i64 x, .string ⟨t.toArray⟩]) (by decide)
  have a81 := fun W => no81 W 38 (.agg #[.int .i64 id, .int .i64 x, .string ⟨t.toArray⟩]) (by decide)
  have a137 := fun W => no137 W 38 (.agg #[.int .i64 id, .int .i64 x, .string ⟨t.toArray⟩]) (by decide)
  have a139 := fun W => no139 W 38 (.agg #[.int .i64 id, .int .i64 x, .string ⟨t.toArray⟩]) (by decide)
  have a141 := fun W => no141 W 38 (.agg #[.int .i64 id, .int .i64 x, .string ⟨t.toArray⟩]) (by decide)
  have a94 := fun W => no94 W 38 (.agg #[.int .i64 id, .int .i64 x, .string ⟨t.toArray⟩]) (by decide)
  have a38 := fun W => is38 W (.agg #[.int .i64 id, .int .i64 x, .string ⟨t.toArray⟩])
  obtain ⟨W1, hW1⟩ : ∃ z, w.alloc (.cells #[.int .i64 0, .string ⟨#[]⟩, .slice none 0 0] 31) = z := ⟨_, rfl⟩
  have J1 := Lib.hid (show Same w W1 by rw [← hW1]; exact (Mod.refl _ _).alloc _)
  have B1 := Lib.hid (show Blk W1 w.heap.size #[.int .i64 0, .string ⟨#[]⟩, .slice none 0 0] by rw [← hW1]; exact Blk.new w _ 31)
  clear h G W HT hid hx ht
  go_enter Tryz.func20, Tryz.ntmps20
  go_wp2_with fail
  refine (HTX.out W1 J1.out).mono ?_
  rintro e w2 ⟨s, rfl, M⟩
  have J2 := Lib.hid (J1.out.same M)
  have B2 := Lib.hid (B1.out.mod M (fun q => q))
  have hs2 : w.heap.size < w2.heap.size := B2.out.lt
  clear M hW1 B1 J1
  obtain ⟨W3, hW3⟩ : ∃ z, w2.alloc (.cells #[.int .i64 id, .int .i64 x, .string ⟨t.toArray⟩] 38) = z := ⟨_, rfl⟩
  have N3 := Lib.hid (show Same w2 W3 by rw [← hW3]; exact (Mod.refl _ _).alloc _)
  have C3 := Lib.hid (show Blk W3 w2.heap.size #[.int .i64 id, .int .i64 x, .string ⟨t.toArray⟩] by rw [← hW3]; exact Blk.new w2 _ 38)
  have B3 := Lib.hid (B2.out.mod N3.out (fun q => q))
  have J3 := Lib.hid (J2.out.same N3.out)
  have HM3 := Lib.hid (HM.out.more J3.out)
  have hs3 : w.heap.size < W3.heap.size := B3.out.lt
  have c0 := C3.out.at_ (i := 0) (.int .i64 id) rfl
  have c1 := C3.out.at_ (i := 1) (.int .i64 x) rfl
  have c2 := C3.out.at_ (i := 2) (.string ⟨t.toArray⟩) rfl
  go_wp2_with fail
  refine (write_any HM3.out HG.out HWf.out id x t Xhid.out Xhx.out Xht.out).mono ?_
  rintro e w4 ⟨S', rfl, hw4, hm4, M4⟩
  clear c0 c1 c2 hW3 C3
  have B4 := Lib.hid (B3.out.mod M4 (fun q => q (Or.inr ⟨Nat.le_refl _, hs3⟩)))
  have HM4 := Lib.hid hm4
  have M4H := Lib.hid M4
  clear hm4 M4
  generalize hr : writeE S id x t = r at *
  have fA := fun i => B4.out.free i
  have a0 := B4.out.at_ (i := 0) (.int .i64 0) rfl
  have a1 := B4.out.at_ (i := 1) (.string ⟨#[]⟩) rfl
  have a2 := B4.out.at_ (i := 2) (.slice none 0 0) rfl
  have HRR := Lib.hid hr
  clear hr
  go_wp2
  have BF := ((B4.out.set 0 (.int .i64 r)).set 1 (.string ⟨#[]⟩)).set 2 (.slice none 0 0)
  have g0 := BF.at_ (i := 0) (.int .i64 r) rfl
  have g1 := BF.at_ (i := 1) (.string ⟨#[]⟩) rfl
  have g2 := BF.at_ (i := 2) (.slice none 0 0) rfl
  have MS4 := Lib.hid ((((Mod.refl (fun i => i = w.heap.size) w4).setCell (p := ⟨w.heap.size, 0, none⟩) (fun _ => rfl) (.int .i64 r)).setCell (p := ⟨w.heap.size, 1, none⟩) (fun _ => rfl) (.string ⟨#[]⟩)).setCell (p := ⟨w.heap.size, 2, none⟩) (fun _ => rfl) (.slice none 0 0))
  clear BF
  generalize ((w4.setCell ⟨w.heap.size, 0, none⟩ (.int .i64 r)).setCell ⟨w.heap.size, 1, none⟩ (.string ⟨#[]⟩)).setCell ⟨w.heap.size, 2, none⟩ (.slice none 0 0) = wf at *
  have HMF := Lib.hid ((HM4.out.mod MS4.out (fun b _ q => by rw [q]; exact Or.inr ⟨Nat.le_refl _, hs3⟩)).less (fun i q => Or.inl q))
  have MF := Lib.hid (show Mod (fun i => ¬ K i) w wf from ((J3.out.mono (fun _ _ q => q.elim)).then_ M4H.out (fun i _ q r => q (Or.inl r))).then_ MS4.out (fun i hi q => absurd (q ▸ hi) (Nat.lt_irrefl _)))
  exact bodyPost_ret (v := .agg #[.int .i64 r, .string ⟨#[]⟩, .slice none 0 0]) (by simp [results, Tryz.results20, go_sem, g0, g1, g2]) rfl (HR.out _ _ ⟨S', by first | rfl | rw [HRR.out], hw4, HMF.out, MF.out⟩)
set_option maxHeartbeats 4000000 in
theorem do_discard (h : Md Tryz.prog K w m S) (G : Good S) (W : Wf S) (id x n : Int) (hid : I64 id) (hx : I64 x) (hn : I64 n)
    (HT : ∀ w', Same w w' → Calls Tryz.prog 51 #[.iface 42 (.agg #[.int .i64 id, .int .i64 x, .int .i64 n])] w' fun e w'' => ∃ s, e = .returned (.tuple #[.string s, .int .i64 0]) ∧ Same w' w'') :
    Calls Tryz.prog 20 #[bp m, .iface 42 (.agg #[.int .i64 id, .int .i64 x, .int .i64 n])] w fun e w' => ∃ S', e = .returned (.agg #[.int .i64 (rangeS S id x n), .string ⟨#[]⟩, .slice none 0 0]) ∧ (if rangeS S id x n = 0 then DisR S id x.toNat n.toNat n.toNat S' else S' = S) ∧ Md Tryz.prog K w' m S' ∧ Mod (fun i => ¬ K i) w w' := by
  refine opq fun R HR => ?_
  have HM := Lib.hid h
  have HG := Lib.hid G
  have HWf := Lib.hid W
  have HTX := Lib.hid HT
  have Xhid := Lib.hid hid
  have Xhx := Lib.hid hx
  have Xhn := Lib.hid hn
  have a25 := fun W => no25 W 42 (.agg #[.int .i64 id, .int .i64 x, .int .i64 n]) (by decide)
  have a79 := fun W => no79 W 42 (.agg #[.int .i64 id, .int .i64 x, .int .i64 n]) (by decide)
  have a81 := fun W => no81 W 42 (.agg #[.int .i64 id, .int .i64 x, .int .i64 n]) (by decide)
  have a137 := fun W => no137 W 42 (.agg #[.int .i64 id, .int .i64 x, .int .i64 n]) (by decide)
  have a139 := fun W => no139 W 42 (.agg #[.int .i64 id, .int .i64 x, .int .i64 n]) (by decide)
  have a141 := fun W => no141 W 42 (.agg #[.int .i64 id, .int .i64 x, .int .i64 n]) (by decide)
  have a94 := fun W => no94 W 42 (.agg #[.int .i64 id, .int .i64 x, .int .i64 n]) (by decide)
  have a38 := fun W => no38 W 42 (.agg #[.int .i64 id, .int .i64 x, .int .i64 n]) (by decide)
  have a42 := fun W => is42 W (.agg #[.int .i64 id, .int .i64 x, .int .i64 n])
  obtain ⟨W1, hW1⟩ : ∃ z, w.alloc (.cells #[.int .i64 0, .string ⟨#[]⟩, .slice none 0 0] 31) = z := ⟨_, rfl⟩
  have J1 := Lib.hid (show Same w W1 by rw [← hW1]; exact (Mod.refl _ _).alloc _)
  have B1 := Lib.hid (show Blk W1 w.heap.size #[.int .i64 0, .string ⟨#[]⟩, .slice none 0 0] by rw [← hW1]; exact Blk.new w _ 31)
  clear h G W HT hid hx hn
  go_enter Tryz.func20, Tryz.ntmps20
  go_wp2_with fail
  refine (HTX.out W1 J1.out).mono ?_
  rintro e w2 ⟨s, rfl, M⟩
  have J2 := Lib.hid (J1.out.same M)
  have B2 := Lib.hid (B1.out.mod M (fun q => q))
  have hs2 : w.heap.size < w2.heap.size := B2.out.lt
  clear M hW1 B1 J1
  obtain ⟨W3, hW3⟩ : ∃ z, w2.alloc (.cells #[.int .i64 id, .int .i64 x, .int .i64 n] 42) = z := ⟨_, rfl⟩
  have N3 := Lib.hid (show Same w2 W3 by rw [← hW3]; exact (Mod.refl _ _).alloc _)
  have C3 := Lib.hid (show Blk W3 w2.heap.size #[.int .i64 id, .int .i64 x, .int .i64 n] by rw [← hW3]; exact Blk.new w2 _ 42)
  have B3 := Lib.hid (B2.out.mod N3.out (fun q => q))
  have J3 := Lib.hid (J2.out.same N3.out)
  have HM3 := Lib.hid (HM.out.more J3.out)
  have hs3 : w.heap.size < W3.heap.size := B3.out.lt
  have c0 := C3.out.at_ (i := 0) (.int .i64 id) rfl
  have c1 := C3.out.at_ (i := 1) (.int .i64 x) rfl
  have c2 := C3.out.at_ (i := 2) (.int .i64 n) rfl
  go_wp2_with fail
  refine (discard_any HM3.out HG.out HWf.out id x n Xhid.out Xhx.out Xhn.out).mono ?_
  rintro e w4 ⟨S', rfl, hw4, hm4, M4⟩
  clear c0 c1 c2 hW3 C3
  have B4 := Lib.hid (B3.out.mod M4 (fun q => q (Or.inr ⟨Nat.le_refl _, hs3⟩)))
  have HM4 := Lib.hid hm4
  have M4H := Lib.hid M4
  clear hm4 M4
  generalize hr : rangeS S id x n = r at *
  have fA := fun i => B4.out.free i
  have a0 := B4.out.at_ (i := 0) (.int .i64 0) rfl
  have a1 := B4.out.at_ (i := 1) (.string ⟨#[]⟩) rfl
  have a2 := B4.out.at_ (i := 2) (.slice none 0 0) rfl
  have HRR := Lib.hid hr
  clear hr
  go_wp2
  have BF := ((B4.out.set 0 (.int .i64 r)).set 1 (.string ⟨#[]⟩)).set 2 (.slice none 0 0)
  have g0 := BF.at_ (i := 0) (.int .i64 r) rfl
  have g1 := BF.at_ (i := 1) (.string ⟨#[]⟩) rfl
  have g2 := BF.at_ (i := 2) (.slice none 0 0) rfl
  have MS4 := Lib.hid ((((Mod.refl (fun i => i = w.heap.size) w4).setCell (p := ⟨w.heap.size, 0, none⟩) (fun _ => rfl) (.int .i64 r)).setCell (p := ⟨w.heap.size, 1, none⟩) (fun _ => rfl) (.string ⟨#[]⟩)).setCell (p := ⟨w.heap.size, 2, none⟩) (fun _ => rfl) (.slice none 0 0))
  clear BF
  generalize ((w4.setCell ⟨w.heap.size, 0, none⟩ (.int .i64 r)).setCell ⟨w.heap.size, 1, none⟩ (.string ⟨#[]⟩)).setCell ⟨w.heap.size, 2, none⟩ (.slice none 0 0) = wf at *
  have HMF := Lib.hid ((HM4.out.mod MS4.out (fun b _ q => by rw [q]; exact Or.inr ⟨Nat.le_refl _, hs3⟩)).less (fun i q => Or.inl q))
  have MF := Lib.hid (show Mod (fun i => ¬ K i) w wf from ((J3.out.mono (fun _ _ q => q.elim)).then_ M4H.out (fun i _ q r => q (Or.inl r))).then_ MS4.out (fun i hi q => absurd (q ▸ hi) (Nat.lt_irrefl _)))
  exact bodyPost_ret (v := .agg #[.int .i64 r, .string ⟨#[]⟩, .slice none 0 0]) (by simp [results, Tryz.results20, go_sem, g0, g1, g2]) rfl (HR.out _ _ ⟨S', by first | rfl | rw [HRR.out], hw4, HMF.out, MF.out⟩)
end
end Go.Proofs.YtlcepoagpocadaaGreatDoor
set_option maxRecDepth 100000
/- Orders that change nothing. -/
namespace Go.Proofs.YtlcepoagpocadaaGreatDoor
open Go Go.RowKit
section
variable {K : Nat → Prop} {w : World} {m : Nat} {S : MS} {v v' : Vo}
set_option maxHeartbeats 4000000 in
theorem do_read (h : Md Tryz.prog K w m S) (G : Good S) (W : Wf S) (id x n : Int) (hid : I64 id) (hx : I64 x) (hn : I64 n)
    (HT : ∀ w', Same w w' → Calls Tryz.prog 51 #[.iface 94 (.agg #[.int .i64 id, .int .i64 x, .int .i64 n])] w' fun e w'' => ∃ s, e = .returned (.tuple #[.string s, .int .i64 0]) ∧ Same w' w'') :
    Calls Tryz.prog 20 #[bp m, .iface 94 (.agg #[.int .i64 id, .int .i64 x, .int .i64 n])] w fun e w' => e = .returned (.agg #[.int .i64 (rangeS S id x n), .string ⟨(readA S id x n).toArray⟩, .slice none 0 0]) ∧ Same w w' := by
  refine opq fun R HR => ?_
  have HM := Lib.hid h
  have HG := Lib.hid G
  have HWf := Lib.hid W
  have HTX := Lib.hid HT
  have Xhid := Lib.hid hid
  have Xhx := Lib.hid hx
  have Xhn := Lib.hid hn
  have a25 := fun W => no25 W 94 (.agg #[.int .i64 id, .int .i64 x, .int .i64 n]) (by decide)
  have a79 := fun W => no79 W 94 (.agg #[.int .i64 id, .int .i64 x, .int .i64 n]) (by decide)
  have a81 := fun W => no81 W 94 (.agg #[.int .i64 id, .int .i64 x, .int .i64 n]) (by decide)
  have a137 := fun W => no137 W 94 (.agg #[.int .i64 id, .int .i64 x, .int .i64 n]) (by decide)
  have a139 := fun W => no139 W 94 (.agg #[.int .i64 id, .int .i64 x, .int .i64 n]) (by decide)
  have a141 := fun W => no141 W 94 (.agg #[.int .i64 id, .int .i64 x, .int .i64 n]) (by decide)
  have a94 := fun W => is94 W (.agg #[.int .i64 id, .int .i64 x, .int .i64 n])
  obtain ⟨W1, hW1⟩ : ∃ z, w.alloc (.cells #[.int .i64 0, .string ⟨#[]⟩, .slice none 0 0] 31) = z := ⟨_, rfl⟩
  have J1 := Lib.hid (show Same w W1 by rw [← hW1]; exact (Mod.refl _ _).alloc _)
  have B1 := Lib.hid (show Blk W1 w.heap.size #[.int .i64 0, .string ⟨#[]⟩, .slice none 0 0] by rw [← hW1]; exact Blk.new w _ 31)
  clear h G W HT hid hx hn
  go_enter Tryz.func20, Tryz.ntmps20
  go_wp2_with fail
  refine (HTX.out W1 J1.out).mono ?_
  rintro e w2 ⟨s, rfl, M⟩
  have J2 := Lib.hid (J1.out.same M)
  have B2 := Lib.hid (B1.out.mod M (fun q => q))
  have hs2 : w.heap.size < w2.heap.size := B2.out.lt
  clear M hW1 B1 J1
  obtain ⟨W3, hW3⟩ : ∃ z, w2.alloc (.cells #[.int .i64 id, .int .i64 x, .int .i64 n] 94) = z := ⟨_, rfl⟩
  have N3 := Lib.hid (show Same w2 W3 by rw [← hW3]; exact (Mod.refl _ _).alloc _)
  have C3 := Lib.hid (show Blk W3 w2.heap.size #[.int .i64 id, .int .i64 x, .int .i64 n] by rw [← hW3]; exact Blk.new w2 _ 94)
  have B3 := Lib.hid (B2.out.mod N3.out (fun q => q))
  have J3 := Lib.hid (J2.out.same N3.out)
  have c0 := C3.out.at_ (i := 0) (.int .i64 id) rfl
  have c1 := C3.out.at_ (i := 1) (.int .i64 x) rfl
  have c2 := C3.out.at_ (i := 2) (.int .i64 n) rfl
  go_wp2_with fail
  refine (show Calls Tryz.prog 57 #[bp m, .agg #[.int .i64 id, .int .i64 x, .int .i64 n]] W3 fun e w' => e = .returned (.agg #[.int .i64 (rangeS S id x n), .string ⟨(readA S id x n).toArray⟩, .slice none 0 0]) ∧ Same W3 w' from by
    obtain ⟨ow, hM, _⟩ := HM.out
    exact read_any (hM.same J3.out) HG.out HWf.out id x n Xhid.out Xhx.out Xhn.out).mono ?_
  rintro e w4 ⟨rfl, M⟩
  clear c0 c1 c2 hW3 C3
  have J4 := Lib.hid (J3.out.same M)
  have B4 := Lib.hid (B3.out.mod M (fun q => q))
  clear M
  generalize rangeS S id x n = r at *
  generalize (⟨(readA S id x n).toArray⟩ : ByteArray) = d at *
  have fA := fun i => B4.out.free i
  have a0 := B4.out.at_ (i := 0) (.int .i64 0) rfl
  have a1 := B4.out.at_ (i := 1) (.string ⟨#[]⟩) rfl
  have a2 := B4.out.at_ (i := 2) (.slice none 0 0) rfl
  go_wp2
  have BF := ((B4.out.set 0 (.int .i64 r)).set 1 (.string d)).set 2 (.slice none 0 0)
  have g0 := BF.at_ (i := 0) (.int .i64 r) rfl
  have g1 := BF.at_ (i := 1) (.string d) rfl
  have g2 := BF.at_ (i := 2) (.slice none 0 0) rfl
  have MF := Lib.hid (((J4.out.setCell (p := ⟨w.heap.size, 0, none⟩) (fun q => by simp at q) (.int .i64 r)).setCell (p := ⟨w.heap.size, 1, none⟩) (fun q => by simp at q) (.string d)).setCell (p := ⟨w.heap.size, 2, none⟩) (fun q => by simp at q) (.slice none 0 0))
  clear BF
  generalize ((w4.setCell ⟨w.heap.size, 0, none⟩ (.int .i64 r)).setCell ⟨w.heap.size, 1, none⟩ (.string d)).setCell ⟨w.heap.size, 2, none⟩ (.slice none 0 0) = wf at *
  exact bodyPost_ret (v := .agg #[.int .i64 r, .string d, .slice none 0 0]) (by simp [results, Tryz.results20, go_sem, g0, g1, g2]) rfl (HR.out _ _ ⟨rfl, MF.out⟩)
set_option maxHeartbeats 4000000 in
theorem do_status (h : Md Tryz.prog K w m S) (G : Good S) (W : Wf S)
    (HT : ∀ w', Same w w' → Calls Tryz.prog 51 #[.iface 117 (.agg #[])] w' fun e w'' => ∃ s, e = .returned (.tuple #[.string s, .int .i64 0]) ∧ Same w' w'') :
    Calls Tryz.prog 20 #[bp m, .iface 117 (.agg #[])] w fun e w' => ∃ u, e = .returned (.agg #[.int .i64 0, .string ⟨#[]⟩, u]) ∧ w'.ownsRow w.heap.size 47 5 u S.vols.length (S.vols.flatMap infoC) ∧ (u = .slice none 0 0 ↔ S.vols = []) ∧ Same w w' := by
  refine opq fun R HR => ?_
  have HM := Lib.hid h
  have HG := Lib.hid G
  have HWf := Lib.hid W
  have HTX := Lib.hid HT
  have a25 := fun W => no25 W 117 (.agg #[]) (by decide)
  have a79 := fun W => no79 W 117 (.agg #[]) (by decide)
  have a81 := fun W => no81 W 117 (.agg #[]) (by decide)
  have a137 := fun W => no137 W 117 (.agg #[]) (by decide)
  have a139 := fun W => no139 W 117 (.agg #[]) (by decide)
  have a141 := fun W => no141 W 117 (.agg #[]) (by decide)
  have a94 := fun W => no94 W 117 (.agg #[]) (by decide)
  have a38 := fun W => no38 W 117 (.agg #[]) (by decide)
  have a42 := fun W => no42 W 117 (.agg #[]) (by decide)
  have a117 := fun W => is117 W (.agg #[])
  obtain ⟨W1, hW1⟩ : ∃ z, w.alloc (.cells #[.int .i64 0, .string ⟨#[]⟩, .slice none 0 0] 31) = z := ⟨_, rfl⟩
  have J1 := Lib.hid (show Same w W1 by rw [← hW1]; exact (Mod.refl _ _).alloc _)
  have B1 := Lib.hid (show Blk W1 w.heap.size #[.int .i64 0, .string ⟨#[]⟩, .slice none 0 0] by rw [← hW1]; exact Blk.new w _ 31)
  clear h G W HT
  go_enter Tryz.func20, Tryz.ntmps20
  go_wp2_with fail
  refine (HTX.out W1 J1.out).mono ?_
  rintro e w2 ⟨s, rfl, M⟩
  have J2 := Lib.hid (J1.out.same M)
  have B2 := Lib.hid (B1.out.mod M (fun q => q))
  have hs2 : w.heap.size < w2.heap.size := B2.out.lt
  clear M hW1 B1 J1
  obtain ⟨W3, hW3⟩ : ∃ z, w2.alloc (.cells #[] 117) = z := ⟨_, rfl⟩
  have N3 := Lib.hid (show Same w2 W3 by rw [← hW3]; exact (Mod.refl _ _).alloc _)
  have B3 := Lib.hid (B2.out.mod N3.out (fun q => q))
  have J3 := Lib.hid (J2.out.same N3.out)
  have hs3 : w.heap.size < W3.heap.size := B3.out.lt
  go_wp2_with fail
  refine (show Calls Tryz.prog 23 #[bp m] W3 fun e w' => ∃ v, e = .returned v ∧ w'.ownsRow W3.heap.size 47 5 v S.vols.length (S.vols.flatMap infoC) ∧ (v = .slice none 0 0 ↔ S.vols = []) ∧ Same W3 w' from by
    obtain ⟨ow, hM, _⟩ := HM.out
    exact volumes_any (hM.same J3.out) HWf.out (vols_len HG.out HWf.out) (fun v hv => I64.of ⟨by have := HG.out.ids v hv; omega, by have := HG.out.ids v hv; omega⟩)).mono ?_
  rintro e w4 ⟨u, rfl, hrow, hnil, M⟩
  obtain ⟨ua, uc, rfl⟩ := owns_slice hrow
  have HRow := Lib.hid hrow
  have HNil := Lib.hid hnil
  have J4 := Lib.hid (J3.out.same M)
  have B4 := Lib.hid (B3.out.mod M (fun q => q))
  clear M hrow hnil hW3
  generalize S.vols.length = nv at *
  generalize S.vols.flatMap infoC = rowL at *
  have fA := fun i => B4.out.free i
  have a0 := B4.out.at_ (i := 0) (.int .i64 0) rfl
  have a1 := B4.out.at_ (i := 1) (.string ⟨#[]⟩) rfl
  have a2 := B4.out.at_ (i := 2) (.slice none 0 0) rfl
  go_wp2
  have BF := ((B4.out.set 0 (.int .i64 0)).set 1 (.string ⟨#[]⟩)).set 2 (.slice ua nv uc)
  have g0 := BF.at_ (i := 0) (.int .i64 0) rfl
  have g1 := BF.at_ (i := 1) (.string ⟨#[]⟩) rfl
  have g2 := BF.at_ (i := 2) (.slice ua nv uc) rfl
  have MF := Lib.hid (((J4.out.setCell (p := ⟨w.heap.size, 0, none⟩) (fun q => by simp at q) (.int .i64 0)).setCell (p := ⟨w.heap.size, 1, none⟩) (fun q => by simp at q) (.string ⟨#[]⟩)).setCell (p := ⟨w.heap.size, 2, none⟩) (fun q => by simp at q) (.slice ua nv uc))
  have MS4 := Lib.hid ((((Mod.refl (fun i => i = w.heap.size) w4).setCell (p := ⟨w.heap.size, 0, none⟩) (fun _ => rfl) (.int .i64 0)).setCell (p := ⟨w.heap.size, 1, none⟩) (fun _ => rfl) (.string ⟨#[]⟩)).setCell (p := ⟨w.heap.size, 2, none⟩) (fun _ => rfl) (.slice ua nv uc))
  have HF := Lib.hid (own_base (own_mod2 HRow.out MS4.out (fun k hk q => by have := owns_ge HRow.out k hk; omega)) (Nat.le_of_lt hs3))
  clear BF
  generalize ((w4.setCell ⟨w.heap.size, 0, none⟩ (.int .i64 0)).setCell ⟨w.heap.size, 1, none⟩ (.string ⟨#[]⟩)).setCell ⟨w.heap.size, 2, none⟩ (.slice ua nv uc) = wf at *
  exact bodyPost_ret (v := .agg #[.int .i64 0, .string ⟨#[]⟩, .slice ua nv uc]) (by simp [results, Tryz.results20, go_sem, g0, g1, g2]) rfl (HR.out _ _ ⟨_, rfl, HF.out, HNil.out, MF.out⟩)
end
end Go.Proofs.YtlcepoagpocadaaGreatDoor
set_option maxRecDepth 100000
/- Orders of other kinds, orders that cannot be told, no model. -/
namespace Go.Proofs.YtlcepoagpocadaaGreatDoor
open Go Go.RowKit
section
variable {K : Nat → Prop} {w : World} {m : Nat} {S : MS} {v v' : Vo}
set_option maxHeartbeats 4000000 in
theorem do_other (w : World) (m : Nat) (u : TypeId) (a : Value) (hu : u ≠ 25 ∧ u ≠ 79 ∧ u ≠ 81 ∧ u ≠ 137 ∧ u ≠ 139 ∧ u ≠ 141 ∧ u ≠ 94 ∧ u ≠ 38 ∧ u ≠ 42 ∧ u ≠ 117)
    (HT : ∀ w', Same w w' → Calls Tryz.prog 51 #[.iface u a] w' fun e w'' => ∃ s, e = .returned (.tuple #[.string s, .int .i64 0]) ∧ Same w' w'') :
    Calls Tryz.prog 20 #[bp m, .iface u a] w fun e w' => e = .returned (.agg #[.int .i64 0, .string ⟨#[]⟩, .slice none 0 0]) ∧ Same w w' := by
  refine opq fun R HR => ?_
  have HTX := Lib.hid HT
  obtain ⟨q25, q79, q81, q137, q139, q141, q94, q38, q42, q117⟩ := hu
  have a25 := fun W => no25 W u a q25
  have a79 := fun W => no79 W u a q79
  have a81 := fun W => no81 W u a q81
  have a137 := fun W => no137 W u a q137
  have a139 := fun W => no139 W u a q139
  have a141 := fun W => no141 W u a q141
  have a94 := fun W => no94 W u a q94
  have a38 := fun W => no38 W u a q38
  have a42 := fun W => no42 W u a q42
  have a117 := fun W => no117 W u a q117
  obtain ⟨W1, hW1⟩ : ∃ z, w.alloc (.cells #[.int .i64 0, .string ⟨#[]⟩, .slice none 0 0] 31) = z := ⟨_, rfl⟩
  have J1 := Lib.hid (show Same w W1 by rw [← hW1]; exact (Mod.refl _ _).alloc _)
  have B1 := Lib.hid (show Blk W1 w.heap.size #[.int .i64 0, .string ⟨#[]⟩, .slice none 0 0] by rw [← hW1]; exact Blk.new w _ 31)
  clear HT q25 q79 q81 q137 q139 q141 q94 q38 q42 q117
  go_enter Tryz.func20, Tryz.ntmps20
  go_wp2_with fail
  refine (HTX.out W1 J1.out).mono ?_
  rintro e w2 ⟨s, rfl, M⟩
  have J2 := Lib.hid (J1.out.same M)
  have B2 := Lib.hid (B1.out.mod M (fun q => q))
  have hs2 : w.heap.size < w2.heap.size := B2.out.lt
  clear M hW1 B1 J1
  have fA := fun i => B2.out.free i
  have a0 := B2.out.at_ (i := 0) (.int .i64 0) rfl
  have a1 := B2.out.at_ (i := 1) (.string ⟨#[]⟩) rfl
  have a2 := B2.out.at_ (i := 2) (.slice none 0 0) rfl
  go_wp2
  have BF := ((B2.out.set 0 (.int .i64 0)).set 1 (.string ⟨#[]⟩)).set 2 (.slice none 0 0)
  have g0 := BF.at_ (i := 0) (.int .i64 0) rfl
  have g1 := BF.at_ (i := 1) (.string ⟨#[]⟩) rfl
  have g2 := BF.at_ (i := 2) (.slice none 0 0) rfl
  have MF := Lib.hid (((J2.out.setCell (p := ⟨w.heap.size, 0, none⟩) (fun q => by simp at q) (.int .i64 0)).setCell (p := ⟨w.heap.size, 1, none⟩) (fun q => by simp at q) (.string ⟨#[]⟩)).setCell (p := ⟨w.heap.size, 2, none⟩) (fun q => by simp at q) (.slice none 0 0))
  clear BF
  generalize ((w2.setCell ⟨w.heap.size, 0, none⟩ (.int .i64 0)).setCell ⟨w.heap.size, 1, none⟩ (.string ⟨#[]⟩)).setCell ⟨w.heap.size, 2, none⟩ (.slice none 0 0) = wf at *
  exact bodyPost_ret (v := .agg #[.int .i64 0, .string ⟨#[]⟩, .slice none 0 0]) (by simp [results, Tryz.results20, go_sem, g0, g1, g2]) rfl (HR.out _ _ ⟨rfl, MF.out⟩)
set_option maxHeartbeats 4000000 in
/-- An order that has no text. -/
theorem do_bad (w : World) (m : Nat) (u : TypeId) (a : Value) {s : ByteArray}
    (HT : ∀ w', Same w w' → Calls Tryz.prog 51 #[.iface u a] w' fun e w'' => e = .returned (.tuple #[.string s, .int .i64 1]) ∧ Same w' w'') :
    Calls Tryz.prog 20 #[bp m, .iface u a] w fun e w' => e = .returned (.agg #[.int .i64 1, .string ⟨#[]⟩, .slice none 0 0]) ∧ Same w w' := by
  refine opq fun R HR => ?_
  have HTX := Lib.hid HT
  obtain ⟨W1, hW1⟩ : ∃ z, w.alloc (.cells #[.int .i64 0, .string ⟨#[]⟩, .slice none 0 0] 31) = z := ⟨_, rfl⟩
  have J1 := Lib.hid (show Same w W1 by rw [← hW1]; exact (Mod.refl _ _).alloc _)
  have B1 := Lib.hid (show Blk W1 w.heap.size #[.int .i64 0, .string ⟨#[]⟩, .slice none 0 0] by rw [← hW1]; exact Blk.new w _ 31)
  clear HT
  go_enter Tryz.func20, Tryz.ntmps20
  go_wp2_with fail
  refine (HTX.out W1 J1.out).mono ?_
  rintro e w2 ⟨rfl, M⟩
  have J2 := Lib.hid (J1.out.same M)
  have B2 := Lib.hid (B1.out.mod M (fun q => q))
  have hs2 : w.heap.size < w2.heap.size := B2.out.lt
  clear M hW1 B1 J1
  have fA := fun i => B2.out.free i
  have a0 := B2.out.at_ (i := 0) (.int .i64 0) rfl
  have a1 := B2.out.at_ (i := 1) (.string ⟨#[]⟩) rfl
  have a2 := B2.out.at_ (i := 2) (.slice none 0 0) rfl
  go_wp2
  have BF := ((B2.out.set 0 (.int .i64 1)).set 1 (.string ⟨#[]⟩)).set 2 (.slice none 0 0)
  have g0 := BF.at_ (i := 0) (.int .i64 1) rfl
  have g1 := BF.at_ (i := 1) (.string ⟨#[]⟩) rfl
  have g2 := BF.at_ (i := 2) (.slice none 0 0) rfl
  have MF := Lib.hid (((J2.out.setCell (p := ⟨w.heap.size, 0, none⟩) (fun q => by simp at q) (.int .i64 1)).setCell (p := ⟨w.heap.size, 1, none⟩) (fun q => by simp at q) (.string ⟨#[]⟩)).setCell (p := ⟨w.heap.size, 2, none⟩) (fun q => by simp at q) (.slice none 0 0))
  clear BF
  generalize ((w2.setCell ⟨w.heap.size, 0, none⟩ (.int .i64 1)).setCell ⟨w.heap.size, 1, none⟩ (.string ⟨#[]⟩)).setCell ⟨w.heap.size, 2, none⟩ (.slice none 0 0) = wf at *
  exact bodyPost_ret (v := .agg #[.int .i64 1, .string ⟨#[]⟩, .slice none 0 0]) (by simp [results, Tryz.results20, go_sem, g0, g1, g2]) rfl (HR.out _ _ ⟨rfl, MF.out⟩)
set_option maxHeartbeats 4000000 in
/-- No model. -/
theorem do_nil (w : World) (o : Value) : Calls Tryz.prog 20 #[.pointer none, o] w fun e w' => e = .returned (.agg #[.int .i64 2, .string ⟨#[]⟩, .slice none 0 0]) ∧ Same w w' := by
  refine opq fun R HR => ?_
  obtain ⟨W1, hW1⟩ : ∃ z, w.alloc (.cells #[.int .i64 0, .string ⟨#[]⟩, .slice none 0 0] 31) = z := ⟨_, rfl⟩
  have J1 := Lib.hid (show Same w W1 by rw [← hW1]; exact (Mod.refl _ _).alloc _)
  have B1 := Lib.hid (show Blk W1 w.heap.size #[.int .i64 0, .string ⟨#[]⟩, .slice none 0 0] by rw [← hW1]; exact Blk.new w _ 31)
  have hs2 : w.heap.size < W1.heap.size := B1.out.lt
  go_enter Tryz.func20, Tryz.ntmps20
  have fA := fun i => B1.out.free i
  have a0 := B1.out.at_ (i := 0) (.int .i64 0) rfl
  have a1 := B1.out.at_ (i := 1) (.string ⟨#[]⟩) rfl
  have a2 := B1.out.at_ (i := 2) (.slice none 0 0) rfl
  go_wp2
  have BF := ((B1.out.set 0 (.int .i64 2)).set 1 (.string ⟨#[]⟩)).set 2 (.slice none 0 0)
  have g0 := BF.at_ (i := 0) (.int .i64 2) rfl
  have g1 := BF.at_ (i := 1) (.string ⟨#[]⟩) rfl
  have g2 := BF.at_ (i := 2) (.slice none 0 0) rfl
  have MF := Lib.hid (((J1.out.setCell (p := ⟨w.heap.size, 0, none⟩) (fun q => by simp at q) (.int .i64 2)).setCell (p := ⟨w.heap.size, 1, none⟩) (fun q => by simp at q) (.string ⟨#[]⟩)).setCell (p := ⟨w.heap.size, 2, none⟩) (fun q => by simp at q) (.slice none 0 0))
  clear BF
  generalize ((W1.setCell ⟨w.heap.size, 0, none⟩ (.int .i64 2)).setCell ⟨w.heap.size, 1, none⟩ (.string ⟨#[]⟩)).setCell ⟨w.heap.size, 2, none⟩ (.slice none 0 0) = wf at *
  exact bodyPost_ret (v := .agg #[.int .i64 2, .string ⟨#[]⟩, .slice none 0 0]) (by simp [results, Tryz.results20, go_sem, g0, g1, g2]) rfl (HR.out _ _ ⟨rfl, MF.out⟩)
theorem volumes_nil (w : World) : Calls Tryz.prog 23 #[.pointer none] w fun e w' => e = .returned (.slice none 0 0) ∧ Same w w' := by
  refine opq fun R HR => ?_
  go_enter Tryz.func23, Tryz.ntmps23
  go_wp2
  exact HR.out _ _ ⟨rfl, Mod.refl _ _⟩
theorem dump_nil (w : World) : Calls Tryz.prog 12 #[.pointer none] w fun e w' => e = .returned (.slice none 0 0) ∧ Same w w' := by
  refine opq fun R HR => ?_
  go_enter Tryz.func12, Tryz.ntmps12
  go_wp2
  exact HR.out _ _ ⟨rfl, Mod.refl _ _⟩
theorem count_nil (w : World) : Calls Tryz.prog 24 #[.pointer none] w fun e w' => e = .returned (.int .i64 0) ∧ Same w w' := by
  refine opq fun R HR => ?_
  go_enter Tryz.func24, Tryz.ntmps24
  go_wp2
  exact HR.out _ _ ⟨rfl, Mod.refl _ _⟩
end
end Go.Proofs.YtlcepoagpocadaaGreatDoor
set_option maxRecDepth 100000
/- Maps whose keys are pointers. -/
namespace Go.Proofs.YtlcepoagpocadaaGreatDoor
open Go Go.RowKit
theorem Blk.cells {w : World} {b : Nat} {cs : Array Value} (h : Blk w b cs) (hn : 0 < cs.size) : ∃ c t f, w.heap[b]? = some (.cells c t f) := by
  have h1 := h.cell 0
  rw [Array.getElem?_eq_getElem hn] at h1
  unfold World.cell? at h1
  dsimp only at h1
  split at h1
  · exact ⟨_, _, _, by assumption⟩
  · cases h1
/-- Two blocks of cells that nothing has frozen: their addresses differ. -/
theorem same_other {P : Program} {w : World} {a b : Nat} {ca cb : Array Value} (hne : a ≠ b) (ha : Blk w a ca) (hb : Blk w b cb) (na : 0 < ca.size) (nb : 0 < cb.size) :
    (sameAddr ⟨a, 0, none⟩ ⟨b, 0, none⟩).run P w = .ok false w := by
  obtain ⟨xa, ta, fa, ea⟩ := ha.cells na
  obtain ⟨xb, tb, fb, eb⟩ := hb.cells nb
  have f1 := fun i => ha.free i
  have f2 := fun i => hb.free i
  simp [sameAddr, hne, noView, viewAt, mayBeOne, stringish, World.shape?, ea, eb, f1, f2]
theorem eqIn_other {P : Program} {w : World} {t e : TypeId} {i : TypeInfo} {a b : Nat} {ca cb : Array Value} (d : Nat) (hp : P.underlying t = some (.pointer e)) (hi : P.info? e = some i) (hsz : i.size ≠ 0) (hne : a ≠ b) (ha : Blk w a ca) (hb : Blk w b cb) (na : 0 < ca.size) (nb : 0 < cb.size) :
    (Op.equalIn (d + 1) t (bp a) (bp b)).run P w = .ok false w := by
  unfold bp
  simp [Op.equalIn, run_underlying hp, sizeOf, typeInfo, hi, hsz, same_other hne ha hb na nb]
theorem eqIn_self {P : Program} {w : World} {t e : TypeId} {i : TypeInfo} {a : Nat} (d : Nat) (hp : P.underlying t = some (.pointer e)) (hi : P.info? e = some i) (hsz : i.size ≠ 0) :
    (Op.equalIn (d + 1) t (bp a) (bp a)).run P w = .ok true w := by
  unfold bp
  simp [Op.equalIn, run_underlying hp, sizeOf, typeInfo, hi, hsz, sameAddr]
/-- Search for a pointer among the entries of a map. -/
theorem ask_find {P : Program} {w : World} {t e : TypeId} {i : TypeInfo} {c : Nat} (hp : P.underlying t = some (.pointer e)) (hi : P.info? e = some i) (hsz : i.size ≠ 0)
    (F : Nat → Array Value) (hB : ∀ x, F x ≠ #[] → Blk w x (F x)) (hc : F c ≠ #[]) :
    ∀ (es : List MapEntry) (L : List Nat) (j : Nat), es.map (·.key) = L.map bp → (∀ x ∈ L, F x ≠ #[]) →
      ∃ r, (Instr.findAsking t (bp c) es j).run P w = .ok r w ∧ (r = none ↔ c ∉ L) ∧ ∀ k u, r = some (k, u) → ∃ e0, j ≤ k ∧ es[k - j]? = some e0 ∧ e0.key = bp c := by
  intro es
  induction es with
  | nil =>
    intro L j h _
    obtain rfl : L = [] := by cases L with
      | nil => rfl
      | cons _ _ => simp at h
    exact ⟨none, rfl, by simp, by simp⟩
  | cons y es ih =>
    intro L j h hL
    cases L with
    | nil => simp at h
    | cons x L =>
      simp only [List.map_cons, List.cons.injEq] at h
      obtain ⟨hy, hr⟩ := h
      by_cases q : c = x
      · subst q
        have e1 : (Op.equal t (bp c) y.key).run P w = .ok true w := by rw [hy]; exact eqIn_self (d := 9999) hp hi hsz
        refine ⟨some (j, y.val), ?_, by simp, ?_⟩
        · simp [Instr.findAsking, e1]
        · rintro k u ⟨⟩
          exact ⟨y, Nat.le_refl _, by simp, hy⟩
      · have e1 : (Op.equal t (bp c) y.key).run P w = .ok false w := by
          rw [hy]
          have hx := hL x (by simp)
          exact eqIn_other (d := 9999) hp hi hsz q (hB c hc) (hB x hx) (Array.size_pos_iff.2 hc) (Array.size_pos_iff.2 hx)
        obtain ⟨r, h1, h2, h3⟩ := ih L (j + 1) hr (fun z hz => hL z (by simp [hz]))
        refine ⟨r, ?_, ?_, ?_⟩
        · simp [Instr.findAsking, e1, h1]
        · rw [h2]; simp [q]
        · intro k u e
          obtain ⟨e0, h4, h5, h6⟩ := h3 k u e
          refine ⟨e0, by omega, ?_, h6⟩
          rw [show k - j = (k - (j + 1)) + 1 by omega]
          simpa using h5
theorem under154 : Tryz.prog.underlying 154 = some (.map 123 4) := by kernel_rfl
theorem under123 : Tryz.prog.underlying 123 = some (.pointer 125) := by kernel_rfl
theorem size125 : (Tryz.prog.info? 125).map (·.size) = some 2 := by kernel_rfl
theorem info125 : ∃ i, Tryz.prog.info? 125 = some i ∧ i.size ≠ 0 := by
  have h := size125
  cases hi : Tryz.prog.info? 125 with
  | none => rw [hi] at h; cases h
  | some i =>
    rw [hi] at h
    simp only [Option.map, Option.some.injEq] at h
    exact ⟨i, rfl, by omega⟩
def Seen (w : World) (b : Nat) (L : List Nat) : Prop := ∃ es clock, w.heap[b]? = some (.map es clock) ∧ es.toList.map (·.key) = L.map bp
theorem Seen.made (w : World) : Seen (w.alloc (.map #[] 0)) w.heap.size [] := ⟨#[], 0, (MapKept.heap_alloc w _).1, rfl⟩
theorem Seen.lt {w : World} {b : Nat} {L : List Nat} (h : Seen w b L) : b < w.heap.size := by
  obtain ⟨es, cl, h, _⟩ := h
  exact (Array.getElem?_eq_some_iff.1 h).1
theorem Seen.mod {S : Nat → Prop} {w w' : World} {b : Nat} {L : List Nat} (h : Seen w b L) (M : Mod S w w') (hs : ¬ S b) : Seen w' b L := by
  have hl := h.lt
  obtain ⟨es, cl, h, e⟩ := h
  exact ⟨es, cl, by rw [M.block b hl hs]; exact h, e⟩
theorem mod_set (w : World) (r : Nat) (o : Obj) : Mod (fun i => i = r) w { w with heap := w.heap.setIfInBounds r o } := by
  refine ⟨rfl, rfl, rfl, by simp, fun i hi hs => ?_⟩
  simp [Ne.symm hs]
theorem Seen.put {w : World} {b : Nat} {L : List Nat} (h : Seen w b L) (F : Nat → Array Value) (hB : ∀ x, F x ≠ #[] → Blk w x (F x)) {c : Nat} (hc : F c ≠ #[]) (hL : ∀ x ∈ L, F x ≠ #[]) :
    ∃ w', (Instr.mapUpdate 154 (.map (some b)) (bp c) (.bool true)).run Tryz.prog w = .ok () w' ∧ Seen w' b (if c ∈ L then L else L ++ [c]) ∧ Mod (fun i => i = b) w w' := by
  have hl := h.lt
  obtain ⟨es, cl, h, e⟩ := h
  obtain ⟨i, hi, hsz⟩ := info125
  obtain ⟨r, h1, h2, h3⟩ := ask_find under123 hi hsz F hB hc es.toList L 0 e hL
  have hf : (Instr.findKey 123 (bp c) es.toList).run Tryz.prog w = .ok r w := by
    cases hes : es.toList with
    | nil =>
      rw [hes] at h1
      simp only [Instr.findAsking] at h1
      simp [Instr.findKey, run_underlying under123, Result.andThen, Instr.findNow]
      simpa using h1
    | cons y l =>
      rw [hes] at h1
      simp [Instr.findKey, run_underlying under123, Result.andThen, Instr.findNow, Instr.sameNow, h1]
  have hk : (Instr.checkKey false 10000 123 (bp c)).run Tryz.prog w = .ok () w := by
    rw [show (10000 : Nat) = 9999 + 1 from rfl]
    unfold Instr.checkKey
    simp only [Sem.run_bind, run_underlying under123, Result.andThen]
    rfl
  cases hr : r with
  | none =>
    subst hr
    refine ⟨_, ?_, ?_, mod_set w b (.map (es.push { key := bp c, val := .bool true, born := cl }) (cl + 1))⟩
    · simp [Instr.mapUpdate, run_underlying under154, MapKept.run_getObj_map h, hk, hf, MapKept.run_setObj_map _ h, Result.andThen]
    · rw [if_neg (h2.1 rfl)]
      exact ⟨es.push { key := bp c, val := .bool true, born := cl }, cl + 1, by simp [hl], by simp [e]⟩
  | some p =>
    obtain ⟨k, u⟩ := p
    subst hr
    obtain ⟨e0, _, h5, h6⟩ := h3 k u rfl
    rw [Nat.sub_zero, Array.getElem?_toList] at h5
    have hst : (Instr.keyThatStays (((es[k]?).map (·.key)).getD (bp c)) (bp c)).run Tryz.prog w = .ok (bp c) w := by
      rw [h5]
      simp only [Option.map, Option.getD, h6]
      unfold Instr.keyThatStays
      have : Instr.sameBits 10000 (bp c) (bp c) = true := by unfold bp; simp [Instr.sameBits]
      rw [if_pos this]; rfl
    have hin : c ∈ L := by
      by_cases q : c ∈ L
      · exact q
      · exact absurd (h2.2 q) (by simp)
    refine ⟨_, ?_, ?_, mod_set w b (.map (es.modify k fun e => { e with key := bp c, val := .bool true }) cl)⟩
    · simp [Instr.mapUpdate, run_underlying under154, MapKept.run_getObj_map h, hk, hf, hst, MapKept.run_setObj_map _ h, Result.andThen]
    · rw [if_pos hin]
      refine ⟨es.modify k fun e => { e with key := bp c, val := .bool true }, cl, by simp [hl], ?_⟩
      rw [MapKept.modify_keys _ _ (fun e1 he1 => by rw [h5] at he1; cases he1; exact h6.symm)]
      exact e
theorem Seen.len {w : World} {b : Nat} {L : List Nat} (h : Seen w b L) : ∃ es clock, w.heap[b]? = some (.map es clock) ∧ es.size = L.length := by
  obtain ⟨es, cl, h, e⟩ := h
  exact ⟨es, cl, h, by have := congrArg List.length e; simpa using this⟩
end Go.Proofs.YtlcepoagpocadaaGreatDoor
set_option maxRecDepth 100000
/- How many chunks there are. -/
namespace Go.Proofs.YtlcepoagpocadaaGreatDoor
open Go Go.RowKit
theorem grown_mod {w w' : World} {b : Nat} (M : Mod (fun i => i = b) w w') : w.grownBy w' (some b) :=
  ⟨M.os, M.tape, M.output, M.size, fun i hi hs => M.block i hi (fun e => hs (by rw [e]))⟩
theorem nodup_distinct : ∀ l : List Nat, (distinct l).Nodup
  | [] => List.nodup_nil
  | a :: r => by
    unfold distinct
    split
    · exact nodup_distinct r
    · exact List.nodup_cons.2 ⟨by assumption, nodup_distinct r⟩
theorem len_distinct {L l : List Nat} (h : L.Nodup) (e : ∀ c, c ∈ L ↔ c ∈ l) : L.length = (distinct l).length :=
  ((List.perm_ext_iff_of_nodup h (nodup_distinct l)).2 fun c => (e c).trans mem_distinct.symm).length_eq
theorem make154 (W : World) : (Instr.makeMap 154 none).run Tryz.prog W = .ok (.map (some W.heap.size)) (W.alloc (.map #[] 0)) := by kernel_rfl
/-- The chunks of the volumes that were seen. -/
def SeenV (S : MS) (left : Lit → Bool) (c : Nat) : Prop := ∃ v ∈ S.vols, left (.int .i64 v.id) = false ∧ ∃ x ∈ v.pl, x.2 = c
theorem same_b (a b : Int) : (!(Lit.int .i64 a).sameKey (.int .i64 b)) = decide (a ≠ b) := by rw [same_i]; simp
theorem seenV_step {S : MS} (W : Wf S) {left : Lit → Bool} {x : Int} {v : Vo} (hf : findV S x = some v) (c : Nat) :
    SeenV S (fun y => left y && !y.sameKey (.int .i64 x)) c ↔ SeenV S left c ∨ ∃ y ∈ v.pl, y.2 = c := by
  obtain ⟨hv, hid⟩ := findV_mem hf
  constructor
  · rintro ⟨u, hu, hl, hx⟩
    dsimp only at hl
    rw [same_b] at hl
    by_cases q : u.id = x
    · have := pw_ne W.nd hu hv (q.trans hid.symm)
      subst this
      exact .inr hx
    · left
      refine ⟨u, hu, ?_, hx⟩
      simpa [q] using hl
  · rintro (⟨u, hu, hl, hx⟩ | hx)
    · exact ⟨u, hu, by simp [hl], hx⟩
    · exact ⟨v, hv, by dsimp only; rw [same_b]; simp [hid], hx⟩
theorem seenP_step {L : List (Int × Nat)} (hr : Rise L) {left : Lit → Bool} {p : Int} {d : Nat} (hg : getL p L = some d) (c : Nat) :
    (∃ y ∈ L, (left (.int .i64 y.1) && !(Lit.int .i64 y.1).sameKey (.int .i64 p)) = false ∧ y.2 = c) ↔ (∃ y ∈ L, left (.int .i64 y.1) = false ∧ y.2 = c) ∨ c = d := by
  constructor
  · rintro ⟨y, hy, hl, e⟩
    rw [same_b] at hl
    by_cases q : y.1 = p
    · right
      have := hr.get hy
      rw [q, hg] at this
      injection this with this
      rw [← e, this]
    · exact .inl ⟨y, hy, by simpa [q] using hl, e⟩
  · rintro (⟨y, hy, hl, e⟩ | e)
    · exact ⟨y, hy, by simp [hl], e⟩
    · exact ⟨(p, d), getL_mem hg, by rw [same_b]; simp, e.symm⟩
theorem seenV_all {S : MS} {left : Lit → Bool} (h : ∀ l, left l = false) (c : Nat) : SeenV S left c ↔ c ∈ liveL S.vols := by
  rw [mem_live, cnt_pos]
  exact ⟨fun ⟨v, hv, _, x, hx, e⟩ => ⟨v, hv, x, hx, e⟩, fun ⟨v, hv, x, hx, e⟩ => ⟨v, hv, h _, x, hx, e⟩⟩
theorem seenV_none {S : MS} (W : Wf S) (c : Nat) : ¬ SeenV S (Maps.has (DM (volsL S.vols))) c := by
  rintro ⟨v, hv, hl, _⟩
  rw [has_enc, (vols_rise W.nd).get (x := (v.id, v.b)) (List.mem_map.2 ⟨v, hv, rfl⟩)] at hl
  cases hl
def obC : Ob → Array Value
  | .cl _ cs => cs
  | _ => #[]
section
variable {K : Nat → Prop} {w : World} {m : Nat} {S : MS} {v v' : Vo} {ow : Nat → Int}
theorem Mem.blks (h : Mem Tryz.prog K w m S ow) : ∃ F : Nat → Array Value, (∀ x, F x ≠ #[] → Blk w x (F x)) ∧ ∀ v ∈ S.vols, ∀ x ∈ v.pl, F x.2 ≠ #[] := by
  obtain ⟨H, vm, hH, hK, hlt, A⟩ := h
  refine ⟨fun b => obC (H b), fun x hx => ?_, fun v hv x hx => ?_⟩
  · dsimp only at hx ⊢
    have := hH x
    cases e : H x with
    | cl t cs => rw [e] at this; exact this
    | no => rw [e] at hx; exact absurd rfl hx
    | mp _ _ => rw [e] at hx; exact absurd rfl hx
    | rw _ _ => rw [e] at hx; exact absurd rfl hx
  · obtain ⟨g, cap, h1, _⟩ := A.hc v hv x hx
    dsimp only
    rw [h1]
    simp [obC]
set_option maxHeartbeats 8000000 in
theorem count_any (h : Mem Tryz.prog K w m S ow) (W : Wf S) (G : Good S) :
    Calls Tryz.prog 24 #[bp m] w fun e w' => e = .returned (.int .i64 (countS S : Int)) ∧ Same w w' := by
  refine opq fun R HR => ?_
  have HM := Lib.hid h
  have HW := Lib.hid W
  have HG := Lib.hid G
  obtain ⟨W1, hW1⟩ : ∃ z, w.alloc (.map #[] 0) = z := ⟨_, rfl⟩
  have hmk := make154 w
  rw [hW1] at hmk
  have J1 := Lib.hid (show Same w W1 by rw [← hW1]; exact (Mod.refl _ _).alloc _)
  have S1 := Lib.hid (show Seen W1 w.heap.size [] by rw [← hW1]; exact Seen.made w)
  obtain ⟨vm, hb, hm, hv⟩ := h.parts
  have k1 := (J1.out.cell hb.lt (fun q => q) 1).trans (hb.at_ (i := 1) (.map (some vm)) rfl)
  have HVM := Lib.hid (hm.mod J1.out (fun q => q))
  have hvw : vm < w.heap.size := hm.lt
  have hsb : w.heap.size < W1.heap.size := S1.out.lt
  clear h W G hb hm hv
  go_enter Tryz.func24, Tryz.ntmps24
  go_wp2_with (first | (at_range; refine wpList_range_own _ rfl (.tmp 14) 109 rfl 3 102 law3 Tryz.underlying109 ptrR vm (volsL S.vols).length (DM (volsL S.vols)) rfl HVM.out ?_; intro w0 hrg0 hg0 hs0) | fail)
  go_frame
  have hD0 : Mod (fun _ => False) W1 w0 := (Mod.refl _ _).grown hg0 (fun k hk => by cases hk)
  have J0 := Lib.hid (J1.out.same hD0)
  obtain ⟨r, hr⟩ : ∃ z, W1.heap.size = z := ⟨_, rfl⟩
  obtain ⟨sb, hsbq⟩ : ∃ z, w.heap.size = z := ⟨_, rfl⟩
  have S0 := Lib.hid (S1.out.mod hD0 (fun q => q))
  rw [hr] at hrg0 ⊢
  have hr0 : r < w0.heap.size := by omega
  have RG0 := Lib.hid hrg0
  have hsr : sb < r := by omega
  have hvs : vm < sb := by omega
  clear hrg0 hg0 hs0 hD0 k1 hmk S1 J1 HVM hW1
  go_loopw [5] (fun _ wr => ∃ (left : Lit → Bool) (cn : Nat) (L : List Nat), wr.ranges Tryz.prog 3 ptrR vm r (volsL S.vols).length (DM (volsL S.vols)) left cn ∧ Seen wr sb L ∧ L.Nodup ∧ (∀ c, c ∈ L ↔ SeenV S left c) ∧ Same w wr) (fun _ wr => wr.rangeLeft vm r)
  case atStart => exact ⟨_, _, [], RG0.out, by rw [← hsbq]; exact S0.out, List.nodup_nil, fun c => ⟨fun h => (by simp at h), fun h => absurd h (seenV_none HW.out c)⟩, J0.out⟩
  case round =>
    obtain ⟨left, cn, L, hrg, hse, hnd, hL, hM⟩ := hrel
    have RG := Lib.hid hrg
    have SE := Lib.hid hse
    have ND := Lib.hid hnd
    have HL := Lib.hid hL
    have JM := Lib.hid hM
    have hrw : r < wr.heap.size := by have := hrg.lt; omega
    clear hrg hse hnd hL hM
    go_wp2_with (first
      | (at_next; refine wpList_next_ranges _ rfl (.tmp 15) rfl 3 law3 ptrR (Value.int .i64) ptrO (fun key kl hk => by obtain ⟨x, rfl, _⟩ := Maps.keyOf_int_inv Tryz.underlying3 hk; exact ⟨x, rfl⟩) ptrO_inv vm r (volsL S.vols).length (DM (volsL S.vols)) left cn rfl RG.out ?_ ?_)
      | fail)
    · intro _ hl0
      obtain ⟨es, cl, hes, hsz⟩ := SE.out.len
      have HC := Lib.hid (show L.length = countS S from len_distinct ND.out fun c => (HL.out c).trans (seenV_all hl0 c))
      rw [← HC.out] at HR
      have hlen : (Builtin.len_ #[154] 3 #[.map (some sb)]).run Tryz.prog wr = .ok (.int .i64 (es.size : Int)) wr := run_len_map wr 154 3 sb es cl (by kernel_rfl) hes
      go_wp2
      exact HR.out _ _ ⟨rfl, JM.out⟩
    · intro x c kl y1 y2 w5 cn2 hkey hlx hR hat hrg1 hlt hg1 hs1 hen
      obtain ⟨x', hx', rfl, hxw⟩ := Maps.keyOf_int_inv Tryz.underlying3 hkey
      injection hx' with _ hx'
      subst hx'
      obtain ⟨d, rfl, hgd⟩ := step_get (y := (y1, y2)) hR (fun zd => hat zd)
      rw [getL_find] at hgd
      obtain ⟨v, hf, hvb⟩ := Option.map_eq_some_iff.1 hgd
      obtain ⟨hvm, hvid⟩ := findV_mem hf
      have M5 : Mod (fun i => i = r) wr w5 := (Mod.refl _ _).grown hg1 (fun k hk _ => by cases hk; rfl)
      have J5 := Lib.hid (JM.out.then_ M5 (fun i hi e => by omega))
      have SE5 := Lib.hid (SE.out.mod M5 (fun e => by omega))
      obtain ⟨_, -, -, hvv⟩ := (HM.out.same J5.out).parts
      have e5 := (hvv v hvm).1.at_ (i := 5) (.map (some v.pb)) rfl
      have HP := Lib.hid (hvv v hvm).2
      have hpb : v.pb < w.heap.size := by
        obtain ⟨_, -, -, hq⟩ := HM.out.parts
        exact (hq v hvm).2.lt
      rw [hvb] at e5
      have RG1 := Lib.hid hrg1
      have HV := Lib.hid hvm
      have HF := Lib.hid hf
      have HLT := Lib.hid hlt
      have hw5 : wr.heap.size ≤ w5.heap.size := M5.size
      clear hkey hR hat hrg1 hg1 M5 hgd hvid hvv hvm hf hlx hlt hvb
      (try dsimp only [ptrO, Option.map] at hen ⊢)
      go_wp2_with (first | (at_range; refine wpList_range_own _ rfl (.tmp 23) 106 rfl 3 123 law3 Tryz.underlying106 ptrR v.pb v.pl.length (DM v.pl) rfl HP.out ?_; intro w6 hrg6 hg6 hs6) | fail)
      (try go_frame)
      have D6 : Mod (fun _ => False) w5 w6 := (Mod.refl _ _).grown hg6 (fun k hk => by cases hk)
      have RO6 := Lib.hid (RG1.out.kept hg6 (by simp) (by simp))
      have SE6 := Lib.hid (SE5.out.mod D6 (fun q => q))
      have J6 := Lib.hid (J5.out.same D6)
      obtain ⟨r2, hr2⟩ : ∃ z, wr.heap.size = z := ⟨_, rfl⟩
      have hw56 : w5.heap.size < w6.heap.size := by have := hrg6.lt; omega
      rw [hs1, hr2] at hrg6
      rw [hr2]
      have hrr : r < r2 := by omega
      have hr2l : r2 < w6.heap.size := by omega
      have RG6 := Lib.hid hrg6
      have HRi := Lib.hid (HG.out.rise v HV.out)
      clear hrg6 hg6 hs6 D6 e5 HP
      go_loopw [7] (fun _ wz => ∃ (left2 : Lit → Bool) (cn3 : Nat) (L2 : List Nat), wz.ranges Tryz.prog 3 ptrR v.pb r2 v.pl.length (DM v.pl) left2 cn3 ∧ wz.ranges Tryz.prog 3 ptrR vm r (volsL S.vols).length (DM (volsL S.vols)) (fun y => left y && !y.sameKey (.int .i64 x)) cn2 ∧ Seen wz sb L2 ∧ L2.Nodup ∧ (∀ c, c ∈ L2 ↔ SeenV S left c ∨ ∃ y ∈ v.pl, left2 (.int .i64 y.1) = false ∧ y.2 = c) ∧ Same w wz) (fun _ wz => wz.rangeLeft v.pb r2)
      case atStart =>
        refine ⟨_, _, L, RG6.out, RO6.out, SE6.out, ND.out, fun c => ?_, J6.out⟩
        rw [HL.out c]
        refine ⟨Or.inl, fun h => h.elim id ?_⟩
        rintro ⟨y, hy, hl, _⟩
        rw [has_enc, HRi.out.get hy] at hl
        cases hl
      case round =>
        obtain ⟨left2, cn3, L2, hrg, hro, hse, hnd, hL, hM⟩ := hrel
        have RI := Lib.hid hrg
        have RO := Lib.hid hro
        have SZ := Lib.hid hse
        have NZ := Lib.hid hnd
        have LZ := Lib.hid hL
        have JZ := Lib.hid hM
        have hrz : r2 < _ := hrg.lt
        clear hrg hro hse hnd hL hM
        go_wp2_with (first
          | (at_next; refine wpList_next_ranges _ rfl (.tmp 24) rfl 3 law3 ptrR (Value.int .i64) ptrO (fun key kl hk => by obtain ⟨x, rfl, _⟩ := Maps.keyOf_int_inv Tryz.underlying3 hk; exact ⟨x, rfl⟩) ptrO_inv v.pb r2 v.pl.length (DM v.pl) left2 cn3 rfl RI.out ?_ ?_)
          | fail)
        · intro _ hl0
          have HC := Lib.hid (show ∀ c, c ∈ L2 ↔ SeenV S (fun y => left y && !y.sameKey (.int .i64 x)) c from fun c => by
            rw [LZ.out c, seenV_step HW.out HF.out c]
            exact ⟨fun h => h.imp id (fun ⟨y, hy, _, e⟩ => ⟨y, hy, e⟩), fun h => h.imp id (fun ⟨y, hy, e⟩ => ⟨y, hy, hl0 _, e⟩)⟩)
          go_wp2_with fail
          go_roundw
          case rel =>
            rw [hsbq]
            (iterate 17 (apply Exists.intro))
            exact ⟨⟨_, cn2, L2, RO.out, SZ.out, NZ.out, HC.out, JZ.out⟩, rfl⟩
          case measure => rw [RO.out.left_eq, RG.out.left_eq]; exact HLT.out
        · intro p c kl z1 z2 w8 cn4 hkey hlx hR hat hrg1 hlt hg1 hs1 hen
          obtain ⟨p', hp', rfl, hpw⟩ := Maps.keyOf_int_inv Tryz.underlying3 hkey
          injection hp' with _ hp'
          subst hp'
          obtain ⟨d, rfl, hgd⟩ := step_get (y := (z1, z2)) hR (fun zd => hat zd)
          have M8 : Mod (fun i => i = r2) _ w8 := (Mod.refl _ _).grown hg1 (fun k hk _ => by cases hk; rfl)
          have J8 := JZ.out.then_ M8 (fun i hi e => by omega)
          have S8 := SZ.out.mod M8 (fun e => by omega)
          have RO8 := RO.out.kept hg1 (fun e => by cases e; omega) (fun e => by cases e; omega)
          obtain ⟨F, hB, hFv⟩ := (HM.out.same J8).blks
          obtain ⟨w9, hrun, S9, M9⟩ := S8.put F hB (hFv v HV.out _ (getL_mem hgd)) (fun y hy => by
            rcases (LZ.out y).1 hy with ⟨u, hu, _, z, hz, rfl⟩ | ⟨z, hz, _, rfl⟩
            · exact hFv u hu z hz
            · exact hFv v HV.out z hz)
          have RO9 := Lib.hid (RO8.kept (grown_mod M9) (fun e => by cases e; omega) (fun e => by cases e; omega))
          have RI9 := Lib.hid (hrg1.kept (grown_mod M9) (fun e => by cases e; omega) (fun e => by cases e; omega))
          have J9 := Lib.hid (J8.then_ M9 (fun i hi e => by omega))
          have SZ9 := Lib.hid S9
          have NZ9 := Lib.hid (show (if d ∈ L2 then L2 else L2 ++ [d]).Nodup by
            by_cases q : d ∈ L2
            · rw [if_pos q]; exact NZ.out
            · rw [if_neg q]
              exact List.nodup_append.2 ⟨NZ.out, by simp, by rintro a ha b hb rfl; simp at hb; exact q (hb ▸ ha)⟩)
          have LZ9 := Lib.hid (show ∀ c, c ∈ (if d ∈ L2 then L2 else L2 ++ [d]) ↔ SeenV S left c ∨ ∃ y ∈ v.pl, (left2 (.int .i64 y.1) && !(Lit.int .i64 y.1).sameKey (.int .i64 p)) = false ∧ y.2 = c from fun c => by
            rw [seenP_step HRi.out hgd c, ← or_assoc, ← LZ.out c]
            by_cases q : d ∈ L2
            · rw [if_pos q]
              exact ⟨Or.inl, fun h => h.elim id (fun e => e ▸ q)⟩
            · rw [if_neg q]; simp)
          have HL9 := Lib.hid hlt
          clear hkey hR hat hrg1 hg1 M8 J8 S8 RO8 hB hFv M9 S9 hgd hlx hlt hs1
          (try dsimp only [ptrO, Option.map] at hen ⊢)
          go_wp2_with fail
          go_roundw
          case rel => exact ⟨_, cn4, _, RI9.out, RO9.out, SZ9.out, NZ9.out, LZ9.out, J9.out⟩
          case measure => rw [RI9.out.left_eq, RI.out.left_eq]; exact HL9.out
end
end Go.Proofs.YtlcepoagpocadaaGreatDoor
