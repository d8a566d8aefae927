import Derived.Test.YtdengmlidckkeaaDoorPackW
set_option linter.unusedSimpArgs false
set_option linter.unusedVariables false
namespace Go.Proofs.YtdengmlidckkeaaDoor
open Go Go.RowKit
set_option maxRecDepth 10000 in
theorem volume1 (E R : Nat) (n : Int) (hn : I64 n) (l : List UInt8) (sh : Bool) (u : Int) (bad : Bool) (w : World) (h : EyeS w E R (leB (IntKind.u64.wrap n) 8 ++ l) sh u bad) (hl : l.length ≤ 1000000000000) (hu : 0 ≤ u ∧ u ≤ 1000000000000) :
    Calls Tryd.prog 60 #[rptr E, .string ⟨#[100, 101, 108, 101, 116, 101]⟩] w fun e w' => e = .returned (.iface 62 (.agg #[.int .i64 n])) ∧ EyeS w' E R l sh (u + 8) bad ∧ Mod (fun i => i = E ∨ i = R) w w' := by
  refine opq fun Rr HR => ?_
  have HN := Lib.hid (num_any E R n hn l sh u bad w h hl hu)
  clear h
  go_enter Tryd.func60, Tryd.ntmps60
  go_wp2_with fail
  refine HN.out.mono ?_
  rintro e w1 ⟨rfl, h1, h2⟩
  have K1 := Lib.hid h1
  have K2 := Lib.hid h2
  clear h1 h2 HN
  go_wp2_with fail
  exact HR.out _ _ ⟨rfl, K1.out, K2.out⟩
set_option maxRecDepth 10000 in
theorem volume4 (E R : Nat) (n : Int) (hn : I64 n) (l : List UInt8) (sh : Bool) (u : Int) (bad : Bool) (w : World) (h : EyeS w E R (leB (IntKind.u64.wrap n) 8 ++ l) sh u bad) (hl : l.length ≤ 1000000000000) (hu : 0 ≤ u ∧ u ≤ 1000000000000) :
    Calls Tryd.prog 60 #[rptr E, .string ⟨#[112, 105, 110]⟩] w fun e w' => e = .returned (.iface 61 (.agg #[.int .i64 n])) ∧ EyeS w' E R l sh (u + 8) bad ∧ Mod (fun i => i = E ∨ i = R) w w' := by
  refine opq fun Rr HR => ?_
  have HN := Lib.hid (num_any E R n hn l sh u bad w h hl hu)
  clear h
  go_enter Tryd.func60, Tryd.ntmps60
  go_wp2_with fail
  refine HN.out.mono ?_
  rintro e w1 ⟨rfl, h1, h2⟩
  have K1 := Lib.hid h1
  have K2 := Lib.hid h2
  clear h1 h2 HN
  go_wp2_with fail
  exact HR.out _ _ ⟨rfl, K1.out, K2.out⟩
set_option maxRecDepth 10000 in
set_option maxHeartbeats 1000000 in
theorem order9 (E R : Nat) (l : List UInt8) (sh : Bool) (u : Int) (bad : Bool) (w : World) (h : EyeS w E R (leB (10 : Int) 1 ++ l) sh u bad) (hl : l.length ≤ 100000000000) (hu : 0 ≤ u ∧ u ≤ 100000000000) :
    Calls Tryd.prog 32 #[rptr E] w fun e w' => e = .returned (.iface 57 (.agg #[])) ∧ EyeS w' E R l sh (u + 1) bad ∧ Mod (fun i => i = E ∨ i = R) w w' := by
  refine opq fun Rr HR => ?_
  have hc := h.eye.cell
  have hf := h.eye.free
  have hlt := h.eye.lt
  have H := Lib.hid h
  have hE : IntKind.i64.wrap (u + 1) = u + 1 := IntWalk.i64_in _ (by omega)
  clear h
  go_enter Tryd.func32, Tryd.ntmps32
  go_wp2_with fail
  have H2 := Lib.hid (show EyeS (w.setCell ⟨E, 1, none⟩ (.int .i64 (u + 1))) E R (leB (10 : Int) 1 ++ l) sh (u + 1) bad from ⟨H.out.eye.set 1 _, H.out.rd.set_far (p := ⟨E, 1, none⟩) H.out.ne _, H.out.ne⟩)
  have M0 := Lib.hid ((Mod.refl (fun i => i = E ∨ i = R) w).setCell (p := ⟨E, 1, none⟩) (fun _ => .inl rfl) (.int .i64 (u + 1)))
  have HG := Lib.hid (get_any R (leB (10 : Int) 1 ++ l) sh 1 1 (by decide) _ H2.out.rd (by simp only [List.length_append, leB_len]; omega))
  rw [takeL_app _ l sh 1 (leB_len _ _).symm, show leV (leB (10 : Int) 1) = 10 from by decide] at HG
  dsimp only at HG
  refine HG.out.mono ?_
  rintro e w1 ⟨rfl, hB, hM⟩
  have K1 := Lib.hid (show EyeS w1 E R l sh (u + 1) bad from ⟨H2.out.eye.mod hM H2.out.ne, hB, H2.out.ne⟩)
  have K2 := Lib.hid (M0.out.trans (hM.mono (fun i _ e => .inr e)))
  clear hB hM H2 M0 HG hc hf
  go_wp2_with fail
  refine (words_any _).mono ?_
  rintro e w2 ⟨g, rfl, _, M2⟩
  have K3 := Lib.hid (K1.out.same M2)
  have K4 := Lib.hid (K2.out.same M2)
  clear M2 K1 K2
  go_wp2_with fail
  refine (words_any _).mono ?_
  rintro e w3 ⟨g3, rfl, hB3, M3⟩
  have K5 := Lib.hid (K3.out.same M3)
  have K6 := Lib.hid (K4.out.same M3)
  have hcw := hB3.at_ (i := 9) (.string ⟨#[102, 108, 117, 115, 104]⟩) rfl
  have hlw := hB3.lt
  clear M3 K3 K4 hB3
  go_wp2_with fail
  exact HR.out _ _ ⟨rfl, K5.out, K6.out⟩
set_option maxRecDepth 10000 in
set_option maxHeartbeats 1000000 in
theorem order1 (E R : Nat) (n : Int) (hn : I64 n) (l : List UInt8) (sh : Bool) (u : Int) (bad : Bool) (w : World) (h : EyeS w E R (leB (2 : Int) 1 ++ (leB (IntKind.u64.wrap n) 8 ++ l)) sh u bad) (hl : l.length ≤ 100000000000) (hu : 0 ≤ u ∧ u ≤ 100000000000) :
    Calls Tryd.prog 32 #[rptr E] w fun e w' => e = .returned (.iface 62 (.agg #[.int .i64 n])) ∧ EyeS w' E R l sh (u + 9) bad ∧ Mod (fun i => i = E ∨ i = R) w w' := by
  refine opq fun Rr HR => ?_
  have hc := h.eye.cell
  have hf := h.eye.free
  have hlt := h.eye.lt
  have H := Lib.hid h
  have hE : IntKind.i64.wrap (u + 1) = u + 1 := IntWalk.i64_in _ (by omega)
  clear h
  go_enter Tryd.func32, Tryd.ntmps32
  go_wp2_with fail
  have H2 := Lib.hid (show EyeS (w.setCell ⟨E, 1, none⟩ (.int .i64 (u + 1))) E R (leB (2 : Int) 1 ++ (leB (IntKind.u64.wrap n) 8 ++ l)) sh (u + 1) bad from ⟨H.out.eye.set 1 _, H.out.rd.set_far (p := ⟨E, 1, none⟩) H.out.ne _, H.out.ne⟩)
  have M0 := Lib.hid ((Mod.refl (fun i => i = E ∨ i = R) w).setCell (p := ⟨E, 1, none⟩) (fun _ => .inl rfl) (.int .i64 (u + 1)))
  have HG := Lib.hid (get_any R (leB (2 : Int) 1 ++ (leB (IntKind.u64.wrap n) 8 ++ l)) sh 1 1 (by decide) _ H2.out.rd (by simp only [List.length_append, leB_len]; omega))
  rw [takeL_app _ (leB (IntKind.u64.wrap n) 8 ++ l) sh 1 (leB_len _ _).symm, show leV (leB (2 : Int) 1) = 2 from by decide] at HG
  dsimp only at HG
  refine HG.out.mono ?_
  rintro e w1 ⟨rfl, hB, hM⟩
  have K1 := Lib.hid (show EyeS w1 E R (leB (IntKind.u64.wrap n) 8 ++ l) sh (u + 1) bad from ⟨H2.out.eye.mod hM H2.out.ne, hB, H2.out.ne⟩)
  have K2 := Lib.hid (M0.out.trans (hM.mono (fun i _ e => .inr e)))
  clear hB hM H2 M0 HG hc hf
  go_wp2_with fail
  refine (words_any _).mono ?_
  rintro e w2 ⟨g, rfl, _, M2⟩
  have K3 := Lib.hid (K1.out.same M2)
  have K4 := Lib.hid (K2.out.same M2)
  clear M2 K1 K2
  go_wp2_with fail
  refine (words_any _).mono ?_
  rintro e w3 ⟨g3, rfl, hB3, M3⟩
  have K5 := Lib.hid (K3.out.same M3)
  have K6 := Lib.hid (K4.out.same M3)
  have hcw := hB3.at_ (i := 1) (.string ⟨#[100, 101, 108, 101, 116, 101]⟩) rfl
  have hlw := hB3.lt
  clear M3 K3 K4 hB3
  have HC := Lib.hid (volume1 E R n hn l sh (u + 1) bad w3 K5.out (by omega) (by omega))
  rw [show u + 1 + 8 = u + 9 from by omega] at HC
  clear K5
  go_wp2_with fail
  refine HC.out.mono ?_
  rintro e w4 ⟨rfl, h1, h2⟩
  have K7 := Lib.hid h1
  have K8 := Lib.hid (K6.out.trans h2)
  clear h1 h2 HC K6
  go_wp2_with fail
  exact HR.out _ _ ⟨rfl, K7.out, K8.out⟩
set_option maxRecDepth 10000 in
set_option maxHeartbeats 1000000 in
theorem order4 (E R : Nat) (n : Int) (hn : I64 n) (l : List UInt8) (sh : Bool) (u : Int) (bad : Bool) (w : World) (h : EyeS w E R (leB (5 : Int) 1 ++ (leB (IntKind.u64.wrap n) 8 ++ l)) sh u bad) (hl : l.length ≤ 100000000000) (hu : 0 ≤ u ∧ u ≤ 100000000000) :
    Calls Tryd.prog 32 #[rptr E] w fun e w' => e = .returned (.iface 61 (.agg #[.int .i64 n])) ∧ EyeS w' E R l sh (u + 9) bad ∧ Mod (fun i => i = E ∨ i = R) w w' := by
  refine opq fun Rr HR => ?_
  have hc := h.eye.cell
  have hf := h.eye.free
  have hlt := h.eye.lt
  have H := Lib.hid h
  have hE : IntKind.i64.wrap (u + 1) = u + 1 := IntWalk.i64_in _ (by omega)
  clear h
  go_enter Tryd.func32, Tryd.ntmps32
  go_wp2_with fail
  have H2 := Lib.hid (show EyeS (w.setCell ⟨E, 1, none⟩ (.int .i64 (u + 1))) E R (leB (5 : Int) 1 ++ (leB (IntKind.u64.wrap n) 8 ++ l)) sh (u + 1) bad from ⟨H.out.eye.set 1 _, H.out.rd.set_far (p := ⟨E, 1, none⟩) H.out.ne _, H.out.ne⟩)
  have M0 := Lib.hid ((Mod.refl (fun i => i = E ∨ i = R) w).setCell (p := ⟨E, 1, none⟩) (fun _ => .inl rfl) (.int .i64 (u + 1)))
  have HG := Lib.hid (get_any R (leB (5 : Int) 1 ++ (leB (IntKind.u64.wrap n) 8 ++ l)) sh 1 1 (by decide) _ H2.out.rd (by simp only [List.length_append, leB_len]; omega))
  rw [takeL_app _ (leB (IntKind.u64.wrap n) 8 ++ l) sh 1 (leB_len _ _).symm, show leV (leB (5 : Int) 1) = 5 from by decide] at HG
  dsimp only at HG
  refine HG.out.mono ?_
  rintro e w1 ⟨rfl, hB, hM⟩
  have K1 := Lib.hid (show EyeS w1 E R (leB (IntKind.u64.wrap n) 8 ++ l) sh (u + 1) bad from ⟨H2.out.eye.mod hM H2.out.ne, hB, H2.out.ne⟩)
  have K2 := Lib.hid (M0.out.trans (hM.mono (fun i _ e => .inr e)))
  clear hB hM H2 M0 HG hc hf
  go_wp2_with fail
  refine (words_any _).mono ?_
  rintro e w2 ⟨g, rfl, _, M2⟩
  have K3 := Lib.hid (K1.out.same M2)
  have K4 := Lib.hid (K2.out.same M2)
  clear M2 K1 K2
  go_wp2_with fail
  refine (words_any _).mono ?_
  rintro e w3 ⟨g3, rfl, hB3, M3⟩
  have K5 := Lib.hid (K3.out.same M3)
  have K6 := Lib.hid (K4.out.same M3)
  have hcw := hB3.at_ (i := 4) (.string ⟨#[112, 105, 110]⟩) rfl
  have hlw := hB3.lt
  clear M3 K3 K4 hB3
  have HC := Lib.hid (volume4 E R n hn l sh (u + 1) bad w3 K5.out (by omega) (by omega))
  rw [show u + 1 + 8 = u + 9 from by omega] at HC
  clear K5
  go_wp2_with fail
  refine HC.out.mono ?_
  rintro e w4 ⟨rfl, h1, h2⟩
  have K7 := Lib.hid h1
  have K8 := Lib.hid (K6.out.trans h2)
  clear h1 h2 HC K6
  go_wp2_with fail
  exact HR.out _ _ ⟨rfl, K7.out, K8.out⟩
set_option maxRecDepth 10000 in
set_option maxHeartbeats 1000000 in
theorem order10 (E R : Nat) (n : Int) (hn : I64 n) (l : List UInt8) (sh : Bool) (u : Int) (bad : Bool) (w : World) (h : EyeS w E R (leB (11 : Int) 1 ++ (leB (IntKind.u64.wrap n) 8 ++ l)) sh u bad) (hl : l.length ≤ 100000000000) (hu : 0 ≤ u ∧ u ≤ 100000000000) :
    Calls Tryd.prog 32 #[rptr E] w fun e w' => e = .returned (.iface 26 (.agg #[.int .i64 n])) ∧ EyeS w' E R l sh (u + 9) bad ∧ Mod (fun i => i = E ∨ i = R) w w' := by
  refine opq fun Rr HR => ?_
  have hc := h.eye.cell
  have hf := h.eye.free
  have hlt := h.eye.lt
  have H := Lib.hid h
  have hE : IntKind.i64.wrap (u + 1) = u + 1 := IntWalk.i64_in _ (by omega)
  clear h
  go_enter Tryd.func32, Tryd.ntmps32
  go_wp2_with fail
  have H2 := Lib.hid (show EyeS (w.setCell ⟨E, 1, none⟩ (.int .i64 (u + 1))) E R (leB (11 : Int) 1 ++ (leB (IntKind.u64.wrap n) 8 ++ l)) sh (u + 1) bad from ⟨H.out.eye.set 1 _, H.out.rd.set_far (p := ⟨E, 1, none⟩) H.out.ne _, H.out.ne⟩)
  have M0 := Lib.hid ((Mod.refl (fun i => i = E ∨ i = R) w).setCell (p := ⟨E, 1, none⟩) (fun _ => .inl rfl) (.int .i64 (u + 1)))
  have HG := Lib.hid (get_any R (leB (11 : Int) 1 ++ (leB (IntKind.u64.wrap n) 8 ++ l)) sh 1 1 (by decide) _ H2.out.rd (by simp only [List.length_append, leB_len]; omega))
  rw [takeL_app _ (leB (IntKind.u64.wrap n) 8 ++ l) sh 1 (leB_len _ _).symm, show leV (leB (11 : Int) 1) = 11 from by decide] at HG
  dsimp only at HG
  refine HG.out.mono ?_
  rintro e w1 ⟨rfl, hB, hM⟩
  have K1 := Lib.hid (show EyeS w1 E R (leB (IntKind.u64.wrap n) 8 ++ l) sh (u + 1) bad from ⟨H2.out.eye.mod hM H2.out.ne, hB, H2.out.ne⟩)
  have K2 := Lib.hid (M0.out.trans (hM.mono (fun i _ e => .inr e)))
  clear hB hM H2 M0 HG hc hf
  go_wp2_with fail
  refine (words_any _).mono ?_
  rintro e w2 ⟨g, rfl, _, M2⟩
  have K3 := Lib.hid (K1.out.same M2)
  have K4 := Lib.hid (K2.out.same M2)
  clear M2 K1 K2
  go_wp2_with fail
  refine (words_any _).mono ?_
  rintro e w3 ⟨g3, rfl, hB3, M3⟩
  have K5 := Lib.hid (K3.out.same M3)
  have K6 := Lib.hid (K4.out.same M3)
  have hcw := hB3.at_ (i := 10) (.string ⟨#[116, 105, 99, 107]⟩) rfl
  have hlw := hB3.lt
  clear M3 K3 K4 hB3
  have HC := Lib.hid (num_any E R n hn l sh (u + 1) bad w3 K5.out (by omega) (by omega))
  rw [show u + 1 + 8 = u + 9 from by omega] at HC
  clear K5
  go_wp2_with fail
  refine HC.out.mono ?_
  rintro e w4 ⟨rfl, h1, h2⟩
  have K7 := Lib.hid h1
  have K8 := Lib.hid (K6.out.trans h2)
  clear h1 h2 HC K6
  go_wp2_with fail
  exact HR.out _ _ ⟨rfl, K7.out, K8.out⟩
end Go.Proofs.YtdengmlidckkeaaDoor
