import Derived.Test.YtdengmlidckkeaaDoorPackV
set_option linter.unusedSimpArgs false
set_option linter.unusedVariables false
namespace Go.Proofs.YtdengmlidckkeaaDoor
open Go Go.RowKit
/-- An eye: its reader, what it has used, whether something was wrong. -/
structure EyeS (w : World) (E R : Nat) (l : List UInt8) (sh : Bool) (u : Int) (bad : Bool) : Prop where
  eye : Blk w E #[rptr R, .int .i64 u, .bool bad]
  rd : Blk w R (rcells l sh)
  ne : E ≠ R
theorem EyeS.same {w w' : World} {E R : Nat} {l : List UInt8} {sh : Bool} {u : Int} {bad : Bool} (h : EyeS w E R l sh u bad) (M : Same w w') : EyeS w' E R l sh u bad := ⟨h.eye.mod M (fun q => q), h.rd.mod M (fun q => q), h.ne⟩
theorem takeL_app (a r : List UInt8) (sh : Bool) (n : Nat) (hn : n = a.length) : takeL (a ++ r) sh n = (a, r, sh) := by
  unfold takeL
  rw [if_pos (by rw [List.length_append]; omega), List.take_left' hn.symm, List.drop_left' hn.symm]
theorem back_i64 (n : Int) (h : I64 n) : IntKind.i64.wrap (leV (leB (IntKind.u64.wrap n) 8)) = n := by
  have hu := u64_u n
  rw [leV_leB _ hu.1]
  have : (256 : Int) ^ 8 = 18446744073709551616 := by decide
  rw [this]
  unfold U64 at hu
  unfold I64 at h
  revert hu
  unfold IntKind.wrap; simp [IntKind.signed, IntKind.bits]; intro h1 h2
  omega
theorem i64_same (z : Int) (h : 0 ≤ z ∧ z ≤ 1000) : IntKind.i64.wrap z = z := by
  unfold IntKind.wrap; simp [IntKind.signed, IntKind.bits]; omega
set_option maxRecDepth 10000 in
theorem num_any (E R : Nat) (n : Int) (hn : I64 n) (l : List UInt8) (sh : Bool) (u : Int) (bad : Bool) (w : World) (h : EyeS w E R (leB (IntKind.u64.wrap n) 8 ++ l) sh u bad) (hl : l.length ≤ 1000000000000) (hu : 0 ≤ u ∧ u ≤ 1000000000000) :
    Calls Tryd.prog 58 #[rptr E] w fun e w' => e = .returned (.int .i64 n) ∧ EyeS w' E R l sh (u + 8) bad ∧ Mod (fun i => i = E ∨ i = R) w w' := by
  refine opq fun Rr HR => ?_
  have hc := h.eye.cell
  have hf := h.eye.free
  have hlt := h.eye.lt
  have H := Lib.hid h
  have hE : IntKind.i64.wrap (u + 8) = u + 8 := IntWalk.i64_in _ (by omega)
  clear h
  go_enter Tryd.func58, Tryd.ntmps58
  go_wp2_with fail
  have H2 := Lib.hid (show EyeS (w.setCell ⟨E, 1, none⟩ (.int .i64 (u + 8))) E R (leB (IntKind.u64.wrap n) 8 ++ l) sh (u + 8) bad from ⟨H.out.eye.set 1 _, H.out.rd.set_far (p := ⟨E, 1, none⟩) H.out.ne _, H.out.ne⟩)
  have M0 := Lib.hid ((Mod.refl (fun i => i = E ∨ i = R) w).setCell (p := ⟨E, 1, none⟩) (fun _ => .inl rfl) (.int .i64 (u + 8)))
  have HG := Lib.hid (get_any R (leB (IntKind.u64.wrap n) 8 ++ l) sh 8 8 (by decide) _ H2.out.rd (by rw [List.length_append, leB_len]; omega))
  rw [takeL_app _ l sh 8 (leB_len _ _).symm] at HG
  dsimp only at HG
  have hz := back_i64 n hn
  generalize leV (leB (IntKind.u64.wrap n) 8) = z at *
  refine HG.out.mono ?_
  rintro e w1 ⟨rfl, hB, hM⟩
  have K1 := Lib.hid (show EyeS w1 E R l sh (u + 8) bad from ⟨H2.out.eye.mod hM H2.out.ne, hB, H2.out.ne⟩)
  have K2 := Lib.hid (M0.out.trans (hM.mono (fun i _ e => .inr e)))
  clear hB hM H2 M0 HG hc hf
  go_wp2_with fail
  exact HR.out _ _ ⟨rfl, K1.out, K2.out⟩
end Go.Proofs.YtdengmlidckkeaaDoor
