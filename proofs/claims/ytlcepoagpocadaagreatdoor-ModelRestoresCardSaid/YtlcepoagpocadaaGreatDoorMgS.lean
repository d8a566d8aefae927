import Derived.Test.YtlcepoagpocadaaGreatDoorMgR
set_option linter.unusedSimpArgs false
set_option linter.unusedVariables false
set_option maxRecDepth 100000
/- Restore of no model; what a write of one sector wants. -/
namespace Go.Proofs.YtlcepoagpocadaaGreatDoor
open Go Go.RowKit
theorem restore_nil (w : World) (vd : Value) : Calls Tryz.prog 33 #[.pointer none, vd] w fun e w' => e = .returned (.bool false) ∧ Same w w' := by
  refine opq fun R HR => ?_
  go_enter Tryz.func33, Tryz.ntmps33
  go_wp2
  exact HR.out _ _ ⟨rfl, Mod.refl _ _⟩
/-- A write of one sector wants a chunk or none. -/
theorem want_at {S : MS} (G : Good S) (W : Wf S) {v : Vo} (hv : v ∈ S.vols) {x : Nat} (hx : x < v.size.toNat * S.k) {s : List UInt8} (hs : s.length = 16) : wantS S 7 [v.id, (x : Int)] [s] = if needS S v (x / S.k) = true then 1 else 0 := by
  have hk := G.k1
  have hf : findV S v.id = some v := by
    cases h : findV S v.id with
    | none =>
      unfold findV at h
      have := List.find?_eq_none.1 h v hv
      simp at this
    | some u =>
      obtain ⟨h1, h2⟩ := findV_mem h
      rw [pw_ne W.nd h1 hv h2]
  have hz := G.sizes v hv
  have hx2 : (x : Int) < v.size * S.k := by
    have e : ((v.size.toNat * S.k : Nat) : Int) = v.size * S.k := by
      rw [Int.natCast_mul, show ((v.size.toNat : Nat) : Int) = v.size by omega]
    rw [← e]
    omega
  have hw : writeE S v.id (x : Int) s = 0 := by
    unfold writeE rangeS
    rw [hf]
    dsimp only
    rw [hs, if_neg (by decide), if_neg (by omega), if_neg (by omega)]
  unfold wantS
  simp only [List.getD_cons_zero, List.getD_cons_succ]
  rw [hf]
  dsimp only
  rw [if_pos hw, hs, show (x : Int).toNat = x by simp]
  have hr : rangeP S.k x (16 / 16) = [x / S.k] := by
    unfold rangeP
    rw [show x + 16 / 16 - 1 = x by omega, show x / S.k + 1 - x / S.k = 1 by omega]
    simp
  rw [hr]
  by_cases q : needS S v (x / S.k) = true <;> simp [q]
end Go.Proofs.YtlcepoagpocadaaGreatDoor
