import Derived.Test.YtlcepoagpocadaaGreatDoorMgO
set_option linter.unusedSimpArgs false
set_option linter.unusedVariables false
set_option maxRecDepth 100000
/- Restore (f33). -/
namespace Go.Proofs.YtlcepoagpocadaaGreatDoor
open Go Go.RowKit
theorem tellA_all {S : MS} (W : Wf S) (G : Good S) {D : List (List UInt8)} (hl : D.length = S.vols.length) : ∀ v ∈ S.vols, ∀ y ∈ v.pl, ∃ s, (some y.2, s) ∈ tellA S.k (S.vols.zip D) := by
  intro v hv y hy
  obtain ⟨i, hi⟩ := List.mem_iff_getElem?.1 hv
  obtain ⟨h1, h2⟩ := List.getElem?_eq_some_iff.1 hi
  have hz : (S.vols.zip D)[i]? = some (v, D[i]'(by omega)) := by
    rw [List.getElem?_zip_eq_some]
    exact ⟨hi, List.getElem?_eq_getElem (by omega)⟩
  have hk := G.keys v hv y hy
  have := tellA_mem (k := S.k) (p := y.1.toNat) hz (by show _ < v.size.toNat; omega)
  dsimp only at this
  rw [show ((y.1.toNat : Nat) : Int) = y.1 by omega, (G.rise v hv).get hy] at this
  exact ⟨_, this⟩
section
variable {K : Nat → Prop} {w : World} {m : Nat} {S : MS} {v v' : Vo}
set_option maxHeartbeats 8000000 in
theorem restore_any (h : Md Tryz.prog K w m S) (G : Good S) (W : Wf S) (vd : Value) (D : List (List UInt8)) (hD : TxS w vd D) (hDl : D.length ≤ 1000000) :
    Calls Tryz.prog 33 #[bp m, vd] w fun e w' => Mod (fun i => ¬ K i) w w' ∧ ((FitD S D ∧ e = .returned (.bool true) ∧ ∃ sec, (∀ v ∈ S.vols, ∀ y ∈ v.pl, (some y.2, sec y.2) ∈ tellA S.k (S.vols.zip D)) ∧ Md Tryz.prog K w' m { S with sec := sec }) ∨ (¬ FitD S D ∧ e = .returned (.bool false) ∧ Md Tryz.prog K w' m S)) := by
  refine opq fun R HR => ?_
  have HM := Lib.hid h
  have HG := Lib.hid G
  have HW := Lib.hid W
  have HLt := Lib.hid h.lt
  have HTe := Lib.hid (show Calls Tryz.prog 76 #[bp m, vd] w _ from by obtain ⟨ow, hm, _⟩ := h; exact texts_any hm G W vd D hD hDl)
  obtain ⟨mb, hmb⟩ : ∃ z, w.heap.size = z := ⟨_, rfl⟩
  have HMB := Lib.hid hmb
  rw [hmb] at HTe
  clear h G W hD hmb
  go_enter Tryz.func33, Tryz.ntmps33
  go_wp2_with fail
  refine HTe.out.mono ?_
  rintro e w1 ⟨hcase, hM⟩
  have J1 := Lib.hid hM
  clear hM HTe
  rcases hcase with ⟨hF, L, rfl, hT⟩ | ⟨hF, rfl⟩
  · have HF := Lib.hid hF
    have T1 := Lib.hid hT
    clear hF hT
    obtain ⟨A, hA⟩ : ∃ z, tellA S.k (S.vols.zip D) = z := ⟨_, rfl⟩
    rw [hA] at HR T1
    have HA := Lib.hid hA
    clear hA
    go_wp2_with (first | (at_range; refine wpList_range_pm (t := 167) rfl (.tmp 17) rfl Tryz.underlying167 rfl T1.out.pm ?_; intro w2 hpr hM2 hs2) | fail)
    go_frame
    obtain ⟨r, hr⟩ : ∃ z, w1.heap.size = z := ⟨_, rfl⟩
    rw [hr] at hpr ⊢
    have J2 := Lib.hid (J1.out.same hM2)
    have hmr : mb < r := by rw [← hr]; exact T1.out.pm.lt
    have hrw2 : r < w2.heap.size := by omega
    have HRL := Lib.hid (show RL K m mb r S A L w2 L (fun i => K i ∨ (w.heap.size ≤ i ∧ i < w2.heap.size)) S.sec from
      ⟨hpr, HM.out.more J2.out, fun i hi => .inl hi, .inr ⟨by have := HMB.out; omega, by omega⟩, .inr ⟨by have := HMB.out; omega, by omega⟩, fun x hx => by
        obtain ⟨s, g, cap, a, b, c, d, e1, e2⟩ := T1.out.row x hx
        have := HMB.out
        have hg := d.lt
        exact ⟨s, g, cap, a, b, c, d.mod hM2 (fun q => q), .inr ⟨by omega, by omega⟩, e2, by omega, fun hk => by have := HLt.out g hk; omega⟩, T1.out.inj, fun v hv y hy => by
        right
        obtain ⟨s, hs⟩ := tellA_all HW.out HG.out HF.out.1 v hv y hy
        rw [HA.out] at hs
        obtain ⟨u, hu⟩ := T1.out.all _ hs
        exact ⟨_, hu, rfl⟩⟩)
    have HLv := Lib.hid (show ∀ x ∈ A, ∀ c, x.1 = some c → ∃ v ∈ S.vols, ∃ y ∈ v.pl, y.2 = c from fun x hx c hc => by
      rw [← HA.out] at hx
      exact tellA_live hx hc)
    have JK := Lib.hid (show Mod (fun i => ¬ K i) w w2 from J2.out.mono (fun _ _ q => q.elim))
    clear hpr hM2 hs2 T1 J1 J2 hr
    go_loopw [7, 8] (fun _ _ wr => ∃ left Kt sec, RL K m mb r S A L wr left Kt sec ∧ Mod (fun i => ¬ K i) w wr) (fun _ _ wr => wr.rangeLeft mb r)
    case atStart => exact ⟨_, _, _, HRL.out, JK.out⟩
    case round =>
      clear HRL JK
      obtain ⟨left, Kt, sec, hrl, hM⟩ := hrel
      have RLX := Lib.hid hrl
      have JK := Lib.hid hM
      clear hrl hM
      go_wp2_with (first
        | (at_next; refine wpList_next_pm rfl (.tmp 18) rfl rfl (by omega) RLX.out.pr ?_ ?_)
        | fail)
      · intro hl0
        go_wp2
        refine HR.out _ _ ⟨JK.out, .inl ⟨HF.out, rfl, sec, fun v hv y hy => ?_, RLX.out.md.less RLX.out.sub⟩⟩
        rcases RLX.out.done v hv y hy with q | ⟨z, hz, _⟩
        · exact q
        · rw [hl0] at hz; cases hz
      · intro q vx w3 left' hxl hxL hpr hl0 hlen hM3 hs3 hen
        have PR3 := Lib.hid hpr
        have HL3 := Lib.hid (show ∀ y : Option Nat × Value, y ∈ left' ↔ y ∈ left ∧ y.1 ≠ q from fun y => hl0 y.1 y.2)
        have M3 := Lib.hid hM3
        have HLE := Lib.hid hlen
        have HXL := Lib.hid hxl
        have JK3 := Lib.hid (show Mod (fun i => ¬ K i) w w3 from JK.out.then_ hM3 (fun i hi e hk => by have := HMB.out; omega))
        clear hpr hl0 hlen hM3 hxl hxL
        cases q with
        | none =>
          have RL3 := Lib.hid (RLX.out.skip (x := (none, vx)) rfl PR3.out HL3.out M3.out)
          have hen2 : (Instr.entry (.pointer (some ⟨r, 0, none⟩))).run Tryz.prog w3 = .ok (.tuple #[.pointer none, vx]) w3 := hen
          clear hen
          rw [show pk none = .pointer none from rfl]
          go_wp2_with fail
          go_roundw
          case rel => exact ⟨left', Kt, sec, RL3.out, JK3.out⟩
          case measure => rw [RL3.out.pr.left_eq, RLX.out.pr.left_eq]; exact HLE.out
        | some c =>
          obtain ⟨s, -, -, hsA, -⟩ := RLX.out.row _ HXL.out
          have hlive := HLv.out _ hsA c rfl
          obtain ⟨g, cap, u0, u1, hvx, hb, M4, Kt', sec', hrl4⟩ := RLX.out.put HXL.out rfl PR3.out HL3.out M3.out hlive (fun i hi => by have := HLt.out i hi; have := JK.out.size; omega)
          dsimp only at hvx
          subst hvx
          dsimp only at M4 hrl4
          obtain ⟨w4, hw4⟩ : ∃ z, w3.setCell ⟨c, 0, none⟩ (.slice (some ⟨g, 0, none⟩) S.k cap) = z := ⟨_, rfl⟩
          rw [hw4] at M4 hrl4
          have RL4 := Lib.hid hrl4
          have JK4 := Lib.hid (JK3.out.trans M4)
          have x0 := hb.at_ (i := 0) u0 rfl
          have f0 := hb.free 0
          have HB := Lib.hid hb
          have hen2 : (Instr.entry (.pointer (some ⟨r, 0, none⟩))).run Tryz.prog w3 = .ok (.tuple #[.pointer (some ⟨c, 0, none⟩), .slice (some ⟨g, 0, none⟩) S.k cap]) w3 := hen
          clear hen hrl4 M4 hsA hlive
          rw [show pk (some c) = .pointer (some ⟨c, 0, none⟩) from rfl]
          go_wp2_with fail
          go_roundw
          case rel => exact ⟨left', Kt', sec', RL4.out, JK4.out⟩
          case measure => rw [RL4.out.pr.left_eq, RLX.out.pr.left_eq]; exact HLE.out
  · have HF := Lib.hid hF
    clear hF
    have hrg := run_range_nilMap (P := Tryz.prog) w1 167 123 32 Tryz.underlying167
    have hnx : ∀ ty, (Instr.next (.pointer (some ⟨w1.heap.size, 0, none⟩)) false ty).run Tryz.prog (w1.alloc (.mapIter none 0 #[] 0)) = _ := fun ty => run_next_nilMap w1 ty 0 0 #[]
    go_wp2_with fail
    refine wp_loop_rounds 1 ?_
    rw [rounds_succ]
    go_wp2
    have J2 : Same w (w1.alloc (.mapIter none 0 #[] 0)) := J1.out.same ((Mod.refl _ _).alloc _)
    exact HR.out _ _ ⟨J2.mono (fun _ _ q => q.elim), .inr ⟨HF.out, rfl, HM.out.same J2⟩⟩
end
end Go.Proofs.YtlcepoagpocadaaGreatDoor
