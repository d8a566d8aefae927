import Derived.Test.YtlcepoagpocadaaGreatDoorMeE
import Derived.Test.YtlcepoagpocadaaGreatDoorShelfI
import Derived.Test.YtlcepoagpocadaaGreatDoorShelfS
import Derived.Test.YtlcepoagpocadaaGreatDoorShelfW
import Derived.Lib.AppendIntMem
set_option linter.unusedSimpArgs false
set_option linter.unusedVariables false
set_option maxRecDepth 100000
/- A volume is made: the walk. -/
namespace Go.Proofs.YtlcepoagpocadaaGreatDoor
open Go Go.RowKit
section
variable {K : Nat → Prop} {w : World} {m : Nat} {S : MS} {ow : Nat → Int} {v v' : Vo}
theorem vols_len (G : Good S) (W : Wf S) : S.vols.length ≤ 16 := by
  have := Rise.len (t := 1) (n := 17) (vols_rise W.nd) (fun x hx => by
    obtain ⟨v, hv, rfl⟩ := List.mem_map.1 hx
    have := G.ids v hv
    exact ⟨this.1, by dsimp only; omega⟩) (by omega)
  have e : (volsL S.vols).length = S.vols.length := by unfold volsL; simp
  rw [e] at this
  omega
theorem vm_eq {vm : Nat} (c : w.cell? ⟨m, 1, none⟩ = some (.map (some vm))) : ∀ H vm', Holds Tryz.prog w H → Abs H m vm' S ow → vm' = vm := by
  intro H vm' hH A
  have hb : Blk w m #[.int .i64 (S.k : Int), .map (some vm')] := by have := hH m; rw [A.hm] at this; exact this
  have := hb.at_ (i := 1) (.map (some vm')) rfl
  rw [c] at this
  injection this with this
  injection this with this
  exact (Option.some.inj this).symm
theorem createS_arg {id size : Int} (q : id < 1 ∨ 16 < id ∨ size < 0 ∨ 64 < size) (b pb : Nat) : createS S id size b pb = (1, S) := by unfold createS; rw [if_pos q]
theorem createS_dup {id size : Int} (q : ¬ (id < 1 ∨ 16 < id ∨ size < 0 ∨ 64 < size)) {u : Vo} (hf : findV S id = some u) (b pb : Nat) : createS S id size b pb = (8, S) := by unfold createS; rw [if_neg q, hf]
theorem createS_new {id size : Int} (q : ¬ (id < 1 ∨ 16 < id ∨ size < 0 ∨ 64 < size)) (hf : findV S id = none) (b pb : Nat) : createS S id size b pb = (0, { S with vols := insV ⟨b, pb, id, size, 0, false, []⟩ S.vols }) := by unfold createS; rw [if_neg q, hf]
set_option maxHeartbeats 4000000 in
theorem create_any (h : Mem Tryz.prog K w m S ow) (hl : S.vols.length ≤ 16) (id size : Int) (hid : I64 id) (hsz : I64 size) :
    Calls Tryz.prog 52 #[bp m, .agg #[.int .i64 id, .int .i64 size]] w fun e w' => ∃ b pb, e = .returned (.int .i64 (createS S id size b pb).1) ∧ Mem Tryz.prog K w' m (createS S id size b pb).2 ow ∧ Mod (fun i => ¬ K i) w w' := by
  refine opq fun R HR => ?_
  have HM := Lib.hid h
  obtain ⟨vm, hb, hm, hv⟩ := h.parts
  have W0 := Lib.hid (show Same w (w.alloc (.cells #[.int .i64 id, .int .i64 size] 25)) from (Mod.refl _ _).alloc _)
  have B0 := Blk.new w #[.int .i64 id, .int .i64 size] 25
  have hB0 := Lib.hid B0
  have b0 := B0.at_ (i := 0) (.int .i64 id) rfl
  have b1 := B0.at_ (i := 1) (.int .i64 size) rfl
  have k1 := (W0.out.cell hb.lt (fun q => q) 1).trans (hb.at_ (i := 1) (.map (some vm)) rfl)
  have hlk := fun n => look_vol (S := S) (hm.mod W0.out (fun q => q)) hid n
  have HMM := Lib.hid (hm.mod W0.out (fun q => q))
  have hml := Nat.lt_of_lt_of_le hb.lt W0.out.size
  have hBl := B0.lt
  have hmv : m ≠ vm := by
    obtain ⟨H, vm', hH, hK, hlt, A⟩ := h
    have e := vm_eq (hb.at_ (i := 1) (.map (some vm)) rfl) H vm' hH A
    subst e
    exact ne_H (H := H) (by rw [A.hm, A.hv]; simp)
  have hvl := hm.lt
  have hBv : w.heap.size ≠ vm := by omega
  have HLen := Lib.hid hl
  have HID := Lib.hid hid
  have hm0 : m < w.heap.size := hb.lt
  clear h hb hm hv hsz hid hl B0
  by_cases q1 : id < 1
  · have d1 : decide (id < 1) = true := decide_eq_true q1
    have HE := Lib.hid (createS_arg (S := S) (.inl q1 : id < 1 ∨ 16 < id ∨ size < 0 ∨ 64 < size) 0 0)
    go_enter Tryz.func52, Tryz.ntmps52
    go_wp2_with fail
    go_wp2
    exact HR.out _ _ ⟨0, 0, by simp [HE.out], by rw [HE.out]; exact HM.out.same W0.out, W0.out.mono (fun _ _ q => q.elim)⟩
  · have d1 : decide (id < 1) = false := decide_eq_false q1
    by_cases q2 : 16 < id
    · have d2 : decide (16 < id) = true := decide_eq_true q2
      have d2' : decide (id > 16) = true := d2
      have HE := Lib.hid (createS_arg (S := S) (.inr (.inl q2) : id < 1 ∨ 16 < id ∨ size < 0 ∨ 64 < size) 0 0)
      go_enter Tryz.func52, Tryz.ntmps52
      go_wp2_with fail
      go_wp2
      exact HR.out _ _ ⟨0, 0, by simp [HE.out], by rw [HE.out]; exact HM.out.same W0.out, W0.out.mono (fun _ _ q => q.elim)⟩
    · have d2 : decide (16 < id) = false := decide_eq_false q2
      have d2' : decide (id > 16) = false := d2
      by_cases q3 : size < 0
      · have d3 : decide (size < 0) = true := decide_eq_true q3
        have HE := Lib.hid (createS_arg (S := S) (.inr (.inr (.inl q3)) : id < 1 ∨ 16 < id ∨ size < 0 ∨ 64 < size) 0 0)
        go_enter Tryz.func52, Tryz.ntmps52
        go_wp2_with fail
        go_wp2
        exact HR.out _ _ ⟨0, 0, by simp [HE.out], by rw [HE.out]; exact HM.out.same W0.out, W0.out.mono (fun _ _ q => q.elim)⟩
      · have d3 : decide (size < 0) = false := decide_eq_false q3
        by_cases q4 : 64 < size
        · have d4 : decide (64 < size) = true := decide_eq_true q4
          have d4' : decide (size > 64) = true := d4
          have HE := Lib.hid (createS_arg (S := S) (.inr (.inr (.inr q4)) : id < 1 ∨ 16 < id ∨ size < 0 ∨ 64 < size) 0 0)
          go_enter Tryz.func52, Tryz.ntmps52
          go_wp2_with fail
          go_wp2
          exact HR.out _ _ ⟨0, 0, by simp [HE.out], by rw [HE.out]; exact HM.out.same W0.out, W0.out.mono (fun _ _ q => q.elim)⟩
        · have d4 : decide (64 < size) = false := decide_eq_false q4
          have d4' : decide (size > 64) = false := d4
          have q0 : ¬ (id < 1 ∨ 16 < id ∨ size < 0 ∨ 64 < size) := fun r => r.elim q1 (fun r => r.elim q2 (fun r => r.elim q3 q4))
          cases hf : findV S id with
          | some u =>
            have HE := Lib.hid (createS_dup q0 hf 0 0)
            rw [hf] at hlk
            dsimp only [ptrO, Option.map] at hlk
            clear hf
            go_enter Tryz.func52, Tryz.ntmps52
            go_wp2_with fail
            go_big_quiet (fail)
            go_wp2_with fail
            go_wp2
            exact HR.out _ _ ⟨0, 0, by simp [HE.out], by rw [HE.out]; exact HM.out.same (W0.out.drewN _), (W0.out.drewN _).mono (fun _ _ q => q.elim)⟩
          | none =>
            have HE := Lib.hid (createS_new q0 hf)
            have HF := Lib.hid hf
            rw [hf] at hlk
            dsimp only [ptrO, Option.map] at hlk
            clear hf
            go_enter Tryz.func52, Tryz.ntmps52
            go_wp2_with fail
            go_big_quiet (fail)
            go_wp2_with fail
            clear hlk
            obtain ⟨W, hW⟩ : ∃ z, (w.alloc (.cells #[.int .i64 id, .int .i64 size] 25)).drewN nq = z := ⟨_, rfl⟩
            have k1 := (show W.cell? ⟨m, 1, none⟩ = some (.map (some vm)) by rw [← hW]; exact k1)
            have b0 := (show W.cell? ⟨w.heap.size, 0, none⟩ = some (.int .i64 id) by rw [← hW]; exact b0)
            have b1 := (show W.cell? ⟨w.heap.size, 1, none⟩ = some (.int .i64 size) by rw [← hW]; exact b1)
            have WW := Lib.hid (show Same w W by rw [← hW]; exact W0.out.drewN _)
            have HMW := Lib.hid (HMM.out.mod ((Mod.refl (fun _ => False) _).drewN nq) (fun q => q))
            have hml : m < W.heap.size := by rw [← hW]; exact hml
            have hBl : w.heap.size < W.heap.size := by rw [← hW]; exact hBl
            rw [hW] at HMW ⊢
            clear hW
            refine wp_region_held_drew (S := fun w' => Mod (fun i => i = vm) W w') (by kernel_rfl) (by (try dsimp only); exact (Mod.refl _ _).drew) (fun hHeld => ?_)
            refine wpAnyH_take (i := 0) (v := ?_) rfl (by kernel_rfl) (by kernel_rfl) (by kernel_rfl) (fun _ _ _ h => h) (Or.inl ⟨by rfl, ?_⟩) (by assumption) ?_
            rotate_left
            · intro w hSw
              try dsimp only at hSw
              go_simp
              try with_reducible rfl
            try simp only [List.getElem_toArray, List.getElem_cons_succ, List.getElem_cons_zero, Act.put, List.setIfInBounds_toArray, List.set_cons_zero, List.set_cons_succ]
            refine wpAnyH_take (i := 1) (v := ?_) rfl (by kernel_rfl) (by kernel_rfl) (by kernel_rfl) (fun _ _ _ h => h) (Or.inl ⟨by rfl, ?_⟩) (by assumption) ?_
            rotate_left
            · intro w hSw
              try dsimp only at hSw
              go_simp
              try with_reducible rfl
            try simp only [List.getElem_toArray, List.getElem_cons_succ, List.getElem_cons_zero, Act.put, List.setIfInBounds_toArray, List.set_cons_zero, List.set_cons_succ]
            refine wpAnyH_take (i := 2) (v := ?_) rfl (by kernel_rfl) (by kernel_rfl) (by kernel_rfl) (fun _ _ _ h => h) (Or.inl ⟨by rfl, ?_⟩) (by assumption) ?_
            rotate_left
            · intro w hSw
              try dsimp only at hSw
              go_simp
              try with_reducible rfl
            try simp only [List.getElem_toArray, List.getElem_cons_succ, List.getElem_cons_zero, Act.put, List.setIfInBounds_toArray, List.set_cons_zero, List.set_cons_succ]
            refine wpAnyH_take (i := 3) (v := ?_) rfl (by kernel_rfl) (by kernel_rfl) (by kernel_rfl) (fun _ _ _ h => h) (Or.inl ⟨by rfl, ?_⟩) (by assumption) ?_
            rotate_left
            · intro w hSw
              try dsimp only at hSw
              have g1 := (hSw.cell hml hmv 1).trans k1
              go_simp
              try with_reducible rfl
            try simp only [List.getElem_toArray, List.getElem_cons_succ, List.getElem_cons_zero, Act.put, List.setIfInBounds_toArray, List.set_cons_zero, List.set_cons_succ]
            refine wpAnyH_take (i := 4) (v := ?_) rfl (by kernel_rfl) (by kernel_rfl) (by kernel_rfl) (fun _ _ _ h => h) (Or.inl ⟨by rfl, ?_⟩) (by assumption) ?_
            rotate_left
            · intro w hSw
              try dsimp only at hSw
              go_simp
              try with_reducible rfl
            try simp only [List.getElem_toArray, List.getElem_cons_succ, List.getElem_cons_zero, Act.put, List.setIfInBounds_toArray, List.set_cons_zero, List.set_cons_succ]
            refine wpAnyH_take (i := 5) (v := ?_) rfl (by kernel_rfl) (by kernel_rfl) (by kernel_rfl) (fun _ _ _ h => h) (Or.inl ⟨by rfl, ?_⟩) (by assumption) ?_
            rotate_left
            · intro w hSw
              try dsimp only at hSw
              have g1 := (hSw.cell hBl hBv 0).trans b0
              go_simp
              try with_reducible rfl
            try simp only [List.getElem_toArray, List.getElem_cons_succ, List.getElem_cons_zero, Act.put, List.setIfInBounds_toArray, List.set_cons_zero, List.set_cons_succ]
            refine wpAnyH_take (i := 6) (v := ?_) rfl (by kernel_rfl) (by kernel_rfl) (by kernel_rfl) (fun _ _ _ h => h) (Or.inl ⟨by rfl, ?_⟩) (by assumption) ?_
            rotate_left
            · intro w hSw
              try dsimp only at hSw
              go_simp
              try with_reducible rfl
            try simp only [List.getElem_toArray, List.getElem_cons_succ, List.getElem_cons_zero, Act.put, List.setIfInBounds_toArray, List.set_cons_zero, List.set_cons_succ]
            refine wpAnyH_take (i := 7) (v := ?_) rfl (by kernel_rfl) (by kernel_rfl) (by kernel_rfl) (fun _ _ _ h => h) (Or.inl ⟨by rfl, ?_⟩) (by assumption) ?_
            rotate_left
            · intro w hSw
              try dsimp only at hSw
              have g1 := (hSw.cell hBl hBv 0).trans b0
              go_simp
              try with_reducible rfl
            try simp only [List.getElem_toArray, List.getElem_cons_succ, List.getElem_cons_zero, Act.put, List.setIfInBounds_toArray, List.set_cons_zero, List.set_cons_succ]
            refine wpAnyH_take (i := 8) (v := ?_) rfl (by kernel_rfl) (by kernel_rfl) (by kernel_rfl) (fun _ _ _ h => h) (Or.inl ⟨by rfl, ?_⟩) (by assumption) ?_
            rotate_left
            · intro w hSw
              try dsimp only at hSw
              go_simp
              try with_reducible rfl
            try simp only [List.getElem_toArray, List.getElem_cons_succ, List.getElem_cons_zero, Act.put, List.setIfInBounds_toArray, List.set_cons_zero, List.set_cons_succ]
            refine wpAnyH_take (i := 9) (v := ?_) rfl (by kernel_rfl) (by kernel_rfl) (by kernel_rfl) (fun _ _ _ h => h) (Or.inl ⟨by rfl, ?_⟩) (by assumption) ?_
            rotate_left
            · intro w hSw
              try dsimp only at hSw
              have g1 := (hSw.cell hBl hBv 1).trans b1
              go_simp
              try with_reducible rfl
            try simp only [List.getElem_toArray, List.getElem_cons_succ, List.getElem_cons_zero, Act.put, List.setIfInBounds_toArray, List.set_cons_zero, List.set_cons_succ]
            refine wpAnyH_take (i := 10) (v := ?_) rfl (by kernel_rfl) (by kernel_rfl) (by kernel_rfl) (fun _ _ _ h => h) (Or.inl ⟨by rfl, ?_⟩) (by assumption) ?_
            rotate_left
            · intro w hSw
              try dsimp only at hSw
              go_simp
              try with_reducible rfl
            try simp only [List.getElem_toArray, List.getElem_cons_succ, List.getElem_cons_zero, Act.put, List.setIfInBounds_toArray, List.set_cons_zero, List.set_cons_succ]
            refine wpAnyH_ready (rs := [11]) (by kernel_rfl) (by simp) ?_
            refine AllReadyH.cons rfl (fun Kc hKc => ?_) AllReadyH.nil
            go_simp
            refine hKc.out _ (W.drew.alloc (.map #[] 0)) (by (try dsimp only); exact ((Mod.refl _ _).drew).alloc _) (fun hHeld => ?_)
            clear hKc Kc
            try simp only [List.getElem_toArray, List.getElem_cons_succ, List.getElem_cons_zero, Act.put, List.setIfInBounds_toArray, List.set_cons_zero, List.set_cons_succ]
            refine wpAnyH_take (i := 12) (v := ?_) rfl (by kernel_rfl) (by kernel_rfl) (by kernel_rfl) (fun _ _ _ h => h) (Or.inl ⟨by rfl, ?_⟩) (by assumption) ?_
            rotate_left
            · intro w hSw
              try dsimp only at hSw
              go_simp
              try with_reducible rfl
            try simp only [List.getElem_toArray, List.getElem_cons_succ, List.getElem_cons_zero, Act.put, List.setIfInBounds_toArray, List.set_cons_zero, List.set_cons_succ]
            refine wpAnyH_ready (rs := [13]) (by kernel_rfl) (by simp) ?_
            refine AllReadyH.cons rfl (fun Kc hKc => ?_) AllReadyH.nil
            go_simp
            refine hKc.out _ _ (by (try dsimp only); exact (((Mod.refl _ _).drew).alloc _).alloc _) (fun hHeld => ?_)
            clear hKc Kc
            try simp only [List.getElem_toArray, List.getElem_cons_succ, List.getElem_cons_zero, Act.put, List.setIfInBounds_toArray, List.set_cons_zero, List.set_cons_succ]
            refine wpAnyH_ready (rs := [14]) (by kernel_rfl) (by simp) ?_
            refine AllReadyH.cons rfl (fun Kc hKc => ?_) AllReadyH.nil
            have MX := Lib.hid (show Mod (fun i => i = vm) W ((W.alloc (.map #[] 0)).alloc (.cells #[.int .i64 id, .int .i64 size, .int .i64 0, .bool false, .int .i64 0, .map (some W.heap.size)] 108)).drew from (((Mod.refl _ _).alloc _).alloc _).drew)
            have SX := Lib.hid (show Same W ((W.alloc (.map #[] 0)).alloc (.cells #[.int .i64 id, .int .i64 size, .int .i64 0, .bool false, .int .i64 0, .map (some W.heap.size)] 108)).drew from (((Mod.refl _ _).alloc _).alloc _).drew)
            have IX := HMW.out.mod SX.out (fun q => q)
            have BX := Lib.hid (show Blk ((W.alloc (.map #[] 0)).alloc (.cells #[.int .i64 id, .int .i64 size, .int .i64 0, .bool false, .int .i64 0, .map (some W.heap.size)] 108)).drew (W.heap.size + 1) (volC ⟨W.heap.size + 1, W.heap.size, id, size, 0, false, []⟩) from by
              have := Blk.new (W.alloc (.map #[] 0)) #[.int .i64 id, .int .i64 size, .int .i64 0, .bool false, .int .i64 0, .map (some W.heap.size)] 108
              have e : (W.alloc (.map #[] 0)).heap.size = W.heap.size + 1 := by simp
              rw [e] at this
              exact this.drew)
            have PX := Lib.hid (show IMap Tryz.prog 3 ((W.alloc (.map #[] 0)).alloc (.cells #[.int .i64 id, .int .i64 size, .int .i64 0, .bool false, .int .i64 0, .map (some W.heap.size)] 108)).drew W.heap.size [] from
              (IMap.made (P := Tryz.prog) (kt := 3) W).mod (((Mod.refl (fun _ => False) _).alloc _).drew) (fun q => q))
            have hX1 : W.heap.size + 2 = (((W.alloc (.map #[] 0)).alloc (.cells #[.int .i64 id, .int .i64 size, .int .i64 0, .bool false, .int .i64 0, .map (some W.heap.size)] 108)).drew).heap.size := by simp [World.drew]
            obtain ⟨w4, hrun, hi4, hg4⟩ := IX.put Tryz.underlying3 Tryz.underlying109 (by have e : (volsL S.vols).length = S.vols.length := by unfold volsL; simp
                                                                                          rw [e]; have := HLen.out; omega) id HID.out (W.heap.size + 1)
            have HI4 := Lib.hid hi4
            have HG4 := Lib.hid hg4
            have MF := Lib.hid (MX.out.grown hg4 (fun k hk _ => (Option.some.inj hk).symm))
            clear hi4 hg4 IX
            go_simp
            refine hKc.out _ _ (by (try dsimp only); exact MF.out) (fun hHeld => ?_)
            clear hKc Kc
            try simp only [List.getElem_toArray, List.getElem_cons_succ, List.getElem_cons_zero, Act.put, List.setIfInBounds_toArray, List.set_cons_zero, List.set_cons_succ]
            refine wpAnyH_done (by kernel_rfl) ?_ _
            have hKl : ∀ i, K i → i < w.heap.size := by obtain ⟨H, vm, hH, hK, hlt, A⟩ := HM.out; exact hlt
            have hWs : w.heap.size ≤ W.heap.size := WW.out.size
            have k1y := (SX.out.cell hml (fun q => q) 1).trans k1
            have hfin := (HM.out.more (WW.out.same SX.out)).add_vol (K' := K) (fr := 0) HF.out BX.out PX.out (.inr ⟨by omega, by omega⟩) (.inr ⟨hWs, by omega⟩) (by omega) (fun x hx => by cases hx) (fun i q => .inl q) (fun q => by have := hKl _ q; omega) (fun q => by have := hKl _ q; omega) (vm_eq k1y) HI4.out HG4.out
            have hvK : ¬ K vm := by
              obtain ⟨H, vm', hH, hK, hlt, A⟩ := (HM.out.same (WW.out.same SX.out))
              have e := vm_eq k1y H vm' hH A
              subst e
              exact hK vm' (by rw [A.hv]; simp)
            have HFin := Lib.hid hfin
            clear hfin
            go_wp2
            exact HR.out _ _ ⟨W.heap.size + 1, W.heap.size, by simp [HE.out], by rw [HE.out]; exact HFin.out, ((WW.out.mono (fun _ _ q => q.elim) : Mod (fun i => ¬ K i) w W).then_ MF.out (fun i hi q => by rw [q]; exact hvK))⟩
end
end Go.Proofs.YtlcepoagpocadaaGreatDoor
set_option maxRecDepth 100000
/- The keys of the model's maps in a row. -/
namespace Go.Proofs.YtlcepoagpocadaaGreatDoor
open Go Go.RowKit
theorem sortsI (n : Nat) : AnyZI.SortsIn Tryz.prog Tryz.sortedI_ren Fence.wide n :=
  ⟨fun blk off cap ss W hH hblk hsz => callsIn_wide.2 (Tryz.slices_Sort_int blk off cap ss W hH hblk hsz), fun p cap W => callsIn_wide.2 (Tryz.slices_Sort_int_none p cap W)⟩
theorem keysV_any (mb : Option Nat) (W : World) : Calls Tryz.prog 81 #[.map mb] W fun e w' => e = .returned (.func (.func 110) #[] #[bp W.heap.size]) ∧ w' = W.alloc (.cells #[.map mb] 109) :=
  (callsIn_wide (n := 5)).1 (AnyZI.keys_in Tryz.keysV Fence.wide 5 trivial rfl mb W)
theorem keysC_any (mb : Option Nat) (W : World) : Calls Tryz.prog 116 #[.map mb] W fun e w' => e = .returned (.func (.func 138) #[] #[bp W.heap.size]) ∧ w' = W.alloc (.cells #[.map mb] 106) :=
  (callsIn_wide (n := 5)).1 (AnyZI.keys_in Tryz.keysC Fence.wide 5 trivial rfl mb W)
theorem sortedV_raw {w : World} {b B : Nat} {L : List (Int × Nat)} (h : IMap Tryz.prog 3 w b L) (hB : B < w.heap.size) (hc : w.cell? ⟨B, 0, none⟩ = some (.map (some b))) (hL : L.length ≤ 1000000) :
    Calls Tryz.prog 80 #[.func (.func 110) #[] #[bp B]] w fun e w' => ∃ (v : Value) (ss : List Int), e = .returned v ∧ ss.Perm (intKeys (DM L)) ∧ w'.ownsRow w.heap.size 3 1 v ss.length ((ss.mergeSort (fun x y => decide (x ≤ y))).map encZ) ∧ (v = .slice none 0 0 ↔ ss = []) ∧ Below w.heap.size w w' := by
  have hsz : Maps.size (DM L) = L.length := by unfold DM; rw [Maps.size_eq]; simp
  have hseq : SeqGives Fence.wide 2 Tryz.prog 110 #[bp B] encZ (fun ss => ss.Perm (intKeys (DM L))) (Maps.size (DM L)) w :=
    AnyZI.keys_gives (ρ := Tryz.keysV_ren) { Tryz.keysV with } Fence.wide _ trivial rfl (by omega) B b L.length (DM L) _ hB hc h
  have cS := AnyZI.sorted_in Tryz.sortedI Fence.wide 5 trivial trivial trivial trivial rfl (by omega) (sortsI _) (enters_of Tryz.func109 (by kernel_rfl) rfl) 110 #[bp B] trivial (enters_of Tryz.func110 (by kernel_rfl) rfl) _ _ (by rw [hsz]; unfold maxLen; omega) (by rw [hsz]; omega) _ hseq
  exact (callsIn_wide (n := 5)).1 cS
theorem collectC_raw {w : World} {b B : Nat} {L : List (Int × Nat)} (h : IMap Tryz.prog 3 w b L) (hB : B < w.heap.size) (hc : w.cell? ⟨B, 0, none⟩ = some (.map (some b))) (hL : L.length ≤ 1000000) :
    Calls Tryz.prog 108 #[.func (.func 138) #[] #[bp B]] w fun e w' => ∃ (v : Value) (ss : List Int), e = .returned v ∧ ss.Perm (intKeys (DM L)) ∧ w'.ownsRow w.heap.size 3 1 v ss.length (ss.map encZ) ∧ (v = .slice none 0 0 ↔ ss = []) ∧ Below w.heap.size w w' := by
  have hsz : Maps.size (DM L) = L.length := by unfold DM; rw [Maps.size_eq]; simp
  have hseq : SeqGives Fence.wide 3 Tryz.prog 138 #[bp B] encZ (fun ss => ss.Perm (intKeys (DM L))) (Maps.size (DM L)) w :=
    AnyZI.keys_gives (ρ := Tryz.keysC_ren) { Tryz.keysC with } Fence.wide _ trivial rfl (by omega) B b L.length (DM L) _ hB hc h
  have cS := AnyZI.collect_in Tryz.collectI Fence.wide 5 trivial trivial rfl (by omega) 138 #[bp B] trivial (enters_of Tryz.func138 (by kernel_rfl) rfl) _ _ (by rw [hsz]; unfold maxLen; omega) (by rw [hsz]; omega) _ hseq
  exact (callsIn_wide (n := 5)).1 cS
theorem keys_enc (L : List (Int × Nat)) : intKeys (DM L) = L.map (·.1) := by
  unfold DM intKeys
  simp only [List.map_map]
  rfl
theorem sort_keys {L : List (Int × Nat)} (hr : Rise L) {ss : List Int} (hp : ss.Perm (intKeys (DM L))) : ss.mergeSort (fun x y => decide (x ≤ y)) = L.map (·.1) := by
  have hp2 : (ss.mergeSort (fun x y => decide (x ≤ y))).Perm (L.map (·.1)) := (List.mergeSort_perm ss _).trans (by rw [← keys_enc]; exact hp)
  have h1 := List.pairwise_mergeSort (le := fun x y : Int => decide (x ≤ y)) (fun a b c h1 h2 => by simp at *; omega) (fun a b => by simp; omega) ss
  have h2 : (L.map (·.1)).Pairwise (fun a b => decide (a ≤ b) = true) := by
    refine List.pairwise_map.2 ?_
    exact List.Pairwise.imp (fun h => by simp; omega) hr
  exact List.Perm.eq_of_pairwise (le := fun a b => decide (a ≤ b) = true) (fun a b _ _ h1 h2 => by simp at *; omega) h1 h2 hp2
/-- The keys of the volumes' map, rising. -/
theorem sortedV_any {w : World} {b B : Nat} {L : List (Int × Nat)} (h : IMap Tryz.prog 3 w b L) (hr : Rise L) (hB : B < w.heap.size) (hc : w.cell? ⟨B, 0, none⟩ = some (.map (some b))) (hL : L.length ≤ 1000000) :
    Calls Tryz.prog 80 #[.func (.func 110) #[] #[bp B]] w fun e w' => ∃ v, e = .returned v ∧ w'.ownsRow w.heap.size 3 1 v L.length (L.map fun x => .int .i64 x.1) ∧ Same w w' := by
  refine (sortedV_raw h hB hc hL).mono ?_
  rintro e w' ⟨v, ss, rfl, hp, hrow, -, hb⟩
  have hs := sort_keys hr hp
  have hl : ss.length = L.length := by
    have := hp.length_eq
    rw [keys_enc] at this
    simpa using this
  rw [hs, hl, List.map_map] at hrow
  exact ⟨v, rfl, hrow, Same.of_below hb⟩
/-- The keys of a volume's map, somehow. -/
theorem collectC_any {w : World} {b B : Nat} {L : List (Int × Nat)} (h : IMap Tryz.prog 3 w b L) (hB : B < w.heap.size) (hc : w.cell? ⟨B, 0, none⟩ = some (.map (some b))) (hL : L.length ≤ 1000000) :
    Calls Tryz.prog 108 #[.func (.func 138) #[] #[bp B]] w fun e w' => ∃ (v : Value) (ss : List Int), e = .returned v ∧ ss.Perm (L.map (·.1)) ∧ w'.ownsRow w.heap.size 3 1 v ss.length (ss.map fun x => .int .i64 x) ∧ Same w w' := by
  refine (collectC_raw h hB hc hL).mono ?_
  rintro e w' ⟨v, ss, rfl, hp, hrow, -, hb⟩
  exact ⟨v, ss, rfl, by rw [← keys_enc]; exact hp, hrow, Same.of_below hb⟩
theorem owns_slice {w : World} {base size n : Nat} {e : TypeId} {v : Value} {xs : List Value} (h : w.ownsRow base e size v n xs) : ∃ a c, v = .slice a n c := by
  rcases h.2 with ⟨rfl, rfl⟩ | ⟨g, cap, cur, rfl, _⟩
  · exact ⟨_, _, rfl⟩
  · exact ⟨_, _, rfl⟩
theorem own_base {w : World} {B B' size n : Nat} {e : TypeId} {v : Value} {xs : List Value} (h : w.ownsRow B e size v n xs) (hb : B' ≤ B) : w.ownsRow B' e size v n xs := by
  obtain ⟨hl, h0 | ⟨g, cap, cur, hv, hg, r⟩⟩ := h
  · exact ⟨hl, .inl h0⟩
  · exact ⟨hl, .inr ⟨g, cap, cur, hv, Nat.le_trans hb hg, r⟩⟩
theorem find_self' {x : Vo} : ∀ {l : List Vo}, (l.Pairwise fun a b => a.id < b.id) → x ∈ l → l.find? (fun v => decide (v.id = x.id)) = some x
  | [], _, h => by cases h
  | y :: r, nd, h => by
    obtain ⟨h1, h2⟩ := List.pairwise_cons.1 nd
    rw [List.find?_cons]
    rcases List.mem_cons.1 h with rfl | h
    · simp
    · have := h1 x h
      have hne : ¬ y.id = x.id := by omega
      simp only [hne, decide_false]
      exact find_self' h2 h
theorem find_self {S : MS} {x : Vo} (nd : S.vols.Pairwise fun a b => a.id < b.id) (h : x ∈ S.vols) : findV S x.id = some x := find_self' nd h
theorem info102 : (Tryz.prog.info? 102).map (fun i => (i.zero, i.size, i.bytes)) = some (some (.pointer none), 1, 8) := by kernel_rfl
theorem one_ptr (b : Nat) : ∀ u ∈ [bp b], u.oneCell' = true := fun u hu => by simp at hu; subst hu; rfl
section
variable {K : Nat → Prop} {w : World} {m : Nat} {S : MS} {ow : Nat → Int} {v v' : Vo}
set_option maxHeartbeats 4000000 in
/-- All volumes, rising. -/
theorem sorted_any (h : Mem Tryz.prog K w m S ow) (W : Wf S) (hl : S.vols.length ≤ 16) (hI : ∀ v ∈ S.vols, I64 v.id) :
    Calls Tryz.prog 37 #[bp m] w fun e w' => ∃ v, e = .returned v ∧ w'.ownsRow w.heap.size 102 1 v S.vols.length (S.vols.map fun v => bp v.b) ∧ Same w w' := by
  refine opq fun R HR => ?_
  obtain ⟨vm, hb, hm, hv⟩ := h.parts
  have k1 := hb.at_ (i := 1) (.map (some vm)) rfl
  obtain ⟨n, hn⟩ : ∃ n, S.vols.length = n := ⟨_, rfl⟩
  have hvl : (volsL S.vols).length = n := by unfold volsL; rw [List.length_map, hn]
  rw [hn] at hl HR
  have HN := Lib.hid hn
  have HND := Lib.hid W.nd
  have HI := Lib.hid hI
  have HMp := Lib.hid hm
  have hml := hb.lt
  obtain ⟨i0, hi, hz0, hz1, hz2⟩ := info_parts info102
  have I0 := Lib.hid hi
  have Z0 := Lib.hid hz0
  have Z1 := Lib.hid hz1
  have Z2 := Lib.hid hz2
  have J0 := Lib.hid (show Same w (w.alloc (.cells #[.map (some vm)] 109)) from (Mod.refl _ _).alloc _)
  have hBl : w.heap.size < (w.alloc (.cells #[.map (some vm)] 109)).heap.size := (Blk.new w #[.map (some vm)] 109).lt
  have HSo := Lib.hid (sortedV_any (HMp.out.mod J0.out (fun q => q)) (vols_rise W.nd) hBl ((Blk.new w #[.map (some vm)] 109).at_ (i := 0) (.map (some vm)) rfl) (by rw [hvl]; omega))
  rw [hvl] at HSo
  clear h hb hm hv hn W hI hi hz0 hz1 hz2 hvl
  go_enter Tryz.func37, Tryz.ntmps37
  go_wp2_with fail
  refine (keysV_any _ _).mono ?_
  rintro e w1 ⟨rfl, rfl⟩
  go_wp2_with fail
  refine HSo.out.mono ?_
  rintro e w2 ⟨vi, rfl, hrow, M⟩
  have J2 := Lib.hid (J0.out.same M)
  have RI := Lib.hid hrow
  obtain ⟨ai, ci, rfl⟩ := owns_slice hrow
  clear M hrow HSo
  generalize w.alloc _ = W1 at *
  go_wp2_with fail
  go_loopw [12, 2] (fun vi vo wr => ∃ j : Nat, j ≤ n ∧ vi = .int .i64 (j : Int) ∧ wr.ownsRow w2.heap.size 102 1 vo j ((S.vols.take j).map fun v => bp v.b) ∧ Same w2 wr) (fun vi _ _ => n - (intOf vi).toNat)
  case atStart => exact ⟨0, by omega, rfl, World.ownsRow_nil _ _ _ _, Mod.refl _ _⟩
  case round =>
    obtain ⟨j, hj, rfl, hown, M⟩ := hrel
    have OX := Lib.hid hown
    have J := Lib.hid (J2.out.same M)
    have MX := Lib.hid M
    clear hown M
    by_cases hlt : j < n
    · obtain ⟨g, cap, hvv, hgb, hgc, hrw⟩ := RowV.of_owns RI.out (by omega)
      cases hvv
      obtain ⟨x, hx⟩ : ∃ x, S.vols[j]? = some x := ⟨_, List.getElem?_eq_getElem (by rw [HN.out]; exact hlt)⟩
      have e0 := (MX.out.cell hrw.lt (fun q => q) j).trans (hrw.cell j (by omega))
      rw [show ((volsL S.vols).map fun x => Value.int .i64 x.1).getD j undef = .int .i64 x.id by
        rw [List.getD_eq_getElem?_getD, List.getElem?_map]; unfold volsL; rw [List.getElem?_map, hx]; rfl] at e0
      have hxm := List.mem_of_getElem? hx
      have k1r := (J.out.cell hml (fun q => q) 1).trans k1
      have hlk := look_vol (S := S) (HMp.out.mod J.out (fun q => q)) (HI.out x hxm) 0
      rw [show wr.drewN 0 = wr from rfl, find_self HND.out hxm] at hlk
      dsimp only [ptrO, Option.map] at hlk
      have HT := Lib.hid (show (S.vols.take (j + 1)).map (fun v => bp v.b) = (S.vols.take j).map (fun v => bp v.b) ++ [bp x.b] by rw [List.take_add_one, hx, List.map_append]; rfl)
      clear hx hrw
      obtain ⟨xb, hxb⟩ : ∃ z, x.b = z := ⟨_, rfl⟩
      rw [hxb] at hlk HT
      clear hxb hxm
      go_wp2_with (at_builtin; refine wpList_append_own _ rfl (.tmp 16) (.tmp 23) 100 rfl w2.heap.size 102 i0 (.pointer none) 1 8 Tryz.underlying100 I0.out Z0.out Z1.out Z2.out rfl (by decide) _ _ _ rfl (OX.out.alloc _) ⟨wr.heap.size, 0, none⟩ 1 1 [bp xb] rfl rfl (by have := one_new wr (bp xb) 102; simpa using this) (one_ptr xb) (by unfold maxLen; omega) (by omega) (by have := MX.out.size; simp only [World.size_alloc]; omega) ?_; intro v3 w3 hown' hgrow _; have OW := Lib.hid hown'; have MG := Lib.hid (same_append MX.out OX.out hgrow); clear hown' hgrow)
      go_roundw
      case rel => exact ⟨j + 1, by omega, by first | rfl | go_num, by rw [HT.out]; exact OW.out, MG.out⟩
      case measure => simp [intOf]; omega
    · obtain rfl : n = j := by omega
      have hfin := own_base OX.out J2.out.size
      rw [List.take_of_length_le (by rw [HN.out]; exact Nat.le_refl _)] at hfin
      have HFi := Lib.hid hfin
      clear hfin
      go_wp2_with fail
      go_wp2
      exact HR.out _ _ ⟨_, rfl, HFi.out, J.out⟩
end
end Go.Proofs.YtlcepoagpocadaaGreatDoor
set_option maxRecDepth 100000
/- What is told of the volumes. -/
namespace Go.Proofs.YtlcepoagpocadaaGreatDoor
open Go Go.RowKit
def infoC (v : Vo) : List Value := [.int .i64 v.id, .int .i64 v.size, .int .i64 0, .bool v.pin, .int .i64 v.fr]
theorem row_nil {w : World} {base size n : Nat} {e : TypeId} {v : Value} {xs : List Value} (h : w.ownsRow base e size v n xs) (hv : v = .slice none 0 0) : n = 0 := by
  obtain ⟨_, ⟨h1, h2⟩ | ⟨g, cap, cur, hv', hb, hh, hc, hm, hcs, ht⟩⟩ := h
  · exact h2
  · rw [hv] at hv'; cases hv'
theorem info47 : (Tryz.prog.info? 47).map (fun i => (i.zero, i.size, i.bytes)) = some (some (.agg #[.int .i64 0, .int .i64 0, .int .i64 0, .bool false, .int .i64 0]), 5, 40) := by kernel_rfl
theorem info_new (w : World) (v : Vo) (t : TypeId) : ∀ j u, (infoC v)[j]? = some u → (w.alloc (.cells #[.int .i64 v.id, .int .i64 v.size, .int .i64 0, .bool v.pin, .int .i64 v.fr] t)).cell? (Addr.add ⟨w.heap.size, 0, none⟩ j) = some u := by
  intro j u hu
  have hadd : (⟨w.heap.size, 0, none⟩ : Addr).add j = ⟨w.heap.size, j, none⟩ := by unfold Addr.add; split <;> simp_all
  rw [hadd]
  refine ((Blk.new w _ t).cell j).trans ?_
  match j, hu with
  | 0, hu => exact hu
  | 1, hu => exact hu
  | 2, hu => exact hu
  | 3, hu => exact hu
  | 4, hu => exact hu
theorem info_cells (v : Vo) : ∀ u ∈ infoC v, u.oneCell' = true := fun u hu => by
  unfold infoC at hu
  simp at hu
  rcases hu with rfl | rfl | rfl | rfl | rfl <;> rfl
section
variable {K : Nat → Prop} {w : World} {m : Nat} {S : MS} {ow : Nat → Int} {v v' : Vo}
set_option maxHeartbeats 4000000 in
/-- All volumes, as they are told. -/
theorem volumes_any (h : Mem Tryz.prog K w m S ow) (W : Wf S) (hl : S.vols.length ≤ 16) (hI : ∀ v ∈ S.vols, I64 v.id) :
    Calls Tryz.prog 23 #[bp m] w fun e w' => ∃ v, e = .returned v ∧ w'.ownsRow w.heap.size 47 5 v S.vols.length (S.vols.flatMap infoC) ∧ (v = .slice none 0 0 ↔ S.vols = []) ∧ Same w w' := by
  refine opq fun R HR => ?_
  have HM := Lib.hid h
  have HSo := Lib.hid (sorted_any h W hl hI)
  obtain ⟨n, hn⟩ : ∃ n, S.vols.length = n := ⟨_, rfl⟩
  rw [hn] at hl HR HSo
  have HN := Lib.hid hn
  obtain ⟨i0, hi, hz0, hz1, hz2⟩ := info_parts info47
  have I0 := Lib.hid hi
  have Z0 := Lib.hid hz0
  have Z1 := Lib.hid hz1
  have Z2 := Lib.hid hz2
  clear h W hn hi hz0 hz1 hz2 hI
  go_enter Tryz.func23, Tryz.ntmps23
  go_wp2_with fail
  refine HSo.out.mono ?_
  rintro e w2 ⟨vi, rfl, hrow, M⟩
  have J2 := Lib.hid M
  have RI := Lib.hid hrow
  obtain ⟨ai, ci, rfl⟩ := owns_slice hrow
  clear M hrow HSo
  go_wp2_with fail
  go_loopw [10, 2] (fun vi vo wr => ∃ j : Nat, j ≤ n ∧ vi = .int .i64 (j : Int) ∧ wr.ownsRow w2.heap.size 47 5 vo j ((S.vols.take j).flatMap infoC) ∧ (vo = .slice none 0 0 ↔ j = 0) ∧ Same w2 wr) (fun vi _ _ => n - (intOf vi).toNat)
  case atStart => exact ⟨0, by omega, rfl, World.ownsRow_nil _ _ _ _, by simp, Mod.refl _ _⟩
  case round =>
    obtain ⟨j, hj, rfl, hown, hnil, M⟩ := hrel
    have OX := Lib.hid hown
    have HNi := Lib.hid hnil
    have J := Lib.hid (J2.out.same M)
    have MX := Lib.hid M
    clear hown M hnil
    by_cases hlt : j < n
    · obtain ⟨g, cap, hvv, hgb, hgc, hrw⟩ := RowV.of_owns RI.out (by omega)
      cases hvv
      obtain ⟨x, hx⟩ : ∃ x, S.vols[j]? = some x := ⟨_, List.getElem?_eq_getElem (by rw [HN.out]; exact hlt)⟩
      have e0 := (MX.out.cell hrw.lt (fun q => q) j).trans (hrw.cell j (by omega))
      rw [show ((S.vols.map fun v => bp v.b)).getD j undef = bp x.b by
        rw [List.getD_eq_getElem?_getD, List.getElem?_map, hx]; rfl] at e0
      have hxm := List.mem_of_getElem? hx
      obtain ⟨vm, -, -, hv⟩ := (HM.out.same J.out).parts
      have hb := (hv x hxm).1
      have c0 := hb.at_ (i := 0) (.int .i64 x.id) rfl
      have c1 := hb.at_ (i := 1) (.int .i64 x.size) rfl
      have c2 := hb.at_ (i := 2) (.int .i64 0) rfl
      have c3 := hb.at_ (i := 3) (.bool x.pin) rfl
      have c4 := hb.at_ (i := 4) (.int .i64 x.fr) rfl
      have HT := Lib.hid (show (S.vols.take (j + 1)).flatMap infoC = (S.vols.take j).flatMap infoC ++ infoC x by rw [List.take_add_one, hx, List.flatMap_append]; simp)
      clear hx hrw hv hb hxm
      go_wp2_with (at_builtin; refine wpList_append_own _ rfl (.tmp 14) (.tmp 19) 29 rfl w2.heap.size 47 i0 (.agg #[.int .i64 0, .int .i64 0, .int .i64 0, .bool false, .int .i64 0]) 5 40 Tryz.underlying29 I0.out Z0.out Z1.out Z2.out rfl (by decide) _ _ _ rfl (OX.out.alloc _) ⟨wr.heap.size, 0, none⟩ 1 1 (infoC x) rfl rfl (info_new wr x 47) (info_cells x) (by unfold maxLen; omega) (by omega) (by have := MX.out.size; simp only [World.size_alloc]; omega) ?_; intro v3 w3 hown' hgrow _; have OW := Lib.hid hown'; have MG := Lib.hid (same_append MX.out OX.out hgrow); clear hown' hgrow)
      go_roundw
      case rel => exact ⟨j + 1, by omega, by first | rfl | go_num, by rw [HT.out]; exact OW.out, ⟨fun e => absurd (row_nil OW.out e) (by omega), fun e => by omega⟩, MG.out⟩
      case measure => simp [intOf]; omega
    · obtain rfl : n = j := by omega
      have hfin := own_base OX.out J2.out.size
      rw [List.take_of_length_le (by rw [HN.out]; exact Nat.le_refl _)] at hfin
      have HFi := Lib.hid hfin
      clear hfin
      go_wp2_with fail
      go_wp2
      exact HR.out _ _ ⟨_, rfl, HFi.out, ⟨fun e => List.length_eq_zero_iff.1 (by rw [HN.out]; exact HNi.out.1 e), fun e => HNi.out.2 (by rw [← HN.out, e]; rfl)⟩, J.out⟩
end
end Go.Proofs.YtlcepoagpocadaaGreatDoor
set_option maxRecDepth 100000
/- Sectors are read. -/
namespace Go.Proofs.YtlcepoagpocadaaGreatDoor
open Go Go.RowKit
theorem bytes_size (l : List UInt8) : (⟨l.toArray⟩ : ByteArray).size = l.length := List.size_toArray
theorem heap_new (w : World) (o : Obj) : (w.alloc o).heap[w.heap.size]? = some o := (MapKept.heap_alloc w o).1
theorem new105 (w : World) : Lib.IsBuilderF 105 5 w.heap.size w.heap.size (Lib.byteCells []) (w.alloc (.cells #[.pointer none, .slice none 0 0] 105)) :=
  .of (.inl ⟨Nat.le_refl _, .slice none 0 0, heap_new _ _, World.ownsRow_nil _ _ _ _, by simp [Value.ownBlock]⟩)
theorem same_grown {w w' : World} (M : Same w w') : w.grownBy w' none := ⟨M.os, M.tape, M.output, M.size, fun i hi _ => M.block i hi (fun q => q)⟩
theorem builderAt_same {T e : TypeId} {B b : Nat} {p : Value} {bs : List Value} {w w' : World} (h : Lib.BuilderAtF T e B b p bs w) (M : Same w w') : Lib.BuilderAtF T e B b p bs w' := by
  have hlt := h.lt
  obtain ⟨hB, v, hb, hown, hne⟩ := h
  exact ⟨hB, v, (M.block b hlt (fun q => q)).trans hb, hown.kept (same_grown M) (by cases hv : v.ownBlock <;> simp), hne⟩
theorem builder_same {T e : TypeId} {B b : Nat} {bs : List Value} {w w' : World} (h : Lib.IsBuilderF T e B b bs w) (M : Same w w') : Lib.IsBuilderF T e B b bs w' :=
  h.elim (fun h => .inl (builderAt_same h M)) (fun h => .inr (builderAt_same h M))
theorem secS_16 {S : MS} (G : Good S) {v : Vo} (hv : v ∈ S.vols) (x : Nat) : (secS S v x).length = 16 := by
  unfold secS
  cases hg : getL ((x / S.k : Nat) : Int) v.pl with
  | none => rfl
  | some d =>
    dsimp only
    have hs := G.secs v hv _ (getL_mem hg)
    have hk := G.k1
    dsimp only at hs
    rw [List.getD_eq_getElem?_getD, List.getElem?_eq_getElem (by rw [hs.1]; exact Nat.mod_lt _ (by omega))]
    exact hs.2 _ (List.getElem_mem _)
theorem readS_succ (S : MS) (v : Vo) (x i : Nat) : readS S v x (i + 1) = readS S v x i ++ secS S v (x + i) := by
  unfold readS
  rw [List.range_succ, List.flatMap_append]; simp
theorem readS_len {S : MS} (G : Good S) {v : Vo} (hv : v ∈ S.vols) (x i : Nat) : (readS S v x i).length = 16 * i := by
  induction i with
  | zero => rfl
  | succ i ih => rw [readS_succ, List.length_append, ih, secS_16 G hv]; omega
section
variable {K : Nat → Prop} {w : World} {m : Nat} {S : MS} {ow : Nat → Int} {v v' : Vo}
/-- What Read tells. -/
def readA (S : MS) (id x n : Int) : List UInt8 := match findV S id with
  | some v => if rangeS S id x n = 0 then readS S v x.toNat n.toNat else []
  | none => []
set_option maxHeartbeats 4000000 in
theorem read_any (h : Mem Tryz.prog K w m S ow) (G : Good S) (W : Wf S) (id x n : Int) (hid : I64 id) (hx : I64 x) (hn : I64 n) :
    Calls Tryz.prog 57 #[bp m, .agg #[.int .i64 id, .int .i64 x, .int .i64 n]] w fun e w' => e = .returned (.agg #[.int .i64 (rangeS S id x n), .string ⟨(readA S id x n).toArray⟩, .slice none 0 0]) ∧ Same w w' := by
  refine opq fun R HR => ?_
  have HM := Lib.hid h
  have HG := Lib.hid G
  obtain ⟨W2, hW2⟩ : ∃ z, (w.alloc (.cells #[.int .i64 id, .int .i64 x, .int .i64 n] 94)).alloc (.cells #[.int .i64 0, .string ⟨#[]⟩, .slice none 0 0] 31) = z := ⟨_, rfl⟩
  have J2 := Lib.hid (show Same w W2 by rw [← hW2]; exact ((Mod.refl _ _).alloc _).alloc _)
  have B1 : Blk W2 w.heap.size #[.int .i64 id, .int .i64 x, .int .i64 n] := by rw [← hW2]; exact (Blk.new w _ 94).alloc _
  have BA : Blk W2 (w.heap.size + 1) #[.int .i64 0, .string ⟨#[]⟩, .slice none 0 0] := by
    have := Blk.new (w.alloc (.cells #[.int .i64 id, .int .i64 x, .int .i64 n] 94)) #[.int .i64 0, .string ⟨#[]⟩, .slice none 0 0] 31
    rw [hW2, World.size_alloc] at this
    exact this
  have b0 := B1.at_ (i := 0) (.int .i64 id) rfl
  have b1 := B1.at_ (i := 1) (.int .i64 x) rfl
  have b2 := B1.at_ (i := 2) (.int .i64 n) rfl
  have HB1 := Lib.hid B1
  have HBA := Lib.hid BA
  have HWi := Lib.hid (within_any (HM.out.same J2.out) ⟨G.k1, G.k8⟩ (fun v hv => G.sizes v hv) id x n hid hx hn)
  clear B1 BA h G W hid
  go_enter Tryz.func57, Tryz.ntmps57
  go_wp2_with fail
  refine HWi.out.mono ?_
  rintro e w3 ⟨rfl, M⟩
  have J3 := Lib.hid (J2.out.same M)
  have BA3 := Lib.hid (HBA.out.mod M (fun q => q))
  have BB3 := Lib.hid (HB1.out.mod M (fun q => q))
  have hA3 : w.heap.size + 1 < w3.heap.size := BA3.out.lt
  clear M HWi b0 b1 b2 HBA HB1 J2 hW2
  have fA := fun i => BA3.out.free i
  have a0 := BA3.out.at_ (i := 0) (.int .i64 0) rfl
  have a1 := BA3.out.at_ (i := 1) (.string ⟨#[]⟩) rfl
  have a2 := BA3.out.at_ (i := 2) (.slice none 0 0) rfl
  by_cases hr : rangeS S id x n = 0
  · obtain ⟨v, hf, h1, h2, h3, h4⟩ := range_zero hr
    have hvm := (findV_mem hf).1
    have hsz := HG.out.sizes v hvm
    have hk8 := HG.out.k8
    have hk1 := HG.out.k1
    have hzk : v.size * S.k ≤ 64 * 8 := Int.mul_le_mul hsz.2 (by omega) (by omega) (by omega)
    have hrd : readA S id x n = readS S v x.toNat n.toNat := by unfold readA; rw [hf]; dsimp only; rw [if_pos hr]
    obtain ⟨xx, rfl⟩ : ∃ xx : Nat, x = (xx : Int) := ⟨x.toNat, by omega⟩
    obtain ⟨nn, rfl⟩ : ∃ nn : Nat, n = (nn : Int) := ⟨n.toNat, by omega⟩
    rw [hrd, hr] at HR
    rw [hr, if_pos rfl, hf]
    simp only [Int.toNat_natCast] at HR
    dsimp only [ptrO, Option.map]
    have c1 := BB3.out.at_ (i := 1) (.int .i64 (xx : Int)) rfl
    have c2 := BB3.out.at_ (i := 2) (.int .i64 (nn : Int)) rfl
    have hxn : xx + nn ≤ 512 := by omega
    clear hf hr hrd hx hn h1 h2 h3 h4 a0 a1 a2 fA
    have HVM := Lib.hid hvm
    clear hvm
    have NB := Lib.hid (new105 w3)
    have JB := Lib.hid (show Same w3 (w3.alloc (.cells #[.pointer none, .slice none 0 0] 105)) from (Mod.refl _ _).alloc _)
    have c2b := (JB.out.cell (by omega) (fun q => q) 2).trans c2
    go_wp2_with fail
    generalize w3.alloc _ = W4 at *
    go_loopw [26] (fun vi wr => ∃ i : Nat, i ≤ nn ∧ vi = .int .i64 (i : Int) ∧ Lib.IsBuilderF 105 5 w3.heap.size w3.heap.size (Lib.byteCells (readS S v xx i)) wr ∧ Same w3 wr) (fun vi _ => nn - (intOf vi).toNat)
    case atStart => exact ⟨0, by omega, rfl, by simpa [readS] using NB.out, JB.out⟩
    case round =>
      obtain ⟨i, hi, rfl, hbu, M⟩ := hrel
      have J := Lib.hid M
      have KB := Lib.hid hbu
      have d1 := (M.cell (by omega) (fun q => q) 1).trans c1
      have d2 := (M.cell (by omega) (fun q => q) 2).trans c2
      clear M hbu
      by_cases hlt : i < nn
      · have hw1 : IntKind.i64.wrap ((xx : Int) + (i : Int)) = ((xx + i : Nat) : Int) := by rw [IntWalk.i64_in _ (by omega)]; simp
        have HSe := Lib.hid (sector_any (HM.out.same (J3.out.same J.out)) HVM.out (xx + i) (by omega) ⟨hk1, hk8⟩ (fun c hc => (HG.out.secs v HVM.out _ (getL_mem hc)).1))
        have hlen := readS_len HG.out HVM.out xx i
        have h16 := secS_16 HG.out HVM.out (xx + i)
        have HSn := Lib.hid (readS_succ S v xx i)
        unfold strV at HSe
        generalize readS S v xx i = acc at *
        go_wp2_with fail
        refine HSe.out.mono ?_
        rintro e w5 ⟨rfl, M⟩
        have J5 := Lib.hid (J.out.same M)
        have KB5 := Lib.hid (builder_same KB.out M)
        clear M
        go_wp2_with fail
        refine (Tryz.Builder_WriteString_k w3.heap.size w3.heap.size (Lib.byteCells acc) ⟨(secS S v (xx + i)).toArray⟩ w5 KB5.out (by rw [Lib.byteCells_length, bytes_size]; omega) J5.out.size).mono ?_
        rintro e w6 ⟨rfl, hb4, hbl, _⟩
        rw [Lib.strCells_toArray, ← Lib.byteCells_append] at hb4
        have P1 := Lib.hid (Same.of_below ((Same.below J5.out).trans hbl))
        have P2 := Lib.hid hb4
        clear hb4 hbl
        go_wp2_with fail
        go_roundw
        case rel => exact ⟨i + 1, by omega, by go_num, by rw [HSn.out]; exact .inr P2.out, P1.out⟩
        case measure => simp [intOf]; omega
      · obtain rfl : nn = i := by omega
        go_wp2_with fail
        refine (Tryz.Builder_String_any_k w3.heap.size w3.heap.size _ wr KB.out J.out.size).mono ?_
        rintro e w6 ⟨rfl, _, hbl, _⟩
        have P1 := Lib.hid (Same.of_below ((Same.below J.out).trans hbl))
        clear hbl
        have BA6 := Lib.hid (BA3.out.mod P1.out (fun q => q))
        have fA := fun i => BA6.out.free i
        have a0 := BA6.out.at_ (i := 0) (.int .i64 0) rfl
        have a1 := BA6.out.at_ (i := 1) (.string ⟨#[]⟩) rfl
        have a2 := BA6.out.at_ (i := 2) (.slice none 0 0) rfl
        go_wp2
        have BF := ((BA6.out.set 0 (.int .i64 0)).set 1 (.string ⟨(readS S v xx nn).toArray⟩)).set 2 (.slice none 0 0)
        have g0 := BF.at_ (i := 0) (.int .i64 0) rfl
        have g1 := BF.at_ (i := 1) (.string ⟨(readS S v xx nn).toArray⟩) rfl
        have g2 := BF.at_ (i := 2) (.slice none 0 0) rfl
        have MF := Lib.hid ((((J3.out.same P1.out).setCell (p := ⟨w.heap.size + 1, 0, none⟩) (fun q => by simp at q; omega) (.int .i64 0)).setCell (p := ⟨w.heap.size + 1, 1, none⟩) (fun q => by simp at q; omega) (.string ⟨(readS S v xx nn).toArray⟩)).setCell (p := ⟨w.heap.size + 1, 2, none⟩) (fun q => by simp at q; omega) (.slice none 0 0))
        clear BF
        generalize ((w6.setCell ⟨w.heap.size + 1, 0, none⟩ (.int .i64 0)).setCell ⟨w.heap.size + 1, 1, none⟩ (.string ⟨(readS S v xx nn).toArray⟩)).setCell ⟨w.heap.size + 1, 2, none⟩ (.slice none 0 0) = wf at *
        exact bodyPost_ret (v := .agg #[.int .i64 0, .string ⟨(readS S v xx nn).toArray⟩, .slice none 0 0]) (by simp [results, Tryz.results57, go_sem, g0, g1, g2]) rfl (HR.out _ _ ⟨rfl, MF.out⟩)
  · have hrd : readA S id x n = [] := by
      unfold readA
      cases hf : findV S id with
      | none => rfl
      | some v => dsimp only; rw [if_neg hr]
    rw [hrd] at HR
    rw [if_neg hr]
    obtain ⟨r, hrr⟩ : ∃ r, rangeS S id x n = r := ⟨_, rfl⟩
    rw [hrr] at HR hr ⊢
    have hrb : (r != 0) = true := by simp [hr]
    clear hrd hrr hx hn
    dsimp only [ptrO, Option.map]
    go_wp2
    have BF := ((BA3.out.set 0 (.int .i64 r)).set 1 (.string ⟨#[]⟩)).set 2 (.slice none 0 0)
    have g0 := BF.at_ (i := 0) (.int .i64 r) rfl
    have g1 := BF.at_ (i := 1) (.string ⟨#[]⟩) rfl
    have g2 := BF.at_ (i := 2) (.slice none 0 0) rfl
    have MF := Lib.hid (((J3.out.setCell (p := ⟨w.heap.size + 1, 0, none⟩) (fun q => by simp at q; omega) (.int .i64 r)).setCell (p := ⟨w.heap.size + 1, 1, none⟩) (fun q => by simp at q; omega) (.string ⟨#[]⟩)).setCell (p := ⟨w.heap.size + 1, 2, none⟩) (fun q => by simp at q; omega) (.slice none 0 0))
    clear BF
    generalize ((w3.setCell ⟨w.heap.size + 1, 0, none⟩ (.int .i64 r)).setCell ⟨w.heap.size + 1, 1, none⟩ (.string ⟨#[]⟩)).setCell ⟨w.heap.size + 1, 2, none⟩ (.slice none 0 0) = wf at *
    exact bodyPost_ret (v := .agg #[.int .i64 r, .string ⟨#[]⟩, .slice none 0 0]) (by simp [results, Tryz.results57, go_sem, g0, g1, g2]) rfl (HR.out _ _ ⟨rfl, MF.out⟩)
end
end Go.Proofs.YtlcepoagpocadaaGreatDoor
set_option maxRecDepth 100000
/- A write's volume; whether a range has all of a place. -/
namespace Go.Proofs.YtlcepoagpocadaaGreatDoor
open Go Go.RowKit
section
variable {K : Nat → Prop} {w : World} {m : Nat} {S : MS} {ow : Nat → Int} {v v' : Vo}
theorem whole_any (h : Mem Tryz.prog K w m S ow) (hk : 1 ≤ S.k ∧ S.k ≤ 8) (x n p : Nat) (hx : x ≤ 1000000) (hn : n ≤ 1000000) (hp : p ≤ 1000000) :
    Calls Tryz.prog 48 #[bp m, .int .i64 (x : Int), .int .i64 (n : Int), .int .i64 (p : Int)] w fun e w' => e = .returned (.bool (wholeS S.k x n p)) ∧ w' = w := by
  refine opq fun R HR => ?_
  obtain ⟨vm, hb, -, -⟩ := h.parts
  have k0 := hb.at_ (i := 0) (.int .i64 (S.k : Int)) rfl
  obtain ⟨k, hkk⟩ : ∃ k, S.k = k := ⟨_, rfl⟩
  rw [hkk] at hk k0 HR
  clear h hb hkk
  have h1 : p * k ≤ 1000000 * 8 := Nat.mul_le_mul hp hk.2
  have h2 : (p + 1) * k ≤ 1000001 * 8 := Nat.mul_le_mul (by omega) hk.2
  have hw1 : IntKind.i64.wrap ((p : Int) * (k : Int)) = ((p * k : Nat) : Int) := by
    rw [show (p : Int) * (k : Int) = ((p * k : Nat) : Int) by simp]; exact IntWalk.i64_in _ (by omega)
  have hw2 : IntKind.i64.wrap (((p : Int) + 1) * (k : Int)) = (((p + 1) * k : Nat) : Int) := by
    rw [show ((p : Int) + 1) * (k : Int) = (((p + 1) * k : Nat) : Int) by simp]; exact IntWalk.i64_in _ (by omega)
  have hw3 : IntKind.i64.wrap ((x : Int) + (n : Int)) = ((x + n : Nat) : Int) := by
    rw [show (x : Int) + (n : Int) = ((x + n : Nat) : Int) by simp]; exact IntWalk.i64_in _ (by omega)
  have hw4 : IntKind.i64.wrap ((p : Int) + 1) = ((p + 1 : Nat) : Int) := by
    rw [show (p : Int) + 1 = ((p + 1 : Nat) : Int) by simp]; exact IntWalk.i64_in _ (by omega)
  unfold wholeS at HR
  generalize p * k = a at *
  generalize (p + 1) * k = b at *
  by_cases q1 : x ≤ a
  · have d1 : decide (x ≤ a) = true := decide_eq_true q1
    have d1' : decide ((x : Int) ≤ (a : Int)) = true := decide_eq_true (by omega)
    by_cases q2 : b ≤ x + n
    · have d2 : decide (b ≤ x + n) = true := decide_eq_true q2
      have d2' : decide ((x + n : Nat) ≥ (b : Int)) = true := decide_eq_true (by omega)
      have d2'' : decide ((b : Int) ≤ ((x + n : Nat) : Int)) = true := decide_eq_true (by omega)
      rw [d1, d2] at HR
      go_enter Tryz.func48, Tryz.ntmps48
      go_wp2
      exact HR.out _ _ ⟨by first | rfl | (simp; done) | (simp; omega), rfl⟩
    · have d2 : decide (b ≤ x + n) = false := decide_eq_false q2
      have d2'' : decide ((b : Int) ≤ ((x + n : Nat) : Int)) = false := decide_eq_false (by omega)
      rw [d1, d2] at HR
      go_enter Tryz.func48, Tryz.ntmps48
      go_wp2
      exact HR.out _ _ ⟨by first | rfl | (simp; done) | (simp; omega), rfl⟩
  · have d1 : decide (x ≤ a) = false := decide_eq_false q1
    have d1' : decide ((x : Int) ≤ (a : Int)) = false := decide_eq_false (by omega)
    rw [d1, Bool.false_and] at HR
    go_enter Tryz.func48, Tryz.ntmps48
    go_wp2
    exact HR.out _ _ ⟨by first | rfl | (simp; done) | (simp; omega), rfl⟩
set_option maxHeartbeats 4000000 in
theorem target_any (h : Mem Tryz.prog K w m S ow) (hk : 1 ≤ S.k ∧ S.k ≤ 8) (hz : ∀ v ∈ S.vols, 0 ≤ v.size ∧ v.size ≤ 64) (id x : Int) (t : List UInt8) (hid : I64 id) (hx : I64 x) (ht : t.length ≤ 1000000) :
    Calls Tryz.prog 43 #[bp m, .agg #[.int .i64 id, .int .i64 x, .string ⟨t.toArray⟩]] w fun e w' => e = .returned (.tuple #[ptrO (if writeE S id x t = 0 then (findV S id).map Vo.b else none), .int .i64 (writeE S id x t)]) ∧ Same w w' := by
  refine opq fun R HR => ?_
  have HM := Lib.hid h
  obtain ⟨vm, hb, hm, -⟩ := h.parts
  obtain ⟨W1, hW1⟩ : ∃ z, (w.alloc (.cells #[.int .i64 id, .int .i64 x, .string ⟨t.toArray⟩] 38)) = z := ⟨_, rfl⟩
  have J1 := Lib.hid (show Same w W1 by rw [← hW1]; exact (Mod.refl _ _).alloc _)
  have B1 : Blk W1 w.heap.size #[.int .i64 id, .int .i64 x, .string ⟨t.toArray⟩] := by rw [← hW1]; exact Blk.new w _ 38
  have b0 := B1.at_ (i := 0) (.int .i64 id) rfl
  have b1 := B1.at_ (i := 1) (.int .i64 x) rfl
  have b2 := B1.at_ (i := 2) (.string ⟨t.toArray⟩) rfl
  have k1 := (J1.out.cell hb.lt (fun q => q) 1).trans (hb.at_ (i := 1) (.map (some vm)) rfl)
  have hlk := fun n => look_vol (S := S) (hm.mod J1.out (fun q => q)) hid n
  have hts : (⟨t.toArray⟩ : ByteArray).size = t.length := bytes_size t
  have HWi := Lib.hid (fun w' (M : Same W1 w') (n : Int) (hn : I64 n) => within_any (HM.out.same (J1.out.same M)) hk hz id x n hid hx hn)
  have hdq : ((t.length : Int)).tdiv 16 = ((t.length / 16 : Nat) : Int) := by rw [Int.tdiv_eq_ediv_of_nonneg (by omega)]; rfl
  have hdw : IntKind.i64.wrap ((t.length / 16 : Nat) : Int) = ((t.length / 16 : Nat) : Int) := IntWalk.i64_in _ (by omega)
  have hrq : ((t.length : Int)).tmod 16 = ((t.length % 16 : Nat) : Int) := by rw [Int.tmod_eq_emod_of_nonneg (by omega)]; rfl
  have hrw : IntKind.i64.wrap ((t.length % 16 : Nat) : Int) = ((t.length % 16 : Nat) : Int) := IntWalk.i64_in _ (by omega)
  have hln : I64 ((t.length / 16 : Nat) : Int) := I64.of (by omega)
  have HB1 := Lib.hid B1
  clear h hb hm hk hz hx B1
  cases hf : findV S id with
  | none =>
    have HE := Lib.hid (show writeE S id x t = 7 by unfold writeE; rw [hf])
    have HRa := Lib.hid (range_none (x := x) (n := ((t.length / 16 : Nat) : Int)) hf)
    rw [HE.out, if_neg (by decide)] at HR
    rw [hf] at hlk
    dsimp only [ptrO, Option.map] at hlk HR
    clear hf
    go_enter Tryz.func43, Tryz.ntmps43
    go_wp2_with fail
    go_big_quiet (fail)
    go_wp2_with fail
    refine (HWi.out _ ((Mod.refl (fun _ => False) W1).drewN nq) _ hln).mono ?_
    rintro e w2 ⟨rfl, M⟩
    have J2 := Lib.hid ((J1.out.drewN nq).same M)
    rw [HRa.out, if_neg (by decide)]
    dsimp only [ptrO, Option.map]
    clear M
    go_wp2
    exact HR.out _ _ ⟨rfl, J2.out⟩
  | some v =>
    rw [hf] at hlk
    dsimp only [ptrO, Option.map] at hlk
    by_cases q : t.length % 16 = 0
    · have HE := Lib.hid (show writeE S id x t = rangeS S id x ((t.length / 16 : Nat) : Int) by unfold writeE; rw [hf]; dsimp only; rw [if_neg (by omega)])
      rw [HE.out] at HR
      have hz0 : ((t.length % 16 : Nat) : Int) = 0 := by omega
      rw [hz0] at hrq hrw
      clear hf
      go_enter Tryz.func43, Tryz.ntmps43
      go_wp2_with fail
      go_big_quiet (fail)
      go_wp2_with fail
      refine (HWi.out _ ((Mod.refl (fun _ => False) W1).drewN nq) _ hln).mono ?_
      rintro e w2 ⟨rfl, M⟩
      have J2 := Lib.hid ((J1.out.drewN nq).same M)
      clear M
      generalize rangeS S id x ((t.length / 16 : Nat) : Int) = r at *
      generalize (if r = 0 then Option.map Vo.b (findV S id) else none) = o at *
      go_wp2
      exact HR.out _ _ ⟨rfl, J2.out⟩
    · have HE := Lib.hid (show writeE S id x t = 1 by unfold writeE; rw [hf]; dsimp only; rw [if_pos q])
      rw [HE.out, if_neg (by decide)] at HR
      have hne : (((t.length % 16 : Nat) : Int) != 0) = true := by simp; omega
      dsimp only [ptrO, Option.map] at HR
      clear hf
      go_enter Tryz.func43, Tryz.ntmps43
      go_wp2_with fail
      go_big_quiet (fail)
      go_wp2
      exact HR.out _ _ ⟨rfl, J1.out.drewN _⟩
end
end Go.Proofs.YtlcepoagpocadaaGreatDoor
