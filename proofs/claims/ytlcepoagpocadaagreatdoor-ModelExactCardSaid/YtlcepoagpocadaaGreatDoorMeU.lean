import Derived.Test.YtlcepoagpocadaaGreatDoorMeO
import Derived.Test.YtlcepoagpocadaaGreatDoorShelfC2
set_option linter.unusedSimpArgs false
set_option linter.unusedVariables false
set_option maxRecDepth 100000
/- A volume that is as another one is. -/
namespace Go.Proofs.YtlcepoagpocadaaGreatDoor
open Go Go.RowKit
theorem clone_any {w : World} {b : Nat} {L : List (Int × Nat)} (h : IMap Tryz.prog 3 w b L) :
    Calls Tryz.prog 89 #[.map (some b)] w fun e w' => e = .returned (.map (some w.heap.size)) ∧ IMap Tryz.prog 3 w' w.heap.size L ∧ w.heap.size < w'.heap.size ∧ Same w w' := by
  refine (AnyW.maps_Clone_owns Tryz.cloneC 3 ptrR b L.length (DM L) w h).mono ?_
  rintro e w' ⟨h1, h2, -, h4⟩
  exact ⟨h1, h2, World.ownsMap.lt h2, Same.of_below h4⟩
section
variable {K : Nat → Prop} {w w' : World} {m : Nat} {S : MS} {v v' : Vo} {ow : Nat → Int}
/-- A chunk's count is another one. -/
theorem Mem.put_owner (h : Mem Tryz.prog K w m S ow) (hv : v ∈ S.vols) {x : Int × Nat} (hx : x ∈ v.pl) : w.cell? ⟨x.2, 1, none⟩ = some (.int .i64 (ow x.2)) ∧ w.frozen? ⟨x.2, 1, none⟩ = false ∧ ¬ K x.2 ∧ x.2 < w.heap.size ∧
    ∀ n, Mem Tryz.prog K (w.setCell ⟨x.2, 1, none⟩ (.int .i64 n)) m S (upd ow x.2 n) := by
  obtain ⟨H, vm, hH, hK, hlt, A⟩ := h
  obtain ⟨g, cap, h1, h2⟩ := A.hc v hv x hx
  have hbc : Blk w x.2 #[.slice (some ⟨g, 0, none⟩) S.k cap, .int .i64 (ow x.2)] := by have := hH x.2; rw [h1] at this; exact this
  have hKc : ¬ K x.2 := hK x.2 (by rw [h1]; simp)
  refine ⟨hbc.at_ (i := 1) _ rfl, hbc.free 1, hKc, hbc.lt, fun n => ?_⟩
  have M1 : Mod (fun j => j = x.2) w (w.setCell ⟨x.2, 1, none⟩ (.int .i64 n)) := (Mod.refl (fun j => j = x.2) w).setCell (p := ⟨x.2, 1, none⟩) (fun _ => rfl) _
  refine ⟨_, vm, hH.turn (b := x.2) (o := .cl 2 #[.slice (some ⟨g, 0, none⟩) S.k cap, .int .i64 n]) M1 (hbc.set 1 _), fun b hb => ?_, fun j hj => Nat.lt_of_lt_of_le (hlt j hj) M1.size, A.owner h1 rfl⟩
  by_cases q : b = x.2
  · rw [q]; exact hKc
  · rw [upd_ne _ _ q] at hb; exact hK b hb
theorem ptrO_inv (v : Value) (y : DataW Unit × List MemPlace) (h : ptrR v = some y) : ∃ c : Option Nat, v = ptrO c := by
  rcases ptrR_inv h with ⟨rfl, _⟩ | ⟨c, rfl, _⟩
  · exact ⟨none, rfl⟩
  · exact ⟨some c, rfl⟩
/-- What a step of the range over a map brings. -/
theorem step_get {L : List (Int × Nat)} {x : Int} {c : Option Nat} {y : DataW Unit × List MemPlace} (h1 : ptrR (ptrO c) = some y) (h2 : ∀ zd, (DM L).atKey (.int .i64 x) zd = y.1) : ∃ d, c = some d ∧ getL x L = some d := by
  cases hg : getL x L with
  | none =>
    have e1 := h2 .nil
    have e2 := h2 (.lit (.bool true))
    rw [at_enc, hg] at e1 e2
    rw [← e1] at e2
    cases e2
  | some d =>
    have e1 := h2 .nil
    rw [at_enc, hg] at e1
    cases c with
    | none =>
      simp [ptrO, ptrR] at h1
      rw [← h1] at e1
      cases e1
    | some d' =>
      have h3 : ptrR (ptrO (some d')) = some (.lit (.int .i64 (d' : Int)), []) := rfl
      rw [h3] at h1
      injection h1 with h1
      rw [← h1] at e1
      simp at e1
      have e2 : d = d' := by omega
      exact ⟨d', rfl, by rw [e2]⟩
theorem left_del (L : List (Int × Nat)) (left : Lit → Bool) (x : Int) : L.filter (fun y => (left (.int .i64 y.1) && !(Lit.int .i64 y.1).sameKey (.int .i64 x))) = delL x (L.filter fun y => left (.int .i64 y.1)) := by
  unfold delL
  rw [List.filter_filter]
  apply List.filter_congr
  intro y _
  rw [same_i]
  exact Bool.and_comm _ _
theorem left_get {L : List (Int × Nat)} (hr : Rise L) {left : Lit → Bool} {x : Int} {d : Nat} (hg : getL x L = some d) (hl : left (.int .i64 x) = true) : getL x (L.filter fun y => left (.int .i64 y.1)) = some d := by
  have hr2 : Rise (L.filter fun y => left (.int .i64 y.1)) := List.Pairwise.filter _ hr
  have := hr2.get (x := (x, d)) (List.mem_filter.2 ⟨getL_mem hg, hl⟩)
  exact this
/-- The counts on the way. -/
def owL (ow : Nat → Int) (L rem : List (Int × Nat)) (c : Nat) : Int := ow c + cntL c L - cntL c rem
theorem owL_step {ow : Nat → Int} {L rem : List (Int × Nat)} (hr : Rise rem) {x : Int} {d : Nat} (hg : getL x rem = some d) : owL ow L (delL x rem) = upd (owL ow L rem) d (owL ow L rem d + 1) := by
  funext e
  have h := cntL_del (p := x) e hr
  rw [hg] at h
  by_cases q : e = d
  · subst q
    rw [if_pos rfl] at h
    rw [upd_same]
    unfold owL
    omega
  · rw [if_neg (fun r => q (Option.some.inj r).symm)] at h
    rw [upd_ne _ _ q]
    unfold owL
    omega
theorem grown_set (w : World) (g o : Nat) (v : Value) : w.grownBy (w.setCell ⟨g, o, none⟩ v) (some g) := by
  have M : Mod (fun i => i = g) w (w.setCell ⟨g, o, none⟩ v) := (Mod.refl (fun i => i = g) w).setCell (p := ⟨g, o, none⟩) (fun _ => rfl) v
  exact ⟨M.os, M.tape, M.output, M.size, fun i hi hs => M.block i hi (fun e => hs (by rw [e]))⟩
theorem snapS_no {fr tgt : Int} (hf : findV S fr = none) (b pb : Nat) : snapS S fr tgt b pb = (7, S) := by unfold snapS; rw [hf]
theorem snapS_arg {fr tgt : Int} (hf : findV S fr = some v) (q : tgt < 1 ∨ 16 < tgt) (b pb : Nat) : snapS S fr tgt b pb = (1, S) := by unfold snapS; rw [hf]; dsimp only; rw [if_pos q]
theorem snapS_dup {fr tgt : Int} {u : Vo} (hf : findV S fr = some v) (q : ¬ (tgt < 1 ∨ 16 < tgt)) (h2 : findV S tgt = some u) (b pb : Nat) : snapS S fr tgt b pb = (8, S) := by unfold snapS; rw [hf]; dsimp only; rw [if_neg q, h2]
theorem snapS_new {fr tgt : Int} (hf : findV S fr = some v) (q : ¬ (tgt < 1 ∨ 16 < tgt)) (h2 : findV S tgt = none) (b pb : Nat) : snapS S fr tgt b pb = (0, { S with vols := insV ⟨b, pb, tgt, v.size, fr, false, v.pl⟩ S.vols }) := by unfold snapS; rw [hf]; dsimp only; rw [if_neg q, h2]
set_option maxHeartbeats 8000000 in
theorem snap_any (h : Md Tryz.prog K w m S) (G : Good S) (W : Wf S) (fr tgt : Int) (hfr : I64 fr) (hto : I64 tgt) :
    Calls Tryz.prog 54 #[bp m, .agg #[.int .i64 fr, .int .i64 tgt]] w fun e w' => ∃ b pb, e = .returned (.int .i64 (snapS S fr tgt b pb).1) ∧ Md Tryz.prog K w' m (snapS S fr tgt b pb).2 ∧ Mod (fun i => ¬ K i) w w' := by
  refine opq fun R HR => ?_
  have HM := Lib.hid h
  have HG := Lib.hid G
  have HW := Lib.hid W
  obtain ⟨W1, hW1⟩ : ∃ z, (w.alloc (.cells #[.int .i64 fr, .int .i64 tgt] 81)) = z := ⟨_, rfl⟩
  have J1 := Lib.hid (show Same w W1 by rw [← hW1]; exact (Mod.refl _ _).alloc _)
  have B1 : Blk W1 w.heap.size #[.int .i64 fr, .int .i64 tgt] := by rw [← hW1]; exact Blk.new w _ 81
  have b0 := B1.at_ (i := 0) (.int .i64 fr) rfl
  have b1 := B1.at_ (i := 1) (.int .i64 tgt) rfl
  have HM1 := Lib.hid (HM.out.more J1.out)
  obtain ⟨vm, k1, hml, -, hlk⟩ := HM1.out.look hfr
  have HB1 := Lib.hid B1
  have hBl := B1.lt
  have HTo := Lib.hid hto
  clear h B1 hfr G W hto
  cases hf : findV S fr with
  | none =>
    have HE := Lib.hid (snapS_no (tgt := tgt) hf 0 0)
    rw [hf] at hlk
    dsimp only [ptrO, Option.map] at hlk
    clear hf
    go_enter Tryz.func54, Tryz.ntmps54
    go_wp2_with fail
    go_big_quiet (fail)
    go_wp2_with fail
    go_wp2
    exact HR.out _ _ ⟨0, 0, by simp [HE.out], by rw [HE.out]; exact HM.out.same (J1.out.drewN _), (J1.out.drewN _).mono (fun _ _ q => q.elim)⟩
  | some v =>
    rw [hf] at hlk
    dsimp only [ptrO, Option.map] at hlk
    have HF := Lib.hid hf
    have HV := Lib.hid (findV_mem hf).1
    clear hf
    by_cases q1 : tgt < 1
    · have d1 : decide (tgt < 1) = true := decide_eq_true q1
      have HE := Lib.hid (snapS_arg (tgt := tgt) HF.out (.inl q1) 0 0)
      go_enter Tryz.func54, Tryz.ntmps54
      go_wp2_with fail
      go_big_quiet (fail)
      go_wp2_with fail
      go_wp2
      exact HR.out _ _ ⟨0, 0, by simp [HE.out], by rw [HE.out]; exact HM.out.same (J1.out.drewN _), (J1.out.drewN _).mono (fun _ _ q => q.elim)⟩
    · have d1 : decide (tgt < 1) = false := decide_eq_false q1
      by_cases q2 : 16 < tgt
      · have d2 : decide (16 < tgt) = true := decide_eq_true q2
        have d2' : decide (tgt > 16) = true := d2
        have HE := Lib.hid (snapS_arg (tgt := tgt) HF.out (.inr q2) 0 0)
        go_enter Tryz.func54, Tryz.ntmps54
        go_wp2_with fail
        go_big_quiet (fail)
        go_wp2_with fail
        go_wp2
        exact HR.out _ _ ⟨0, 0, by simp [HE.out], by rw [HE.out]; exact HM.out.same (J1.out.drewN _), (J1.out.drewN _).mono (fun _ _ q => q.elim)⟩
      · have d2 : decide (16 < tgt) = false := decide_eq_false q2
        have d2' : decide (tgt > 16) = false := d2
        have q0 : ¬ (tgt < 1 ∨ 16 < tgt) := fun r => r.elim q1 q2
        obtain ⟨vm2, k1b, -, -, hlk2⟩ := HM1.out.look HTo.out
        rw [k1] at k1b
        injection k1b with k1b
        injection k1b with k1b
        injection k1b with k1b
        subst k1b
        cases hf2 : findV S tgt with
        | some u =>
          have HE := Lib.hid (snapS_dup HF.out q0 hf2 0 0)
          rw [hf2] at hlk2
          dsimp only [ptrO, Option.map] at hlk2
          clear hf2
          go_enter Tryz.func54, Tryz.ntmps54
          go_wp2_with fail
          go_big_quiet (fail)
          go_wp2_with fail
          go_big_quiet (fail)
          go_wp2_with fail
          go_wp2
          exact HR.out _ _ ⟨0, 0, by simp [HE.out], by rw [HE.out]; exact HM.out.same ((J1.out.drewN _).drewN _), ((J1.out.drewN _).drewN _).mono (fun _ _ q => q.elim)⟩
        | none =>
          have HE := Lib.hid (snapS_new HF.out q0 hf2)
          have HF2 := Lib.hid hf2
          rw [hf2] at hlk2
          dsimp only [ptrO, Option.map] at hlk2
          clear hf2
          go_enter Tryz.func54, Tryz.ntmps54
          go_wp2_with fail
          go_big_quiet (fail)
          go_wp2_with fail
          go_big_quiet (fail)
          go_wp2_with fail
          clear hlk hlk2
          generalize hW : World.drewN _ nq = W
          have SW := Lib.hid (show Same W1 W by rw [← hW]; exact ((Mod.refl _ _).drewN _).drewN _)
          clear hW
          have JW := Lib.hid (J1.out.same SW.out)
          obtain ⟨vm', kk1, -, hvb⟩ := (HM.out.same JW.out).parts
          have hb := (hvb v HV.out).1
          have v1W := hb.at_ (i := 1) (.int .i64 v.size) rfl
          have v5W := hb.at_ (i := 5) (.map (some v.pb)) rfl
          have hvW := hb.lt
          have HIv := Lib.hid (hvb v HV.out).2
          have b0W := (SW.out.cell hBl (fun q => q) 0).trans b0
          have b1W := (SW.out.cell hBl (fun q => q) 1).trans b1
          have hBW : w.heap.size < W.heap.size := Nat.lt_of_lt_of_le hBl SW.out.size
          have k1W := (SW.out.cell hml (fun q => q) 1).trans k1
          have hmW : m < W.heap.size := Nat.lt_of_lt_of_le hml SW.out.size
          have HCl := Lib.hid (show ∀ w', Same W w' → w'.heap.size = W.heap.size → Calls Tryz.prog 89 #[.map (some v.pb)] w' fun e w'' => e = .returned (.map (some W.heap.size)) ∧ IMap Tryz.prog 3 w'' W.heap.size v.pl ∧ W.heap.size < w''.heap.size ∧ Same w' w'' from fun w' M e => by
            have := clone_any (HIv.out.mod M (fun q => q))
            rw [e] at this
            exact this)
          clear hvb hb kk1 b0 b1 k1
          refine wp_region_held_drew (S := fun w' => Same W w') (by kernel_rfl) (by (try dsimp only); exact (Mod.refl _ _).drew) (fun hHeld => ?_)
          refine wpAnyH_take (i := 0) (v := ?_) rfl (by kernel_rfl) (by kernel_rfl) (by kernel_rfl) (fun _ _ _ h => h) (Or.inl ⟨by rfl, ?_⟩) (by assumption) ?_
          rotate_left
          · intro w hSw
            try dsimp only at hSw
            go_simp
            try with_reducible rfl
          try simp only [List.getElem_toArray, List.getElem_cons_succ, List.getElem_cons_zero, Act.put, List.setIfInBounds_toArray, List.set_cons_zero, List.set_cons_succ]
          refine wpAnyH_take (i := 2) (v := ?_) rfl (by kernel_rfl) (by kernel_rfl) (by kernel_rfl) (fun _ _ _ h => h) (Or.inl ⟨by rfl, ?_⟩) (by assumption) ?_
          rotate_left
          · intro w hSw
            try dsimp only at hSw
            go_simp
            try with_reducible rfl
          try simp only [List.getElem_toArray, List.getElem_cons_succ, List.getElem_cons_zero, Act.put, List.setIfInBounds_toArray, List.set_cons_zero, List.set_cons_succ]
          refine wpAnyH_take (i := 3) (v := ?_) rfl (by kernel_rfl) (by kernel_rfl) (by kernel_rfl) (fun _ _ _ h => h) (Or.inl ⟨by rfl, ?_⟩) (by assumption) ?_
          rotate_left
          · intro w hSw
            try dsimp only at hSw
            go_simp
            try with_reducible rfl
          try simp only [List.getElem_toArray, List.getElem_cons_succ, List.getElem_cons_zero, Act.put, List.setIfInBounds_toArray, List.set_cons_zero, List.set_cons_succ]
          refine wpAnyH_take (i := 4) (v := ?_) rfl (by kernel_rfl) (by kernel_rfl) (by kernel_rfl) (fun _ _ _ h => h) (Or.inl ⟨by rfl, ?_⟩) (by assumption) ?_
          rotate_left
          · intro w hSw
            try dsimp only at hSw
            go_simp
            try with_reducible rfl
          try simp only [List.getElem_toArray, List.getElem_cons_succ, List.getElem_cons_zero, Act.put, List.setIfInBounds_toArray, List.set_cons_zero, List.set_cons_succ]
          refine wpAnyH_take (i := 5) (v := ?_) rfl (by kernel_rfl) (by kernel_rfl) (by kernel_rfl) (fun _ _ _ h => h) (Or.inl ⟨by rfl, ?_⟩) (by assumption) ?_
          rotate_left
          · intro w hSw
            try dsimp only at hSw
            go_simp
            try with_reducible rfl
          try simp only [List.getElem_toArray, List.getElem_cons_succ, List.getElem_cons_zero, Act.put, List.setIfInBounds_toArray, List.set_cons_zero, List.set_cons_succ]
          refine wpAnyH_take (i := 7) (v := ?_) rfl (by kernel_rfl) (by kernel_rfl) (by kernel_rfl) (fun _ _ _ h => h) (Or.inl ⟨by rfl, ?_⟩) (by assumption) ?_
          rotate_left
          · intro w hSw
            try dsimp only at hSw
            go_simp
            try with_reducible rfl
          try simp only [List.getElem_toArray, List.getElem_cons_succ, List.getElem_cons_zero, Act.put, List.setIfInBounds_toArray, List.set_cons_zero, List.set_cons_succ]
          refine wpAnyH_take (i := 10) (v := ?_) rfl (by kernel_rfl) (by kernel_rfl) (by kernel_rfl) (fun _ _ _ h => h) (Or.inl ⟨by rfl, ?_⟩) (by assumption) ?_
          rotate_left
          · intro w hSw
            try dsimp only at hSw
            go_simp
            try with_reducible rfl
          try simp only [List.getElem_toArray, List.getElem_cons_succ, List.getElem_cons_zero, Act.put, List.setIfInBounds_toArray, List.set_cons_zero, List.set_cons_succ]
          refine wpAnyH_take (i := 11) (v := ?_) rfl (by kernel_rfl) (by kernel_rfl) (by kernel_rfl) (fun _ _ _ h => h) (Or.inl ⟨by rfl, ?_⟩) (by assumption) ?_
          rotate_left
          · intro w hSw
            try dsimp only at hSw
            go_simp
            try with_reducible rfl
          try simp only [List.getElem_toArray, List.getElem_cons_succ, List.getElem_cons_zero, Act.put, List.setIfInBounds_toArray, List.set_cons_zero, List.set_cons_succ]
          refine wpAnyH_take (i := 12) (v := ?_) rfl (by kernel_rfl) (by kernel_rfl) (by kernel_rfl) (fun _ _ _ h => h) (Or.inl ⟨by rfl, ?_⟩) (by assumption) ?_
          rotate_left
          · intro w hSw
            try dsimp only at hSw
            go_simp
            try with_reducible rfl
          try simp only [List.getElem_toArray, List.getElem_cons_succ, List.getElem_cons_zero, Act.put, List.setIfInBounds_toArray, List.set_cons_zero, List.set_cons_succ]
          refine wpAnyH_take (i := 1) (v := ?_) rfl (by kernel_rfl) (by kernel_rfl) (by kernel_rfl) (fun _ _ _ h => h) (Or.inl ⟨by rfl, ?_⟩) (by assumption) ?_
          rotate_left
          · intro w hSw
            try dsimp only at hSw
            have g1 := (hSw.cell hBW (fun q => q) 1).trans b1W
            go_simp
            try with_reducible rfl
          try simp only [List.getElem_toArray, List.getElem_cons_succ, List.getElem_cons_zero, Act.put, List.setIfInBounds_toArray, List.set_cons_zero, List.set_cons_succ]
          refine wpAnyH_take (i := 6) (v := ?_) rfl (by kernel_rfl) (by kernel_rfl) (by kernel_rfl) (fun _ _ _ h => h) (Or.inl ⟨by rfl, ?_⟩) (by assumption) ?_
          rotate_left
          · intro w hSw
            try dsimp only at hSw
            have g1 := (hSw.cell hvW (fun q => q) 1).trans v1W
            go_simp
            try with_reducible rfl
          try simp only [List.getElem_toArray, List.getElem_cons_succ, List.getElem_cons_zero, Act.put, List.setIfInBounds_toArray, List.set_cons_zero, List.set_cons_succ]
          refine wpAnyH_take (i := 8) (v := ?_) rfl (by kernel_rfl) (by kernel_rfl) (by kernel_rfl) (fun _ _ _ h => h) (Or.inl ⟨by rfl, ?_⟩) (by assumption) ?_
          rotate_left
          · intro w hSw
            try dsimp only at hSw
            have g1 := (hSw.cell hBW (fun q => q) 0).trans b0W
            go_simp
            try with_reducible rfl
          try simp only [List.getElem_toArray, List.getElem_cons_succ, List.getElem_cons_zero, Act.put, List.setIfInBounds_toArray, List.set_cons_zero, List.set_cons_succ]
          refine wpAnyH_take (i := 9) (v := ?_) rfl (by kernel_rfl) (by kernel_rfl) (by kernel_rfl) (fun _ _ _ h => h) (Or.inl ⟨by rfl, ?_⟩) (by assumption) ?_
          rotate_left
          · intro w hSw
            try dsimp only at hSw
            go_simp
            try with_reducible rfl
          try simp only [List.getElem_toArray, List.getElem_cons_succ, List.getElem_cons_zero, Act.put, List.setIfInBounds_toArray, List.set_cons_zero, List.set_cons_succ]
          refine wpAnyH_take (i := 13) (v := ?_) rfl (by kernel_rfl) (by kernel_rfl) (by kernel_rfl) (fun _ _ _ h => h) (Or.inl ⟨by rfl, ?_⟩) (by assumption) ?_
          rotate_left
          · intro w hSw
            try dsimp only at hSw
            have g1 := (hSw.cell hvW (fun q => q) 5).trans v5W
            go_simp
            try with_reducible rfl
          try simp only [List.getElem_toArray, List.getElem_cons_succ, List.getElem_cons_zero, Act.put, List.setIfInBounds_toArray, List.set_cons_zero, List.set_cons_succ]
          refine wpAnyH_ready (rs := [14]) (by kernel_rfl) (by simp) ?_
          refine AllReadyH.cons rfl (fun Kc hKc => ?_) AllReadyH.nil
          go_simp
          refine (HCl.out _ (Mod.refl _ _).drew rfl).mono ?_
          rintro e wq ⟨rfl, hIq, hlq, M⟩
          have HIq := Lib.hid hIq
          have MQ := Lib.hid (show Same W wq from ((Mod.refl _ _).drew).same M)
          clear hIq M
          go_wp2_with fail
          refine hKc.out _ _ (by (try dsimp only); exact MQ.out) (fun hHeld => ?_)
          clear hKc Kc
          try simp only [List.getElem_toArray, List.getElem_cons_succ, List.getElem_cons_zero, Act.put, List.setIfInBounds_toArray, List.set_cons_zero, List.set_cons_succ]
          refine wpAnyH_take (i := 15) (v := ?_) rfl (by kernel_rfl) (by kernel_rfl) (by kernel_rfl) (fun _ _ _ h => h) (Or.inl ⟨by rfl, ?_⟩) (by assumption) ?_
          rotate_left
          · intro w hSw
            try dsimp only at hSw
            go_simp
            try with_reducible rfl
          try simp only [List.getElem_toArray, List.getElem_cons_succ, List.getElem_cons_zero, Act.put, List.setIfInBounds_toArray, List.set_cons_zero, List.set_cons_succ]
          refine wpAnyH_ready (rs := [16]) (by kernel_rfl) (by simp) ?_
          refine AllReadyH.cons rfl (fun Kc hKc => ?_) AllReadyH.nil
          go_simp
          refine hKc.out _ _ (by (try dsimp only); exact MQ.out.alloc _) (fun hHeld => ?_)
          clear hKc Kc
          try simp only [List.getElem_toArray, List.getElem_cons_succ, List.getElem_cons_zero, Act.put, List.setIfInBounds_toArray, List.set_cons_zero, List.set_cons_succ]
          refine wpAnyH_take (i := 17) (v := ?_) rfl (by kernel_rfl) (by kernel_rfl) (by kernel_rfl) (fun _ _ _ h => h) (Or.inl ⟨by rfl, ?_⟩) (by assumption) ?_
          rotate_left
          · intro w hSw
            try dsimp only at hSw
            go_simp
            try with_reducible rfl
          try simp only [List.getElem_toArray, List.getElem_cons_succ, List.getElem_cons_zero, Act.put, List.setIfInBounds_toArray, List.set_cons_zero, List.set_cons_succ]
          refine wpAnyH_done (by kernel_rfl) ?_ _
          clear hHeld
          obtain ⟨nb, hnb⟩ : ∃ z, wq.heap.size = z := ⟨_, rfl⟩
          obtain ⟨q, hq⟩ : ∃ z, W.heap.size = z := ⟨_, rfl⟩
          obtain ⟨X, hX⟩ : ∃ z, (wq.alloc (.cells #[.int .i64 tgt, .int .i64 v.size, .int .i64 0, .bool false, .int .i64 fr, .map (some W.heap.size)] 108)) = z := ⟨_, rfl⟩
          have BX := Lib.hid (show Blk X nb (volC ⟨nb, q, tgt, v.size, fr, false, v.pl⟩) from by
            have := Blk.new wq #[.int .i64 tgt, .int .i64 v.size, .int .i64 0, .bool false, .int .i64 fr, .map (some W.heap.size)] 108
            rw [hX, hnb, hq] at this
            exact this)
          have SX := Lib.hid (show Same wq X by rw [← hX]; exact (Mod.refl _ _).alloc _)
          have hIX := HIq.out.mod SX.out (fun q => q)
          rw [hq] at hIX hlq
          have HIX := Lib.hid hIX
          have JX := Lib.hid ((JW.out.same MQ.out).same SX.out)
          have hqw : w.heap.size < q := by rw [← hq]; exact hBW
          have hqn : q < nb := by rw [← hnb]; exact hlq
          have hnX : nb < X.heap.size := BX.out.lt
          have HV0 := Lib.hid (show ∀ o, X.cell? ⟨w.heap.size, o, none⟩ = W.cell? ⟨w.heap.size, o, none⟩ from fun o => (SX.out.cell (Nat.lt_of_lt_of_le hBW MQ.out.size) (fun q => q) o).trans (MQ.out.cell hBW (fun q => q) o))
          have b1X := (HV0.out 1).trans b1W
          have k1X := (SX.out.cell (Nat.lt_of_lt_of_le hmW MQ.out.size) (fun q => q) 1).trans ((MQ.out.cell hmW (fun q => q) 1).trans k1W)
          have hmX : m < X.heap.size := Nat.lt_of_lt_of_le (Nat.lt_of_lt_of_le hmW MQ.out.size) SX.out.size
          have hBX : w.heap.size < X.heap.size := by omega
          rw [hX, hq, hnb]
          obtain ⟨ow, hMw, hcn⟩ := HM.out
          have HMw := Lib.hid hMw
          have HCn := Lib.hid hcn
          have n5 := BX.out.at_ (i := 5) (.map (some q)) rfl
          clear hX hq hnb hIX hlq b0W b1W k1W v1W v5W hvW hMw hcn HIq HCl
          go_wp2_with (first | (at_range; refine wpList_range_own _ rfl (.tmp 57) 106 rfl 3 123 law3 Tryz.underlying106 ptrR q v.pl.length (DM v.pl) rfl HIX.out ?_; intro w0 hrg0 hg0 hs0) | fail)
          go_frame
          have hD0 : Mod (fun _ => False) X w0 := (Mod.refl _ _).grown hg0 (fun k hk => by cases hk)
          have J0 := Lib.hid (JX.out.same hD0)
          obtain ⟨r, hr⟩ : ∃ z, X.heap.size = z := ⟨_, rfl⟩
          have M0 := Lib.hid (HMw.out.more J0.out)
          have hrise := HG.out.rise v HV.out
          have BX0 := Lib.hid (BX.out.mod hD0 (fun q => q))
          have b1z := (hD0.cell hBX (fun q => q) 1).trans b1X
          have k1z := (hD0.cell hmX (fun q => q) 1).trans k1X
          have hr0 : r < w0.heap.size := by omega
          have hB0 : w.heap.size < w0.heap.size := by omega
          have hn0 : nb < w0.heap.size := by omega
          rw [hr] at hrg0 ⊢
          have RG0 := Lib.hid hrg0
          have HRi := Lib.hid hrise
          clear hrg0 hg0 hs0 hD0 BX b1X k1X n5 HIX
          go_loopw [8] (fun _ wr => ∃ (left : Lit → Bool) (cnt' : Nat), wr.ranges Tryz.prog 3 ptrR q r v.pl.length (DM v.pl) left cnt' ∧ Mem Tryz.prog (fun i => K i ∨ (w.heap.size ≤ i ∧ i < w0.heap.size)) wr m S (owL ow v.pl (v.pl.filter fun y => left (.int .i64 y.1))) ∧ Mod (fun i => ¬ (K i ∨ (w.heap.size ≤ i ∧ i < w0.heap.size)) ∨ i = r) w0 wr) (fun _ wr => wr.rangeLeft q r)
          case atStart =>
            refine ⟨_, _, RG0.out, ?_, Mod.refl _ _⟩
            have e : (v.pl.filter fun y => Maps.has (DM v.pl) (.int .i64 y.1)) = v.pl := by
              rw [List.filter_eq_self]
              intro y hy
              rw [has_enc, HRi.out.get hy]; rfl
            rw [e]
            have e2 : owL ow v.pl v.pl = ow := by funext c; unfold owL; omega
            rw [e2]
            exact M0.out
          case round =>
            obtain ⟨left, cn, hrg, hmem, hM⟩ := hrel
            have RG := Lib.hid hrg
            have HMe := Lib.hid hmem
            have JM := Lib.hid hM
            clear hrg hmem hM
            go_wp2_with (first
              | (at_next; refine wpList_next_ranges _ rfl (.tmp 58) rfl 3 law3 ptrR (Value.int .i64) ptrO (fun key kl hk => by obtain ⟨x, rfl, _⟩ := Maps.keyOf_int_inv Tryz.underlying3 hk; exact ⟨x, rfl⟩) ptrO_inv q r v.pl.length (DM v.pl) left cn rfl RG.out ?_ ?_)
              | fail)
            · intro _ hl0
              obtain ⟨vm2, hb2, hi2, -⟩ := HMe.out.parts
              have k1r := hb2.at_ (i := 1) (.map (some vm2)) rfl
              have hm2v : m ≠ vm2 ∧ ¬ (K vm2 ∨ (w.heap.size ≤ vm2 ∧ vm2 < w0.heap.size)) := by
                obtain ⟨H, vm', hH, hK, hlt, A⟩ := HMe.out
                have e := vm_eq k1r H vm' hH A
                subst e
                exact ⟨ne_H (H := H) (by rw [A.hm, A.hv]; simp), hK vm' (by rw [A.hv]; simp)⟩
              have b1r := (JM.out.cell hB0 (fun h => h.elim (fun h => h (.inr ⟨Nat.le_refl _, hB0⟩)) (fun e => by omega)) 1).trans b1z
              have hvl16 : (volsL S.vols).length < 1000000 := by
                have := vols_len HG.out HW.out
                unfold volsL
                rw [List.length_map]; omega
              have hi2d : IMap Tryz.prog 3 wr.drew vm2 (volsL S.vols) := hi2.mod ((Mod.refl (fun _ => False) _).drew) (fun q => q)
              obtain ⟨w4, hrun, hi4, hg4⟩ := hi2d.put Tryz.underlying3 Tryz.underlying109 hvl16 tgt HTo.out nb
              have MG : Mod (fun i => i = vm2) wr w4 := ((Mod.refl (fun i => i = vm2) wr).drew).grown hg4 (fun k hk _ => (Option.some.inj hk).symm)
              have hmr : m < wr.heap.size := hb2.lt
              have k1f := (MG.cell hmr hm2v.1 1).trans k1r
              have b1f := (MG.cell (cell_lt b1r) (fun e => hm2v.2 (.inr ⟨by omega, by omega⟩)) 1).trans b1r
              have hfl : (v.pl.filter fun y => left (.int .i64 y.1)) = [] := by
                rw [List.filter_eq_nil_iff]
                intro y _
                rw [hl0]; simp
              have hme2 := HMe.out
              rw [hfl] at hme2
              have hnbr : Blk wr.drew nb (volC ⟨nb, q, tgt, v.size, fr, false, v.pl⟩) := (BX0.out.mod JM.out (fun h => h.elim (fun h => h (.inr ⟨by omega, hn0⟩)) (fun e => by omega))).drew
              have hqi : IMap Tryz.prog 3 wr.drew q v.pl := IMap.mod (show IMap Tryz.prog 3 wr q v.pl from RG.out.owns) ((Mod.refl (fun _ => False) _).drew) (fun q => q)
              have hKl : ∀ i, K i → i < w.heap.size := by obtain ⟨H, vm', hH, hK, hlt, A⟩ := HMw.out; exact hlt
              have hfin := (hme2.same ((Mod.refl _ _).drew)).add_vol (K' := K) HF2.out hnbr hqi (.inr ⟨by omega, hn0⟩) (.inr ⟨by omega, by omega⟩) (by omega) (fun x hx => ⟨v, HV.out, hx⟩) (fun i q => .inl q) (fun h => by have := hKl _ h; omega) (fun h => by have := hKl _ h; omega) (vm_eq (w := wr.drew) k1r) hi4 hg4
              have HFin := Lib.hid (show Md Tryz.prog K w4 m { S with vols := insV ⟨nb, q, tgt, v.size, fr, false, v.pl⟩ S.vols } from by
                refine ⟨_, hfin, fun c hc => ?_⟩
                have hc : 0 < cnt (insV ⟨nb, q, tgt, v.size, fr, false, v.pl⟩ S.vols) c := hc
                show owL ow v.pl [] c = (cnt (insV ⟨nb, q, tgt, v.size, fr, false, v.pl⟩ S.vols) c : Int)
                rw [cnt_ins] at hc ⊢
                unfold owL
                have e0 : cntL c [] = 0 := rfl
                dsimp only at hc ⊢
                by_cases hz : 0 < cnt S.vols c
                · have := HCn.out c hz; omega
                · exfalso
                  have h2 : 0 < cntL c v.pl := by omega
                  obtain ⟨x, hx, e⟩ := cntL_pos.1 h2
                  exact hz (cnt_pos.2 ⟨v, HV.out, x, hx, e⟩))
              have MFin := Lib.hid (show Mod (fun i => ¬ K i) w w4 from ((J0.out.mono (fun _ _ q => q.elim) : Mod (fun i => ¬ K i) w w0).then_ JM.out (fun i hi h hk => h.elim (fun h => h (.inl hk)) (fun e => by omega))).then_ MG (fun i hi e hk => hm2v.2 (.inl (by rw [← e]; exact hk))))
              clear hb2 hi2 hm2v hvl16 hi2d hi4 hg4 MG hfl hme2 hnbr hqi hKl hfin RG JM HMe RG0 M0 BX0
              go_wp2_with fail
              refine wp_region_held_drew (S := fun w' => w'.cell? ⟨m, 1, none⟩ = some (.map (some vm2)) ∧ w'.cell? ⟨w.heap.size, 1, none⟩ = some (.int .i64 tgt)) (by kernel_rfl) (by (try dsimp only); exact ⟨k1r, b1r⟩) (fun hHeld => ?_)
              refine wpAnyH_take (i := 0) (v := ?_) rfl (by kernel_rfl) (by kernel_rfl) (by kernel_rfl) (fun _ _ _ h => h) (Or.inl ⟨by rfl, ?_⟩) (by assumption) ?_
              rotate_left
              · intro w hSw
                try dsimp only at hSw
                go_simp
                try with_reducible rfl
              try simp only [List.getElem_toArray, List.getElem_cons_succ, List.getElem_cons_zero, Act.put, List.setIfInBounds_toArray, List.set_cons_zero, List.set_cons_succ]
              refine wpAnyH_take (i := 1) (v := ?_) rfl (by kernel_rfl) (by kernel_rfl) (by kernel_rfl) (fun _ _ _ h => h) (Or.inl ⟨by rfl, ?_⟩) (by assumption) ?_
              rotate_left
              · intro w hSw
                try dsimp only at hSw
                go_simp
                try with_reducible rfl
              try simp only [List.getElem_toArray, List.getElem_cons_succ, List.getElem_cons_zero, Act.put, List.setIfInBounds_toArray, List.set_cons_zero, List.set_cons_succ]
              refine wpAnyH_take (i := 2) (v := ?_) rfl (by kernel_rfl) (by kernel_rfl) (by kernel_rfl) (fun _ _ _ h => h) (Or.inl ⟨by rfl, ?_⟩) (by assumption) ?_
              rotate_left
              · intro w hSw
                try dsimp only at hSw
                go_simp
                try with_reducible rfl
              try simp only [List.getElem_toArray, List.getElem_cons_succ, List.getElem_cons_zero, Act.put, List.setIfInBounds_toArray, List.set_cons_zero, List.set_cons_succ]
              refine wpAnyH_take (i := 3) (v := ?_) rfl (by kernel_rfl) (by kernel_rfl) (by kernel_rfl) (fun _ _ _ h => h) (Or.inl ⟨by rfl, ?_⟩) (by assumption) ?_
              rotate_left
              · intro w hSw
                try dsimp only at hSw
                have g1 := hSw.1
                go_simp
                try with_reducible rfl
              try simp only [List.getElem_toArray, List.getElem_cons_succ, List.getElem_cons_zero, Act.put, List.setIfInBounds_toArray, List.set_cons_zero, List.set_cons_succ]
              refine wpAnyH_take (i := 4) (v := ?_) rfl (by kernel_rfl) (by kernel_rfl) (by kernel_rfl) (fun _ _ _ h => h) (Or.inl ⟨by rfl, ?_⟩) (by assumption) ?_
              rotate_left
              · intro w hSw
                try dsimp only at hSw
                go_simp
                try with_reducible rfl
              try simp only [List.getElem_toArray, List.getElem_cons_succ, List.getElem_cons_zero, Act.put, List.setIfInBounds_toArray, List.set_cons_zero, List.set_cons_succ]
              refine wpAnyH_take (i := 5) (v := ?_) rfl (by kernel_rfl) (by kernel_rfl) (by kernel_rfl) (fun _ _ _ h => h) (Or.inl ⟨by rfl, ?_⟩) (by assumption) ?_
              rotate_left
              · intro w hSw
                try dsimp only at hSw
                have g1 := hSw.2
                go_simp
                try with_reducible rfl
              try simp only [List.getElem_toArray, List.getElem_cons_succ, List.getElem_cons_zero, Act.put, List.setIfInBounds_toArray, List.set_cons_zero, List.set_cons_succ]
              refine wpAnyH_take (i := 6) (v := ?_) rfl (by kernel_rfl) (by kernel_rfl) (by kernel_rfl) (fun _ _ _ h => h) (Or.inl ⟨by rfl, ?_⟩) (by assumption) ?_
              rotate_left
              · intro w hSw
                try dsimp only at hSw
                go_simp
                try with_reducible rfl
              try simp only [List.getElem_toArray, List.getElem_cons_succ, List.getElem_cons_zero, Act.put, List.setIfInBounds_toArray, List.set_cons_zero, List.set_cons_succ]
              refine wpAnyH_ready (rs := [7]) (by kernel_rfl) (by simp) ?_
              refine AllReadyH.cons rfl (fun Kc hKc => ?_) AllReadyH.nil
              go_simp
              refine hKc.out _ _ (by (try dsimp only); exact ⟨k1f, b1f⟩) (fun hHeld => ?_)
              clear hKc Kc
              try simp only [List.getElem_toArray, List.getElem_cons_succ, List.getElem_cons_zero, Act.put, List.setIfInBounds_toArray, List.set_cons_zero, List.set_cons_succ]
              refine wpAnyH_done (by kernel_rfl) ?_ _
              go_wp2
              exact HR.out _ _ ⟨nb, q, by simp [HE.out], by rw [HE.out]; exact HFin.out, MFin.out⟩
            · intro x c kl y1 y2 w5 cn2 hkey hlx hR hat hrg1 hlt hg1 hs1 hen
              obtain ⟨x', hx', rfl, hxw⟩ := Maps.keyOf_int_inv Tryz.underlying3 hkey
              injection hx' with _ hx'
              subst hx'
              obtain ⟨d, rfl, hgd⟩ := step_get (y := (y1, y2)) hR (fun zd => hat zd)
              have M5 : Mod (fun i => i = r) wr w5 := (Mod.refl _ _).grown hg1 (fun k hk _ => by cases hk; rfl)
              have HM5 := HMe.out.mod M5 (fun b _ e => by rw [e]; exact .inr ⟨by omega, hr0⟩)
              obtain ⟨f1, ff, hdK, hdl, hput⟩ := HM5.put_owner HV.out (getL_mem hgd)
              dsimp only at f1 ff hdK hdl hput
              have hl2 := left_get HRi.out hgd hlx
              have hrr : Rise (v.pl.filter fun y => left (.int .i64 y.1)) := List.Pairwise.filter _ HRi.out
              have hbd : -10 ≤ owL ow v.pl (v.pl.filter fun y => left (.int .i64 y.1)) d ∧ owL ow v.pl (v.pl.filter fun y => left (.int .i64 y.1)) d ≤ 100000 := by
                have h1 := live_get HV.out hgd
                have h2 := HCn.out d h1
                have h3 := cnt_le HG.out HW.out d
                have h4 := cntL_filter_le d (fun y => left (.int .i64 y.1)) v.pl
                have h5 : cntL d v.pl ≤ cnt S.vols d := by
                  have := cnt_rem d HW.out.nd HV.out
                  omega
                unfold owL
                omega
              have hp2 := hput (owL ow v.pl (v.pl.filter fun y => left (.int .i64 y.1)) d + 1)
              rw [← owL_step hrr hl2, ← left_del] at hp2
              have HP2 := Lib.hid hp2
              have hrg2 := hrg1.kept (grown_set w5 d 1 (.int .i64 (owL ow v.pl (v.pl.filter fun y => left (.int .i64 y.1)) d + 1))) (fun e => hdK (by cases e; exact .inr ⟨by omega, by omega⟩)) (fun e => hdK (by cases e; exact .inr ⟨by omega, hr0⟩))
              have RG2 := Lib.hid hrg2
              have JM2 := Lib.hid ((JM.out.then_ M5 (fun i _ e => .inr e)).setCell (p := ⟨d, 1, none⟩) (fun _ => .inl hdK) (.int .i64 (owL ow v.pl (v.pl.filter fun y => left (.int .i64 y.1)) d + 1)))
              generalize owL ow v.pl (v.pl.filter fun y => left (.int .i64 y.1)) d = od at *
              have hwo : IntKind.i64.wrap (od + 1) = od + 1 := IntWalk.i64_in _ (by omega)
              clear hkey hR hat hrg1 hg1 M5 HM5 hput hl2 hrr hp2 hrg2 hdK hlx hgd JM HMe
              dsimp only [ptrO, Option.map] at hen ⊢
              go_wp2_with fail
              go_roundw
              case rel => exact ⟨_, cn2, RG2.out, HP2.out, JM2.out⟩
              case measure => rw [RG2.out.left_eq, RG.out.left_eq]; exact hlt
end
end Go.Proofs.YtlcepoagpocadaaGreatDoor
set_option maxRecDepth 100000
/- All volumes' sectors. -/
namespace Go.Proofs.YtlcepoagpocadaaGreatDoor
open Go Go.RowKit
section
variable {K : Nat → Prop} {w : World} {m : Nat} {S : MS} {ow : Nat → Int} {v v' : Vo}
set_option maxHeartbeats 8000000 in
theorem dump_any (h : Mem Tryz.prog K w m S ow) (G : Good S) (W : Wf S) :
    Calls Tryz.prog 12 #[bp m] w fun e w' => ∃ v, e = .returned v ∧ w'.ownsRow w.heap.size 9 1 v S.vols.length ((dumpS S).map strV) ∧ (v = .slice none 0 0 ↔ S.vols = []) ∧ Same w w' := by
  refine opq fun R HR => ?_
  have HM := Lib.hid h
  have HG := Lib.hid G
  have hl := vols_len G W
  have HSo := Lib.hid (sorted_any h W hl (fun v hv => I64.of (by have := G.ids v hv; omega)))
  obtain ⟨n, hn⟩ : ∃ n, S.vols.length = n := ⟨_, rfl⟩
  rw [hn] at hl HR HSo
  have HN := Lib.hid hn
  obtain ⟨k, hkk⟩ : ∃ k, S.k = k := ⟨_, rfl⟩
  have HKK := Lib.hid hkk
  have hk1 := G.k1
  have hk8 := G.k8
  rw [hkk] at hk1 hk8
  obtain ⟨i0, hi, hz0, hz1, hz2⟩ := info_parts info9
  have I0 := Lib.hid hi
  have Z0 := Lib.hid hz0
  have Z1 := Lib.hid hz1
  have Z2 := Lib.hid hz2
  clear h W hn hi hz0 hz1 hz2 G hkk
  go_enter Tryz.func12, Tryz.ntmps12
  go_wp2_with fail
  refine HSo.out.mono ?_
  rintro e w2 ⟨vi, rfl, hrow, M⟩
  have J2 := Lib.hid M
  have RI := Lib.hid hrow
  obtain ⟨ai, ci, rfl⟩ := owns_slice hrow
  clear M hrow HSo
  go_wp2_with fail
  go_loopw [12, 2] (fun vi vo wr => ∃ j : Nat, j ≤ n ∧ vi = .int .i64 (j : Int) ∧ wr.ownsRow w2.heap.size 9 1 vo j (((dumpS S).take j).map strV) ∧ (vo = .slice none 0 0 ↔ j = 0) ∧ Same w2 wr) (fun vi _ _ => n - (intOf vi).toNat)
  case atStart => exact ⟨0, by omega, rfl, World.ownsRow_nil _ _ _ _, by simp, Mod.refl _ _⟩
  case round =>
    obtain ⟨j, hj, rfl, hown, hnil, M⟩ := hrel
    have OX := Lib.hid hown
    have HNi := Lib.hid hnil
    have J := Lib.hid (J2.out.same M)
    have MX := Lib.hid M
    clear hown M hnil
    by_cases hlt : j < n
    · obtain ⟨g, cap, hvv, hgb, hgc, hrw⟩ := RowV.of_owns RI.out (by omega)
      cases hvv
      obtain ⟨x, hx⟩ : ∃ x, S.vols[j]? = some x := ⟨_, List.getElem?_eq_getElem (by rw [HN.out]; exact hlt)⟩
      have e0 := (MX.out.cell hrw.lt (fun q => q) j).trans (hrw.cell j (by omega))
      rw [show ((S.vols.map fun v => bp v.b)).getD j undef = bp x.b by
        rw [List.getD_eq_getElem?_getD, List.getElem?_map, hx]; rfl] at e0
      have hxm := List.mem_of_getElem? hx
      have hsz := HG.out.sizes x hxm
      obtain ⟨z, hzz⟩ : ∃ z : Nat, x.size = (z : Int) := ⟨x.size.toNat, by omega⟩
      have hzk : z * k ≤ 64 * 8 := Nat.mul_le_mul (by omega) hk8
      obtain ⟨N, hN⟩ : ∃ N, z * k = N := ⟨_, rfl⟩
      have hN512 : N ≤ 512 := by rw [← hN]; exact hzk
      have hwm : IntKind.i64.wrap ((z : Int) * (k : Int)) = (N : Int) := by
        rw [show (z : Int) * (k : Int) = ((z * k : Nat) : Int) by simp, hN]; exact IntWalk.i64_in _ (by omega)
      have hDx := Lib.hid (show (dumpS S).take (j + 1) = (dumpS S).take j ++ [readS S x 0 N] by
        rw [List.take_add_one]
        unfold dumpS
        rw [List.getElem?_map, hx]
        simp only [Option.map, Option.toList]
        rw [hzz, Int.toNat_natCast, HKK.out, hN])
      have NB := Lib.hid (new105 wr)
      have JB := Lib.hid (show Same wr (wr.alloc (.cells #[.pointer none, .slice none 0 0] 105)) from (Mod.refl _ _).alloc _)
      obtain ⟨vm, hbm, -, hv⟩ := (HM.out.same (J.out.same JB.out)).parts
      have hb := (hv x hxm).1
      have c1 := hb.at_ (i := 1) (.int .i64 x.size) rfl
      have k0 := hbm.at_ (i := 0) (.int .i64 (S.k : Int)) rfl
      rw [hzz] at c1
      rw [HKK.out] at k0
      have HX := Lib.hid hxm
      obtain ⟨xb, hxb⟩ : ∃ z, x.b = z := ⟨_, rfl⟩
      have HXB := Lib.hid hxb
      rw [hxb] at c1 e0
      clear hx hrw hv hb hxm hbm hzz hzk hsz hxb
      clear hN
      go_wp2_with fail
      generalize wr.alloc _ = W4 at *
      go_big_quiet (fail)
      go_wp2_with fail
      obtain ⟨W5, hW5⟩ : ∃ z, W4.drewN nq = z := ⟨_, rfl⟩
      have NB5 := Lib.hid (show Lib.IsBuilderF 105 5 wr.heap.size wr.heap.size (Lib.byteCells []) W5 by rw [← hW5]; exact builder_same NB.out ((Mod.refl _ _).drewN _))
      have JB5 := Lib.hid (show Same wr W5 by rw [← hW5]; exact JB.out.drewN _)
      rw [hW5]
      clear hW5 NB JB c1 k0 e0
      obtain ⟨wo, rfl⟩ : ∃ z, z = wr := ⟨_, rfl⟩
      go_loopw [26] (fun vi ws => ∃ i : Nat, i ≤ N ∧ vi = .int .i64 (i : Int) ∧ Lib.IsBuilderF 105 5 wo.heap.size wo.heap.size (Lib.byteCells (readS S x 0 i)) ws ∧ Same wo ws) (fun vi _ => N - (intOf vi).toNat)
      case atStart => exact ⟨0, by omega, rfl, by simpa [readS] using NB5.out, JB5.out⟩
      case round =>
        obtain ⟨i, hi, rfl, hbu, M⟩ := hrel
        have JI := Lib.hid M
        have KB := Lib.hid hbu
        clear M hbu
        by_cases hli : i < N
        · have HSe := Lib.hid (sector_any (HM.out.same (J.out.same JI.out)) HX.out i (by omega) (by rw [HKK.out]; exact ⟨hk1, hk8⟩) (fun c hc => (HG.out.secs x HX.out _ (getL_mem hc)).1))
          rw [HXB.out] at HSe
          have hlen := readS_len HG.out HX.out 0 i
          have h16 := secS_16 HG.out HX.out i
          have HSn := Lib.hid (show readS S x 0 (i + 1) = readS S x 0 i ++ secS S x i by rw [readS_succ, Nat.zero_add])
          unfold strV at HSe
          generalize readS S x 0 i = acc at *
          go_wp2_with fail
          refine HSe.out.mono ?_
          rintro e w5 ⟨rfl, M⟩
          have J5 := Lib.hid (JI.out.same M)
          have KB5 := Lib.hid (builder_same KB.out M)
          clear M
          go_wp2_with fail
          refine (Tryz.Builder_WriteString_k wo.heap.size wo.heap.size (Lib.byteCells acc) ⟨(secS S x i).toArray⟩ w5 KB5.out (by rw [Lib.byteCells_length, bytes_size]; omega) J5.out.size).mono ?_
          rintro e w6 ⟨rfl, hb4, hbl, _⟩
          rw [Lib.strCells_toArray, ← Lib.byteCells_append] at hb4
          have P1 := Lib.hid (Same.of_below ((Same.below J5.out).trans hbl))
          have P2 := Lib.hid hb4
          clear hb4 hbl
          go_wp2_with fail
          go_roundw
          case rel => exact ⟨i + 1, by omega, by first | rfl | go_num, by rw [HSn.out]; exact .inr P2.out, P1.out⟩
          case measure => simp [intOf]; omega
        · obtain rfl : N = i := by omega
          go_wp2_with fail
          refine (Tryz.Builder_String_any_k wo.heap.size wo.heap.size _ wr KB.out JI.out.size).mono ?_
          rintro e w6 ⟨rfl, _, hbl, _⟩
          have P1 := Lib.hid (Same.of_below ((Same.below JI.out).trans hbl))
          have OX6 := Lib.hid (own_mod2 OX.out P1.out (fun _ _ q => q))
          have MX6 := Lib.hid (MX.out.same P1.out)
          clear hbl
          generalize readS S x 0 N = acc at *
          have hj1 : IntKind.i64.wrap ((j : Int) + 1) = ((j + 1 : Nat) : Int) := by rw [IntWalk.i64_in _ (by omega)]; rfl
          go_wp2_with (at_builtin; refine wpList_append_own _ rfl (.tmp 35) (.tmp 37) 32 rfl w2.heap.size 9 i0 (.string ⟨#[]⟩) 1 16 Tryz.underlying32 I0.out Z0.out Z1.out Z2.out rfl (by decide) _ _ _ rfl (OX6.out.alloc _) ⟨w6.heap.size, 0, none⟩ 1 1 [.string ⟨acc.toArray⟩] rfl rfl (by have := one_new w6 (.string ⟨acc.toArray⟩) 9; simpa using this) (one_cell acc) (by unfold maxLen; omega) (by omega) (by have := MX6.out.size; simp only [World.size_alloc]; omega) ?_; intro v3 w7 hown' hgrow _; have OW := Lib.hid hown'; have MG := Lib.hid (same_append MX6.out OX6.out hgrow); clear hown' hgrow)
          exact ⟨⟨j + 1, by omega, by first | rfl | go_num, by rw [hDx.out, List.map_append]; exact OW.out, ⟨fun e => absurd (row_nil OW.out e) (by omega), fun e => by omega⟩, MG.out⟩, by simp [intOf]; omega⟩
    · obtain rfl : n = j := by omega
      have hfin := own_base OX.out J2.out.size
      rw [List.take_of_length_le (by unfold dumpS; rw [List.length_map, HN.out]; exact Nat.le_refl _)] at hfin
      have HFi := Lib.hid hfin
      clear hfin
      go_wp2_with fail
      go_wp2
      exact HR.out _ _ ⟨_, rfl, HFi.out, ⟨fun e => List.length_eq_zero_iff.1 (by rw [HN.out]; exact HNi.out.1 e), fun e => HNi.out.2 (by rw [← HN.out, e]; rfl)⟩, J.out⟩
end
end Go.Proofs.YtlcepoagpocadaaGreatDoor
set_option maxRecDepth 100000
/- How many places of a range something holds of. -/
namespace Go.Proofs.YtlcepoagpocadaaGreatDoor
open Go Go.RowKit
theorem rangeP_get {k x n i : Nat} (h : i < (x + n - 1) / k + 1 - x / k) : (rangeP k x n)[i]? = some (x / k + i) := by
  unfold rangeP
  rw [List.getElem?_map, List.getElem?_range h]; rfl
theorem rangeP_len (k x n : Nat) : (rangeP k x n).length = (x + n - 1) / k + 1 - x / k := by unfold rangeP; simp
section
variable {K : Nat → Prop} {w : World} {m : Nat} {S : MS} {ow : Nat → Int} {v v' : Vo}
set_option maxHeartbeats 4000000 in
theorem fresh45 (h : Mem Tryz.prog K w m S ow) (hk : 1 ≤ S.k ∧ S.k ≤ 8) (x n : Nat) (hn1 : 1 ≤ n) (hxn : x + n ≤ 512) (c1 : Nat) (f : Nat → Bool)
    (hc : ∀ p : Nat, p ≤ 512 → ∀ w', Same w w' → Calls Tryz.prog 45 #[.int .i64 (p : Int), bp c1] w' fun e w'' => e = .returned (.bool (f p)) ∧ Same w' w'') :
    Calls Tryz.prog 44 #[bp m, .int .i64 (x : Int), .int .i64 (n : Int), .func (.func 45) #[] #[bp c1]] w fun e w' => e = .returned (.int .i64 (((rangeP S.k x n).filter f).length : Int)) ∧ Same w w' := by
  refine opq fun R HR => ?_
  have HM := Lib.hid h
  have HC := Lib.hid hc
  obtain ⟨k, hkk⟩ : ∃ k, S.k = k := ⟨_, rfl⟩
  have HKK := Lib.hid hkk
  rw [hkk] at hk HR
  obtain ⟨vm, hb, -, -⟩ := h.parts
  have k0 := hb.at_ (i := 0) (.int .i64 (S.k : Int)) rfl
  rw [hkk] at k0
  have hml := hb.lt
  obtain ⟨p0, hp0⟩ : ∃ z, x / k = z := ⟨_, rfl⟩
  obtain ⟨pe, hpe⟩ : ∃ z, (x + n - 1) / k = z := ⟨_, rfl⟩
  have hpel : pe ≤ 512 := by have := Nat.div_le_self (x + n - 1) k; omega
  have hle : p0 ≤ pe := by rw [← hp0, ← hpe]; exact Nat.div_le_div_right (by omega)
  have hq : ((x : Int)).tdiv (k : Int) = (p0 : Int) := by rw [Int.tdiv_eq_ediv_of_nonneg (by omega), ← hp0]; rfl
  have hw0 : IntKind.i64.wrap ((x : Int) + (n : Int)) = ((x + n : Nat) : Int) := by rw [IntWalk.i64_in _ (by omega)]; simp
  have hw1 : IntKind.i64.wrap (((x + n : Nat) : Int) - 1) = ((x + n - 1 : Nat) : Int) := by rw [IntWalk.i64_in _ (by omega)]; omega
  have hq2 : (((x + n - 1 : Nat) : Int)).tdiv (k : Int) = (pe : Int) := by rw [Int.tdiv_eq_ediv_of_nonneg (by omega), ← hpe]; rfl
  obtain ⟨y, hy⟩ : ∃ y, x + n - 1 = y := ⟨_, rfl⟩
  rw [hy] at hw1 hq2
  have hxy : (x : Int) + (n : Int) - 1 = (y : Int) := by omega
  have hk0 : ¬ (k : Int) = 0 := by omega
  have hk0b : ((k : Int) == 0) = false := beq_eq_false_iff_ne.2 hk0
  have hkn : ¬ k = 0 := by omega
  have HG := Lib.hid (show ∀ i, i < pe + 1 - p0 → (rangeP k x n)[i]? = some (p0 + i) from fun i hi => by
    have := rangeP_get (k := k) (x := x) (n := n) (i := i) (by rw [hp0, hpe]; exact hi)
    rw [hp0] at this
    exact this)
  have HLn := Lib.hid (show (rangeP k x n).length = pe + 1 - p0 by rw [rangeP_len, hp0, hpe])
  have HY := Lib.hid hy
  clear h hc hkk hb hp0 hpe hy
  go_enter Tryz.func44, Tryz.ntmps44
  go_wp2_with fail
  go_loopw [9, 10] (fun vo vp wr => ∃ i : Nat, i ≤ pe + 1 - p0 ∧ vo = .int .i64 ((((rangeP k x n).take i).filter f).length : Int) ∧ vp = .int .i64 ((p0 + i : Nat) : Int) ∧ Same w wr) (fun _ vp _ => pe + 1 - (intOf vp).toNat)
  case atStart => exact ⟨0, by omega, by simp, by first | rfl | simp, Mod.refl _ _⟩
  case round =>
    obtain ⟨i, hi, rfl, rfl, M⟩ := hrel
    have J := Lib.hid M
    have k1 := (M.cell hml (fun q => q) 0).trans k0
    clear M
    obtain ⟨pp, hpp⟩ : ∃ z, p0 + i = z := ⟨_, rfl⟩
    have HPP := Lib.hid hpp
    have hcl : (((rangeP k x n).take i).filter f).length ≤ i := by
      refine Nat.le_trans (List.length_filter_le _ _) (List.length_take_le _ _)
    by_cases hlt : i < pe + 1 - p0
    · have hpl : pp ≤ pe := by omega
      have HCa := Lib.hid (HC.out pp (by omega) wr J.out)
      have hT : (rangeP k x n).take (i + 1) = (rangeP k x n).take i ++ [pp] := by rw [List.take_add_one, HG.out i hlt, hpp]; rfl
      have d1 : decide ((pp : Int) ≤ (pe : Int)) = true := decide_eq_true (by omega)
      have hw3 : IntKind.i64.wrap ((pp : Int) + 1) = ((pp + 1 : Nat) : Int) := by rw [IntWalk.i64_in _ (by omega)]; rfl
      rw [hpp]
      cases hfp : f pp with
      | true =>
        have HT := Lib.hid (show (((rangeP k x n).take (i + 1)).filter f).length = (((rangeP k x n).take i).filter f).length + 1 by rw [hT, List.filter_append]; simp [hfp])
        rw [hfp] at HCa
        clear hT hfp hpp
        generalize (((rangeP k x n).take i).filter f).length = cn at *
        have hw4 : IntKind.i64.wrap ((cn : Int) + 1) = ((cn + 1 : Nat) : Int) := by rw [IntWalk.i64_in _ (by omega)]; rfl
        go_wp2_with fail
        refine HCa.out.mono ?_
        rintro e w2 ⟨rfl, M⟩
        have J2 := Lib.hid (J.out.same M)
        clear M
        go_wp2_with fail
        go_roundw
        case rel => exact ⟨i + 1, by omega, by rw [HT.out]; first | rfl | go_num, by rw [← HPP.out]; first | rfl | go_num, J2.out⟩
        case measure => simp [intOf]; omega
      | false =>
        have HT := Lib.hid (show (((rangeP k x n).take (i + 1)).filter f).length = (((rangeP k x n).take i).filter f).length by rw [hT, List.filter_append]; simp [hfp])
        rw [hfp] at HCa
        clear hT hfp hpp
        generalize (((rangeP k x n).take i).filter f).length = cn at *
        go_wp2_with fail
        refine HCa.out.mono ?_
        rintro e w2 ⟨rfl, M⟩
        have J2 := Lib.hid (J.out.same M)
        clear M
        go_wp2_with fail
        go_roundw
        case rel => exact ⟨i + 1, by omega, by rw [HT.out], by rw [← HPP.out]; first | rfl | go_num, J2.out⟩
        case measure => simp [intOf]; omega
    · have hei : i = pe + 1 - p0 := by omega
      have hfl : (rangeP k x n).take i = rangeP k x n := List.take_of_length_le (by rw [HLn.out]; omega)
      have hpl : ¬ pp ≤ pe := by omega
      have d1 : decide ((pp : Int) ≤ (pe : Int)) = false := decide_eq_false (by omega)
      rw [hfl, hpp]
      clear hpp hei hfl hcl
      generalize ((rangeP k x n).filter f).length = cn at *
      go_wp2_with fail
      go_wp2
      exact HR.out _ _ ⟨rfl, J.out⟩
set_option maxHeartbeats 4000000 in
theorem fresh47 (h : Mem Tryz.prog K w m S ow) (hk : 1 ≤ S.k ∧ S.k ≤ 8) (x n : Nat) (hn1 : 1 ≤ n) (hxn : x + n ≤ 512) (c1 c2 c3 : Nat) (f : Nat → Bool)
    (hc : ∀ p : Nat, p ≤ 512 → ∀ w', Same w w' → Calls Tryz.prog 47 #[.int .i64 (p : Int), bp c1, bp c2, bp c3] w' fun e w'' => e = .returned (.bool (f p)) ∧ Same w' w'') :
    Calls Tryz.prog 44 #[bp m, .int .i64 (x : Int), .int .i64 (n : Int), .func (.func 47) #[] #[bp c1, bp c2, bp c3]] w fun e w' => e = .returned (.int .i64 (((rangeP S.k x n).filter f).length : Int)) ∧ Same w w' := by
  refine opq fun R HR => ?_
  have HM := Lib.hid h
  have HC := Lib.hid hc
  obtain ⟨k, hkk⟩ : ∃ k, S.k = k := ⟨_, rfl⟩
  have HKK := Lib.hid hkk
  rw [hkk] at hk HR
  obtain ⟨vm, hb, -, -⟩ := h.parts
  have k0 := hb.at_ (i := 0) (.int .i64 (S.k : Int)) rfl
  rw [hkk] at k0
  have hml := hb.lt
  obtain ⟨p0, hp0⟩ : ∃ z, x / k = z := ⟨_, rfl⟩
  obtain ⟨pe, hpe⟩ : ∃ z, (x + n - 1) / k = z := ⟨_, rfl⟩
  have hpel : pe ≤ 512 := by have := Nat.div_le_self (x + n - 1) k; omega
  have hle : p0 ≤ pe := by rw [← hp0, ← hpe]; exact Nat.div_le_div_right (by omega)
  have hq : ((x : Int)).tdiv (k : Int) = (p0 : Int) := by rw [Int.tdiv_eq_ediv_of_nonneg (by omega), ← hp0]; rfl
  have hw0 : IntKind.i64.wrap ((x : Int) + (n : Int)) = ((x + n : Nat) : Int) := by rw [IntWalk.i64_in _ (by omega)]; simp
  have hw1 : IntKind.i64.wrap (((x + n : Nat) : Int) - 1) = ((x + n - 1 : Nat) : Int) := by rw [IntWalk.i64_in _ (by omega)]; omega
  have hq2 : (((x + n - 1 : Nat) : Int)).tdiv (k : Int) = (pe : Int) := by rw [Int.tdiv_eq_ediv_of_nonneg (by omega), ← hpe]; rfl
  obtain ⟨y, hy⟩ : ∃ y, x + n - 1 = y := ⟨_, rfl⟩
  rw [hy] at hw1 hq2
  have hxy : (x : Int) + (n : Int) - 1 = (y : Int) := by omega
  have hk0 : ¬ (k : Int) = 0 := by omega
  have hk0b : ((k : Int) == 0) = false := beq_eq_false_iff_ne.2 hk0
  have hkn : ¬ k = 0 := by omega
  have HG := Lib.hid (show ∀ i, i < pe + 1 - p0 → (rangeP k x n)[i]? = some (p0 + i) from fun i hi => by
    have := rangeP_get (k := k) (x := x) (n := n) (i := i) (by rw [hp0, hpe]; exact hi)
    rw [hp0] at this
    exact this)
  have HLn := Lib.hid (show (rangeP k x n).length = pe + 1 - p0 by rw [rangeP_len, hp0, hpe])
  have HY := Lib.hid hy
  clear h hc hkk hb hp0 hpe hy
  go_enter Tryz.func44, Tryz.ntmps44
  go_wp2_with fail
  go_loopw [9, 10] (fun vo vp wr => ∃ i : Nat, i ≤ pe + 1 - p0 ∧ vo = .int .i64 ((((rangeP k x n).take i).filter f).length : Int) ∧ vp = .int .i64 ((p0 + i : Nat) : Int) ∧ Same w wr) (fun _ vp _ => pe + 1 - (intOf vp).toNat)
  case atStart => exact ⟨0, by omega, by simp, by first | rfl | simp, Mod.refl _ _⟩
  case round =>
    obtain ⟨i, hi, rfl, rfl, M⟩ := hrel
    have J := Lib.hid M
    have k1 := (M.cell hml (fun q => q) 0).trans k0
    clear M
    obtain ⟨pp, hpp⟩ : ∃ z, p0 + i = z := ⟨_, rfl⟩
    have HPP := Lib.hid hpp
    have hcl : (((rangeP k x n).take i).filter f).length ≤ i := by
      refine Nat.le_trans (List.length_filter_le _ _) (List.length_take_le _ _)
    by_cases hlt : i < pe + 1 - p0
    · have hpl : pp ≤ pe := by omega
      have HCa := Lib.hid (HC.out pp (by omega) wr J.out)
      have hT : (rangeP k x n).take (i + 1) = (rangeP k x n).take i ++ [pp] := by rw [List.take_add_one, HG.out i hlt, hpp]; rfl
      have d1 : decide ((pp : Int) ≤ (pe : Int)) = true := decide_eq_true (by omega)
      have hw3 : IntKind.i64.wrap ((pp : Int) + 1) = ((pp + 1 : Nat) : Int) := by rw [IntWalk.i64_in _ (by omega)]; rfl
      rw [hpp]
      cases hfp : f pp with
      | true =>
        have HT := Lib.hid (show (((rangeP k x n).take (i + 1)).filter f).length = (((rangeP k x n).take i).filter f).length + 1 by rw [hT, List.filter_append]; simp [hfp])
        rw [hfp] at HCa
        clear hT hfp hpp
        generalize (((rangeP k x n).take i).filter f).length = cn at *
        have hw4 : IntKind.i64.wrap ((cn : Int) + 1) = ((cn + 1 : Nat) : Int) := by rw [IntWalk.i64_in _ (by omega)]; rfl
        go_wp2_with fail
        refine HCa.out.mono ?_
        rintro e w2 ⟨rfl, M⟩
        have J2 := Lib.hid (J.out.same M)
        clear M
        go_wp2_with fail
        go_roundw
        case rel => exact ⟨i + 1, by omega, by rw [HT.out]; first | rfl | go_num, by rw [← HPP.out]; first | rfl | go_num, J2.out⟩
        case measure => simp [intOf]; omega
      | false =>
        have HT := Lib.hid (show (((rangeP k x n).take (i + 1)).filter f).length = (((rangeP k x n).take i).filter f).length by rw [hT, List.filter_append]; simp [hfp])
        rw [hfp] at HCa
        clear hT hfp hpp
        generalize (((rangeP k x n).take i).filter f).length = cn at *
        go_wp2_with fail
        refine HCa.out.mono ?_
        rintro e w2 ⟨rfl, M⟩
        have J2 := Lib.hid (J.out.same M)
        clear M
        go_wp2_with fail
        go_roundw
        case rel => exact ⟨i + 1, by omega, by rw [HT.out], by rw [← HPP.out]; first | rfl | go_num, J2.out⟩
        case measure => simp [intOf]; omega
    · have hei : i = pe + 1 - p0 := by omega
      have hfl : (rangeP k x n).take i = rangeP k x n := List.take_of_length_le (by rw [HLn.out]; omega)
      have hpl : ¬ pp ≤ pe := by omega
      have d1 : decide ((pp : Int) ≤ (pe : Int)) = false := decide_eq_false (by omega)
      rw [hfl, hpp]
      clear hpp hei hfl hcl
      generalize ((rangeP k x n).filter f).length = cn at *
      go_wp2_with fail
      go_wp2
      exact HR.out _ _ ⟨rfl, J.out⟩
end
end Go.Proofs.YtlcepoagpocadaaGreatDoor
set_option maxRecDepth 100000
/- Whether a place wants a chunk of its own: the two closures. -/
namespace Go.Proofs.YtlcepoagpocadaaGreatDoor
open Go Go.RowKit
section
variable {K : Nat → Prop} {w : World} {m : Nat} {S : MS} {v v' : Vo}
theorem Md.owner (h : Md Tryz.prog K w m S) (hv : v ∈ S.vols) {p : Int} {d : Nat} (hg : getL p v.pl = some d) : w.cell? ⟨d, 1, none⟩ = some (.int .i64 (cnt S.vols d : Int)) := by
  obtain ⟨ow, hM, hcn⟩ := h
  have := (hM.put_owner hv (getL_mem hg)).1
  dsimp only at this
  rw [hcn d (live_get hv hg)] at this
  exact this
theorem need_some {p d : Nat} (hg : getL (p : Int) v.pl = some d) : needS S v p = decide (1 < cnt S.vols d) := by unfold needS; rw [hg]
theorem need_none {p : Nat} (hg : getL (p : Int) v.pl = none) : needS S v p = true := by unfold needS; rw [hg]
theorem want45 (h : Md Tryz.prog K w m S) (hv : v ∈ S.vols) {c1 : Nat} (hc : w.cell? ⟨c1, 0, none⟩ = some (bp v.b)) (p : Nat) (hp : p ≤ 512) :
    Calls Tryz.prog 45 #[.int .i64 (p : Int), bp c1] w fun e w' => e = .returned (.bool (needS S v p)) ∧ w' = w := by
  refine opq fun R HR => ?_
  obtain ⟨vm, -, -, hvb⟩ := h.parts
  have e5 := (hvb v hv).1.at_ (i := 5) (.map (some v.pb)) rfl
  have hlk := look106 (hvb v hv).2 (p := (p : Int)) (I64.of (by omega))
  cases hg : getL (p : Int) v.pl with
  | none =>
    rw [need_none hg] at HR
    rw [hg] at hlk
    dsimp only [ptrO, Option.map] at hlk
    clear h hvb hv hg
    go_enter Tryz.func45, Tryz.ntmps45
    go_wp2
    exact HR.out _ _ ⟨rfl, rfl⟩
  | some d =>
    have f1 := h.owner hv hg
    rw [need_some hg] at HR
    rw [hg] at hlk
    dsimp only [ptrO, Option.map] at hlk
    clear h hvb hv hg
    generalize cnt S.vols d = cd at *
    by_cases q : 1 < cd
    · have d1 : decide (1 < cd) = true := decide_eq_true q
      have d1' : decide ((1 : Int) < (cd : Int)) = true := decide_eq_true (by omega)
      rw [d1] at HR
      go_enter Tryz.func45, Tryz.ntmps45
      go_wp2
      exact HR.out _ _ ⟨by first | rfl | (simp; done) | (simp; omega), rfl⟩
    · have d1 : decide (1 < cd) = false := decide_eq_false q
      have d1' : decide ((1 : Int) < (cd : Int)) = false := decide_eq_false (by omega)
      rw [d1] at HR
      go_enter Tryz.func45, Tryz.ntmps45
      go_wp2
      exact HR.out _ _ ⟨by first | rfl | (simp; done) | (simp; omega), rfl⟩
set_option maxHeartbeats 4000000 in
theorem want47 (h : Md Tryz.prog K w m S) (hk : 1 ≤ S.k ∧ S.k ≤ 8) (hv : v ∈ S.vols) {c1 c2 c3 : Nat} {id : Int} {x n : Nat} (hx : x ≤ 512) (hn : n ≤ 512) (h1 : w.cell? ⟨c1, 0, none⟩ = some (bp m)) (h2 : w.cell? ⟨c2, 1, none⟩ = some (.int .i64 (x : Int))) (h2' : w.cell? ⟨c2, 2, none⟩ = some (.int .i64 (n : Int))) (h3 : w.cell? ⟨c3, 0, none⟩ = some (bp v.b)) (p : Nat) (hp : p ≤ 512) :
    Calls Tryz.prog 47 #[.int .i64 (p : Int), bp c1, bp c2, bp c3] w fun e w' => e = .returned (.bool (!wholeS S.k x n p && (getL (p : Int) v.pl).isSome && needS S v p)) ∧ w' = w := by
  refine opq fun R HR => ?_
  obtain ⟨vm, -, -, hvb⟩ := h.parts
  have e5 := (hvb v hv).1.at_ (i := 5) (.map (some v.pb)) rfl
  have hlk := look106 (hvb v hv).2 (p := (p : Int)) (I64.of (by omega))
  have HWh := Lib.hid (show Calls Tryz.prog 48 #[bp m, .int .i64 (x : Int), .int .i64 (n : Int), .int .i64 (p : Int)] w fun e w' => e = .returned (.bool (wholeS S.k x n p)) ∧ w' = w from by
    obtain ⟨ow, hM, _⟩ := h
    exact whole_any hM hk x n p (by omega) (by omega) (by omega))
  cases hwh : wholeS S.k x n p with
  | true =>
    rw [hwh] at HR HWh
    clear h hvb hv hwh hlk e5
    go_enter Tryz.func47, Tryz.ntmps47
    go_wp2_with fail
    refine HWh.out.mono ?_
    rintro e w1 ⟨rfl, rfl⟩
    go_wp2
    exact HR.out _ _ ⟨by first | rfl | simp, rfl⟩
  | false =>
    rw [hwh] at HR HWh
    cases hg : getL (p : Int) v.pl with
    | none =>
      rw [hg] at hlk HR
      dsimp only [ptrO, Option.map] at hlk
      clear h hvb hv hg hwh
      go_enter Tryz.func47, Tryz.ntmps47
      go_wp2_with fail
      refine HWh.out.mono ?_
      rintro e w1 ⟨rfl, rfl⟩
      go_wp2
      exact HR.out _ _ ⟨by first | rfl | simp, rfl⟩
    | some d =>
      have f1 := h.owner hv hg
      rw [need_some hg, hg] at HR
      rw [hg] at hlk
      dsimp only [ptrO, Option.map] at hlk
      clear h hvb hv hg hwh
      generalize cnt S.vols d = cd at *
      by_cases q : 1 < cd
      · have d1 : decide (1 < cd) = true := decide_eq_true q
        have d1' : decide ((1 : Int) < (cd : Int)) = true := decide_eq_true (by omega)
        rw [d1] at HR
        go_enter Tryz.func47, Tryz.ntmps47
        go_wp2_with fail
        refine HWh.out.mono ?_
        rintro e w1 ⟨rfl, rfl⟩
        go_wp2
        exact HR.out _ _ ⟨by first | rfl | (simp; done) | (simp; omega), rfl⟩
      · have d1 : decide (1 < cd) = false := decide_eq_false q
        have d1' : decide ((1 : Int) < (cd : Int)) = false := decide_eq_false (by omega)
        rw [d1] at HR
        go_enter Tryz.func47, Tryz.ntmps47
        go_wp2_with fail
        refine HWh.out.mono ?_
        rintro e w1 ⟨rfl, rfl⟩
        go_wp2
        exact HR.out _ _ ⟨by first | rfl | (simp; done) | (simp; omega), rfl⟩
end
end Go.Proofs.YtlcepoagpocadaaGreatDoor
set_option maxRecDepth 100000
/- How many chunks more an order wants. -/
namespace Go.Proofs.YtlcepoagpocadaaGreatDoor
open Go Go.RowKit
theorem is38 (W : World) (v : Value) : (Instr.typeAssert (.iface 38 v) 27 38 true).run Tryz.prog W = .ok (.tuple #[v, .bool true]) W := by kernel_rfl
theorem is42 (W : World) (v : Value) : (Instr.typeAssert (.iface 42 v) 27 42 true).run Tryz.prog W = .ok (.tuple #[v, .bool true]) W := by kernel_rfl
theorem no38 (W : World) (u : TypeId) (v : Value) (h : u ≠ 38) : (Instr.typeAssert (.iface u v) 27 38 true).run Tryz.prog W = .ok (.tuple #[.agg #[.int .i64 0, .int .i64 0, .string ⟨#[]⟩], .bool false]) W := by
  have e : (Instr.typeAssert (.iface u v) 27 38 true).run Tryz.prog W = (if u = 38 then (pure (Value.tuple #[v, .bool true]) : Sem Value) else (do pure (Value.tuple #[← zeroValue 38, .bool false]))).run Tryz.prog W := by kernel_rfl
  rw [e, if_neg h]
  have z : (do pure (Value.tuple #[← zeroValue 38, .bool false]) : Sem Value).run Tryz.prog W = .ok (.tuple #[.agg #[.int .i64 0, .int .i64 0, .string ⟨#[]⟩], .bool false]) W := by kernel_rfl
  exact z
theorem no42 (W : World) (u : TypeId) (v : Value) (h : u ≠ 42) : (Instr.typeAssert (.iface u v) 27 42 true).run Tryz.prog W = .ok (.tuple #[.agg #[.int .i64 0, .int .i64 0, .int .i64 0], .bool false]) W := by
  have e : (Instr.typeAssert (.iface u v) 27 42 true).run Tryz.prog W = (if u = 42 then (pure (Value.tuple #[v, .bool true]) : Sem Value) else (do pure (Value.tuple #[← zeroValue 42, .bool false]))).run Tryz.prog W := by kernel_rfl
  rw [e, if_neg h]
  have z : (do pure (Value.tuple #[← zeroValue 42, .bool false]) : Sem Value).run Tryz.prog W = .ok (.tuple #[.agg #[.int .i64 0, .int .i64 0, .int .i64 0], .bool false]) W := by kernel_rfl
  exact z
theorem write_zero {S : MS} {id x : Int} {t : List UInt8} (h : writeE S id x t = 0) : t.length % 16 = 0 ∧ rangeS S id x ((t.length / 16 : Nat) : Int) = 0 := by
  unfold writeE at h
  split at h
  · cases h
  · split at h
    · cases h
    · exact ⟨by omega, h⟩
theorem wantS_write (S : MS) (id x : Int) (t : List UInt8) : wantS S 7 [id, x] [t] = if writeE S id x t = 0 then (match findV S id with | none => 0 | some v => ((rangeP S.k x.toNat (t.length / 16)).filter fun p => needS S v p).length) else 0 := by
  unfold wantS
  dsimp only [List.getD, List.getElem?_cons_zero, List.getElem?_cons_succ, Option.getD]
  cases findV S id with
  | none => simp
  | some v => rfl
theorem wantS_discard (S : MS) (id x n : Int) : wantS S 8 [id, x, n] [] = if rangeS S id x n = 0 then (match findV S id with | none => 0 | some v => ((rangeP S.k x.toNat n.toNat).filter fun p => !wholeS S.k x.toNat n.toNat p && (getL (p : Int) v.pl).isSome && needS S v p).length) else 0 := by
  unfold wantS
  dsimp only [List.getD, List.getElem?_cons_zero, List.getElem?_cons_succ, Option.getD]
  cases findV S id with
  | none => simp
  | some v => rfl
section
variable {K : Nat → Prop} {w : World} {m : Nat} {S : MS} {v v' : Vo}
set_option maxHeartbeats 4000000 in
theorem wants_write (h : Md Tryz.prog K w m S) (G : Good S) (W : Wf S) (id x : Int) (t : List UInt8) (hid : I64 id) (hx : I64 x) (ht : t.length ≤ 1000000) :
    Calls Tryz.prog 18 #[bp m, .iface 38 (.agg #[.int .i64 id, .int .i64 x, .string ⟨t.toArray⟩])] w fun e w' => e = .returned (.int .i64 (wantS S 7 [id, x] [t] : Int)) ∧ Same w w' := by
  refine opq fun R HR => ?_
  have HM := Lib.hid h
  have HG := Lib.hid G
  have h38 := fun W => is38 W (.agg #[.int .i64 id, .int .i64 x, .string ⟨t.toArray⟩])
  obtain ⟨W2, hW2⟩ : ∃ z, (w.alloc (.cells #[bp m] 48)).alloc (.cells #[.int .i64 id, .int .i64 x, .string ⟨t.toArray⟩] 38) = z := ⟨_, rfl⟩
  have J2 := Lib.hid (show Same w W2 by rw [← hW2]; exact ((Mod.refl _ _).alloc _).alloc _)
  have B0 : Blk W2 w.heap.size #[bp m] := by rw [← hW2]; exact (Blk.new w _ 48).alloc _
  have BA : Blk W2 (w.heap.size + 1) #[.int .i64 id, .int .i64 x, .string ⟨t.toArray⟩] := by
    have := Blk.new (w.alloc (.cells #[bp m] 48)) #[.int .i64 id, .int .i64 x, .string ⟨t.toArray⟩] 38
    rw [hW2, World.size_alloc] at this
    exact this
  have b00 := B0.at_ (i := 0) (bp m) rfl
  have ba0 := BA.at_ (i := 0) (.int .i64 id) rfl
  have ba1 := BA.at_ (i := 1) (.int .i64 x) rfl
  have ba2 := BA.at_ (i := 2) (.string ⟨t.toArray⟩) rfl
  have HB0 := Lib.hid B0
  have HBA := Lib.hid BA
  have HTa := Lib.hid (show Calls Tryz.prog 43 #[bp m, .agg #[.int .i64 id, .int .i64 x, .string ⟨t.toArray⟩]] W2 fun e w' => e = .returned (.tuple #[ptrO (if writeE S id x t = 0 then (findV S id).map Vo.b else none), .int .i64 (writeE S id x t)]) ∧ Same W2 w' from by
    obtain ⟨ow, hM, _⟩ := h
    exact target_any (hM.same J2.out) ⟨G.k1, G.k8⟩ (fun v hv => G.sizes v hv) id x t hid hx ht)
  have hts : (⟨t.toArray⟩ : ByteArray).size = t.length := bytes_size t
  have hdq : ((t.length : Int)).tdiv 16 = ((t.length / 16 : Nat) : Int) := by rw [Int.tdiv_eq_ediv_of_nonneg (by omega)]; rfl
  have hdw : IntKind.i64.wrap ((t.length / 16 : Nat) : Int) = ((t.length / 16 : Nat) : Int) := IntWalk.i64_in _ (by omega)
  rw [wantS_write] at HR
  clear h G B0 BA
  go_enter Tryz.func18, Tryz.ntmps18
  go_wp2_with fail
  refine HTa.out.mono ?_
  rintro e w3 ⟨rfl, M⟩
  have J3 := Lib.hid (J2.out.same M)
  have C0 := Lib.hid (HB0.out.mod M (fun q => q))
  have CA := Lib.hid (HBA.out.mod M (fun q => q))
  clear M HTa b00 ba0 ba1 ba2 HB0 HBA J2 hW2
  by_cases hr : writeE S id x t = 0
  · obtain ⟨hm16, hrr⟩ := write_zero hr
    obtain ⟨v, hf, h1, h2, h3, h4⟩ := range_zero hrr
    have hvm := (findV_mem hf).1
    have hsz := HG.out.sizes v hvm
    have hk8 := HG.out.k8
    have hk1 := HG.out.k1
    have hzk : v.size * S.k ≤ 64 * 8 := Int.mul_le_mul hsz.2 (by omega) (by omega) (by omega)
    obtain ⟨xx, rfl⟩ : ∃ xx : Nat, x = (xx : Int) := ⟨x.toNat, by omega⟩
    rw [if_pos hr, hf] at HR
    rw [hr, if_pos rfl, hf]
    simp only [Int.toNat_natCast] at HR
    dsimp only [ptrO, Option.map]
    have hxn : xx + t.length / 16 ≤ 512 := by omega
    have hn1 : 1 ≤ t.length / 16 := by omega
    have HVM := Lib.hid hvm
    obtain ⟨W4, hW4⟩ : ∃ z, w3.alloc (.cells #[bp v.b] 102) = z := ⟨_, rfl⟩
    have N4 := Lib.hid (show Same w3 W4 by rw [← hW4]; exact (Mod.refl _ _).alloc _)
    have C4 := Lib.hid (show Blk W4 w3.heap.size #[bp v.b] by rw [← hW4]; exact Blk.new w3 _ 102)
    have d00 := (C0.out.mod N4.out (fun q => q)).at_ (i := 0) (bp m) rfl
    have da1 := (CA.out.mod N4.out (fun q => q)).at_ (i := 1) (.int .i64 (xx : Int)) rfl
    have da2 := (CA.out.mod N4.out (fun q => q)).at_ (i := 2) (.string ⟨t.toArray⟩) rfl
    have HFr := Lib.hid (show Calls Tryz.prog 44 #[bp m, .int .i64 (xx : Int), .int .i64 ((t.length / 16 : Nat) : Int), .func (.func 45) #[] #[bp w3.heap.size]] W4 fun e w' => e = .returned (.int .i64 (((rangeP S.k xx (t.length / 16)).filter fun p => needS S v p).length : Int)) ∧ Same W4 w' from by
      obtain ⟨ow, hM, _⟩ := HM.out.same (J3.out.same N4.out)
      exact fresh45 hM ⟨hk1, hk8⟩ xx (t.length / 16) hn1 hxn w3.heap.size (fun p => needS S v p) fun p hp w' M => (want45 (HM.out.same ((J3.out.same N4.out).same M)) HVM.out ((C4.out.mod M (fun q => q)).at_ (i := 0) (bp v.b) rfl) p hp).mono (fun e w'' q => ⟨q.1, by rw [q.2]; exact Mod.refl _ _⟩))
    clear hf hr hrr hx h1 h2 h3 h4 hvm hsz hzk hm16
    go_wp2_with fail
    refine HFr.out.mono ?_
    rintro e w5 ⟨rfl, M⟩
    have J5 := Lib.hid ((J3.out.same N4.out).same M)
    clear M
    go_wp2
    exact HR.out _ _ ⟨rfl, J5.out⟩
  · rw [if_neg hr] at HR
    rw [if_neg hr]
    obtain ⟨r, hrr⟩ : ∃ r, writeE S id x t = r := ⟨_, rfl⟩
    rw [hrr] at hr ⊢
    have hrb : (r != 0) = true := by simp [hr]
    clear hrr hx
    dsimp only [ptrO, Option.map]
    go_wp2
    exact HR.out _ _ ⟨rfl, J3.out.alloc _⟩
set_option maxHeartbeats 4000000 in
theorem wants_discard (h : Md Tryz.prog K w m S) (G : Good S) (W : Wf S) (id x n : Int) (hid : I64 id) (hx : I64 x) (hn : I64 n) :
    Calls Tryz.prog 18 #[bp m, .iface 42 (.agg #[.int .i64 id, .int .i64 x, .int .i64 n])] w fun e w' => e = .returned (.int .i64 (wantS S 8 [id, x, n] [] : Int)) ∧ Same w w' := by
  refine opq fun R HR => ?_
  have HM := Lib.hid h
  have HG := Lib.hid G
  have h38 := fun W => no38 W 42 (.agg #[.int .i64 id, .int .i64 x, .int .i64 n]) (by decide)
  have h42 := fun W => is42 W (.agg #[.int .i64 id, .int .i64 x, .int .i64 n])
  obtain ⟨W2, hW2⟩ : ∃ z, ((w.alloc (.cells #[bp m] 48)).alloc (.cells #[.int .i64 0, .int .i64 0, .string ⟨#[]⟩] 38)).alloc (.cells #[.int .i64 id, .int .i64 x, .int .i64 n] 42) = z := ⟨_, rfl⟩
  have J2 := Lib.hid (show Same w W2 by rw [← hW2]; exact (((Mod.refl _ _).alloc _).alloc _).alloc _)
  have B0 : Blk W2 w.heap.size #[bp m] := by rw [← hW2]; exact ((Blk.new w _ 48).alloc _).alloc _
  have BA : Blk W2 (w.heap.size + 1 + 1) #[.int .i64 id, .int .i64 x, .int .i64 n] := by
    have := Blk.new ((w.alloc (.cells #[bp m] 48)).alloc (.cells #[.int .i64 0, .int .i64 0, .string ⟨#[]⟩] 38)) #[.int .i64 id, .int .i64 x, .int .i64 n] 42
    rw [hW2, World.size_alloc, World.size_alloc] at this
    exact this
  have b00 := B0.at_ (i := 0) (bp m) rfl
  have ba0 := BA.at_ (i := 0) (.int .i64 id) rfl
  have ba1 := BA.at_ (i := 1) (.int .i64 x) rfl
  have ba2 := BA.at_ (i := 2) (.int .i64 n) rfl
  have HB0 := Lib.hid B0
  have HBA := Lib.hid BA
  have HTa := Lib.hid (show Calls Tryz.prog 46 #[bp m, .int .i64 id, .int .i64 x, .int .i64 n] W2 fun e w' => e = .returned (.tuple #[ptrO (if rangeS S id x n = 0 then (findV S id).map Vo.b else none), .int .i64 (rangeS S id x n)]) ∧ Same W2 w' from by
    obtain ⟨ow, hM, _⟩ := h
    exact within_any (hM.same J2.out) ⟨G.k1, G.k8⟩ (fun v hv => G.sizes v hv) id x n hid hx hn)
  rw [wantS_discard] at HR
  clear h G B0 BA
  go_enter Tryz.func18, Tryz.ntmps18
  go_wp2_with fail
  refine HTa.out.mono ?_
  rintro e w3 ⟨rfl, M⟩
  have J3 := Lib.hid (J2.out.same M)
  have C0 := Lib.hid (HB0.out.mod M (fun q => q))
  have CA := Lib.hid (HBA.out.mod M (fun q => q))
  clear M HTa b00 ba0 ba1 ba2 HB0 HBA J2 hW2
  by_cases hr : rangeS S id x n = 0
  · obtain ⟨v, hf, h1, h2, h3, h4⟩ := range_zero hr
    have hvm := (findV_mem hf).1
    have hsz := HG.out.sizes v hvm
    have hk8 := HG.out.k8
    have hk1 := HG.out.k1
    have hzk : v.size * S.k ≤ 64 * 8 := Int.mul_le_mul hsz.2 (by omega) (by omega) (by omega)
    obtain ⟨xx, rfl⟩ : ∃ xx : Nat, x = (xx : Int) := ⟨x.toNat, by omega⟩
    obtain ⟨nn, rfl⟩ : ∃ nn : Nat, n = (nn : Int) := ⟨n.toNat, by omega⟩
    rw [if_pos hr, hf] at HR
    rw [hr, if_pos rfl, hf]
    simp only [Int.toNat_natCast] at HR
    dsimp only [ptrO, Option.map]
    have hxn : xx + nn ≤ 512 := by omega
    have hn1 : 1 ≤ nn := by omega
    have HVM := Lib.hid hvm
    obtain ⟨W4, hW4⟩ : ∃ z, w3.alloc (.cells #[bp v.b] 102) = z := ⟨_, rfl⟩
    have N4 := Lib.hid (show Same w3 W4 by rw [← hW4]; exact (Mod.refl _ _).alloc _)
    have C4 := Lib.hid (show Blk W4 w3.heap.size #[bp v.b] by rw [← hW4]; exact Blk.new w3 _ 102)
    have D0 := Lib.hid (C0.out.mod N4.out (fun q => q))
    have DA := Lib.hid (CA.out.mod N4.out (fun q => q))
    have d00 := D0.out.at_ (i := 0) (bp m) rfl
    have da1 := DA.out.at_ (i := 1) (.int .i64 (xx : Int)) rfl
    have da2 := DA.out.at_ (i := 2) (.int .i64 (nn : Int)) rfl
    have HFr := Lib.hid (show Calls Tryz.prog 44 #[bp m, .int .i64 (xx : Int), .int .i64 (nn : Int), .func (.func 47) #[] #[bp w.heap.size, bp (w.heap.size + 1 + 1), bp w3.heap.size]] W4 fun e w' => e = .returned (.int .i64 (((rangeP S.k xx nn).filter fun p => !wholeS S.k xx nn p && (getL (p : Int) v.pl).isSome && needS S v p).length : Int)) ∧ Same W4 w' from by
      obtain ⟨ow, hM, _⟩ := HM.out.same (J3.out.same N4.out)
      exact fresh47 hM ⟨hk1, hk8⟩ xx nn hn1 hxn w.heap.size (w.heap.size + 1 + 1) w3.heap.size (fun p => !wholeS S.k xx nn p && (getL (p : Int) v.pl).isSome && needS S v p) fun p hp w' M => (want47 (id := 0) (HM.out.same ((J3.out.same N4.out).same M)) ⟨hk1, hk8⟩ HVM.out (show xx ≤ 512 by omega) (show nn ≤ 512 by omega) ((D0.out.mod M (fun q => q)).at_ (i := 0) (bp m) rfl) ((DA.out.mod M (fun q => q)).at_ (i := 1) (.int .i64 (xx : Int)) rfl) ((DA.out.mod M (fun q => q)).at_ (i := 2) (.int .i64 (nn : Int)) rfl) ((C4.out.mod M (fun q => q)).at_ (i := 0) (bp v.b) rfl) p hp).mono (fun e w'' q => ⟨q.1, by rw [q.2]; exact Mod.refl _ _⟩))
    clear hf hr hx hn h1 h2 h3 h4 hvm hsz hzk
    go_wp2_with fail
    refine HFr.out.mono ?_
    rintro e w5 ⟨rfl, M⟩
    have J5 := Lib.hid ((J3.out.same N4.out).same M)
    clear M
    go_wp2
    exact HR.out _ _ ⟨rfl, J5.out⟩
  · rw [if_neg hr] at HR
    rw [if_neg hr]
    obtain ⟨r, hrr⟩ : ∃ r, rangeS S id x n = r := ⟨_, rfl⟩
    rw [hrr] at hr ⊢
    have hrb : (r != 0) = true := by simp [hr]
    clear hrr hx hn
    dsimp only [ptrO, Option.map]
    go_wp2
    exact HR.out _ _ ⟨rfl, J3.out.alloc _⟩
/-- An order of another kind wants none. -/
theorem wants_other (h : Md Tryz.prog K w m S) (u : TypeId) (a : Value) (h1 : u ≠ 38) (h2 : u ≠ 42) :
    Calls Tryz.prog 18 #[bp m, .iface u a] w fun e w' => e = .returned (.int .i64 0) ∧ Same w w' := by
  refine opq fun R HR => ?_
  have h38 := fun W => no38 W u a h1
  have h42 := fun W => no42 W u a h2
  clear h h1 h2
  go_enter Tryz.func18, Tryz.ntmps18
  go_wp2
  exact HR.out _ _ ⟨rfl, (((Mod.refl _ _).alloc _).alloc _).alloc _⟩
theorem wants_nil (w : World) (o : Value) : Calls Tryz.prog 18 #[.pointer none, o] w fun e w' => e = .returned (.int .i64 0) ∧ Same w w' := by
  refine opq fun R HR => ?_
  go_enter Tryz.func18, Tryz.ntmps18
  go_wp2
  exact HR.out _ _ ⟨rfl, (Mod.refl _ _).alloc _⟩
end
end Go.Proofs.YtlcepoagpocadaaGreatDoor
set_option maxRecDepth 100000
/- A new model. -/
namespace Go.Proofs.YtlcepoagpocadaaGreatDoor
open Go Go.RowKit
def emptyS (k : Nat) : MS := ⟨k, [], fun _ => []⟩
theorem emptyS_wf (k : Nat) : Wf (emptyS k) := by
  constructor <;> intros <;> simp_all [emptyS]
theorem emptyS_good {k : Nat} (h1 : 1 ≤ k) (h8 : k ≤ 8) : Good (emptyS k) := by
  constructor <;> intros <;> simp_all [emptyS]
theorem new_md (K : Nat → Prop) {w W : World} {vm m k : Nat} (hK : ∀ i, K i → i < w.heap.size) (hs : w.heap.size ≤ vm) (hs2 : w.heap.size ≤ m) (hne : vm ≠ m) (hle : w.heap.size ≤ W.heap.size)
    (h1 : IMap Tryz.prog 3 W vm []) (h2 : Blk W m #[.int .i64 (k : Int), .map (some vm)]) : Md Tryz.prog K W m (emptyS k) := by
  refine ⟨fun _ => 0, ⟨upd (upd (fun _ => Ob.no) vm (.mp m [])) m (.cl 0 #[.int .i64 (k : Int), .map (some vm)]), vm, fun b => ?_, fun b hb => ?_, fun i hi => Nat.lt_of_lt_of_le (hK i hi) hle, ?_⟩, fun c hc => ?_⟩
  · by_cases q : b = m
    · subst q; rw [upd_same]; exact h2
    · rw [upd_ne _ _ q]
      by_cases q2 : b = vm
      · subst q2; rw [upd_same]; exact h1
      · rw [upd_ne _ _ q2]; trivial
  · intro hk
    have := hK b hk
    rw [upd_ne _ _ (by omega), upd_ne _ _ (by omega)] at hb
    exact hb rfl
  · refine ⟨upd_same _ _ _, ?_, ?_, ?_, ?_, ?_⟩
    · rw [upd_ne _ _ hne, upd_same]; rfl
    all_goals simp [emptyS]
  · simp [emptyS, cnt] at hc
theorem new_none (w : World) (n : Int) (hn : I64 n) (h : n < 1 ∨ 8 < n) : Calls Tryz.prog 15 #[.int .i64 n] w fun e w' => e = .returned (.pointer none) ∧ Same w w' := by
  refine opq fun R HR => ?_
  by_cases q : n < 1
  · have d1 : decide (n < 1) = true := decide_eq_true q
    go_enter Tryz.func15, Tryz.ntmps15
    go_wp2
    exact HR.out _ _ ⟨rfl, Mod.refl _ _⟩
  · have d1 : decide (n < 1) = false := decide_eq_false q
    have d2 : decide (n > 8) = true := decide_eq_true (by omega)
    have d2' : decide (8 < n) = true := d2
    go_enter Tryz.func15, Tryz.ntmps15
    go_wp2
    exact HR.out _ _ ⟨rfl, Mod.refl _ _⟩
theorem make109 (W : World) : (Instr.makeMap 109 none).run Tryz.prog W = .ok (.map (some W.heap.size)) (W.alloc (.map #[] 0)) := by kernel_rfl
theorem new_some (K : Nat → Prop) (w : World) (hK : ∀ i, K i → i < w.heap.size) (k : Nat) (h1 : 1 ≤ k) (h8 : k ≤ 8) : Calls Tryz.prog 15 #[.int .i64 (k : Int)] w fun e w' => ∃ m, e = .returned (bp m) ∧ Md Tryz.prog K w' m (emptyS k) ∧ Same w w' := by
  refine opq fun R HR => ?_
  have d1 : decide ((k : Int) < 1) = false := decide_eq_false (by omega)
  have d2 : decide ((k : Int) > 8) = false := decide_eq_false (by omega)
  have d2' : decide ((8 : Int) < k) = false := d2
  have J := Lib.hid (show Same w ((w.alloc (.map #[] 0)).alloc (.cells #[.int .i64 (k : Int), .map (some w.heap.size)] 111)) from ((Mod.refl _ _).alloc _).alloc _)
  have BM := Lib.hid (show Blk ((w.alloc (.map #[] 0)).alloc (.cells #[.int .i64 (k : Int), .map (some w.heap.size)] 111)) (w.heap.size + 1) #[.int .i64 (k : Int), .map (some w.heap.size)] from by
    have := Blk.new (w.alloc (.map #[] 0)) #[.int .i64 (k : Int), .map (some w.heap.size)] 111
    rw [World.size_alloc] at this
    exact this)
  have PM := Lib.hid (show IMap Tryz.prog 3 ((w.alloc (.map #[] 0)).alloc (.cells #[.int .i64 (k : Int), .map (some w.heap.size)] 111)) w.heap.size [] from
    (IMap.made (P := Tryz.prog) (kt := 3) w).mod ((Mod.refl (fun _ => False) _).alloc _) (fun q => q))
  have HK := Lib.hid hK
  have hmk := make109 w
  clear hK
  go_enter Tryz.func15, Tryz.ntmps15
  go_wp2
  exact HR.out _ _ ⟨w.heap.size + 1, rfl, new_md K HK.out (Nat.le_refl _) (by omega) (by omega) J.out.size PM.out BM.out, J.out⟩
end Go.Proofs.YtlcepoagpocadaaGreatDoor
