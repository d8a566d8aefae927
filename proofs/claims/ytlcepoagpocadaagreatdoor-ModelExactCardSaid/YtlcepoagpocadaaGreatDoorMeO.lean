import Derived.Test.YtlcepoagpocadaaGreatDoorMeJ
set_option linter.unusedSimpArgs false
set_option linter.unusedVariables false
set_option maxRecDepth 100000
/- Sectors are written. -/
namespace Go.Proofs.YtlcepoagpocadaaGreatDoor
open Go Go.RowKit
theorem own_vols {S S' : MS} (W : Wf S) {v : Vo} (hv : v ∈ S.vols) {p c : Nat} (h : Own S v p S' c) : volsL S'.vols = volsL S.vols := by
  rcases h with ⟨_, _, rfl⟩ | ⟨_, _, rfl⟩
  · rfl
  · exact volsL_rep (v := v) (v' := { v with pl := putL (p : Int) c v.pl }) W.nd hv rfl rfl
theorem vols_find {S S' : MS} (e : volsL S'.vols = volsL S.vols) {id : Int} {v : Vo} (h : findV S id = some v) : ∃ u, findV S' id = some u ∧ u.b = v.b := by
  have h1 := getL_find S id
  have h2 := getL_find S' id
  rw [e, h1, h] at h2
  obtain ⟨u, hu, eb⟩ := Option.map_eq_some_iff.1 h2.symm
  exact ⟨u, hu, eb⟩
section
variable {K : Nat → Prop} {w : World} {m : Nat} {S : MS} {v v' : Vo}
theorem Md.parts (h : Md Tryz.prog K w m S) : ∃ vm, Blk w m #[.int .i64 (S.k : Int), .map (some vm)] ∧ IMap Tryz.prog 3 w vm (volsL S.vols) ∧ ∀ v ∈ S.vols, Blk w v.b (volC v) ∧ IMap Tryz.prog 3 w v.pb v.pl := by
  obtain ⟨ow, h, _⟩ := h
  exact h.parts
/-- A live chunk's blocks; what a store into its sectors does. -/
theorem Md.chunk (h : Md Tryz.prog K w m S) {c : Nat} (hc : 0 < cnt S.vols c) (hs : (S.sec c).length = S.k) : ∃ g cap, w.cell? ⟨c, 0, none⟩ = some (.slice (some ⟨g, 0, none⟩) S.k cap) ∧ g ≠ m ∧ ¬ K g ∧ (∀ i, i < S.k → ∃ u, w.cell? ⟨g, i, none⟩ = some u) ∧ (∀ i, w.frozen? ⟨g, i, none⟩ = false) ∧
    ∀ i s, i < S.k → Md Tryz.prog K (w.setCell ⟨g, i, none⟩ (.string ⟨s.toArray⟩)) m (setC S c i s) := by
  obtain ⟨ow, ⟨H, vm, hH, hK, hlt, A⟩, hcn⟩ := h
  obtain ⟨v, hv, x, hx, rfl⟩ := cnt_pos.1 hc
  obtain ⟨g, cap, h1, h2⟩ := A.hc v hv x hx
  have hbc : Blk w x.2 #[.slice (some ⟨g, 0, none⟩) S.k cap, .int .i64 (ow x.2)] := by have := hH x.2; rw [h1] at this; exact this
  have hrw : RowV w g (S.sec x.2).length (txF (S.sec x.2)) := by have := hH g; rw [h2] at this; exact this
  have hKg : ¬ K g := hK g (by rw [h2]; simp)
  refine ⟨g, cap, hbc.at_ (i := 0) _ rfl, ne_H (H := H) (by rw [h2, A.hm]; simp), hKg, fun i hi => ⟨_, hrw.cell i (by omega)⟩, hrw.free, fun i s hi => ?_⟩
  have M1 : Mod (fun j => j = g) w (w.setCell ⟨g, i, none⟩ (.string ⟨s.toArray⟩)) := (Mod.refl (fun j => j = g) w).setCell (p := ⟨g, i, none⟩) (fun _ => rfl) _
  have hr2 := (hrw.set i (by omega) (.string ⟨s.toArray⟩)).congr (f' := txF ((S.sec x.2).set i s)) (fun j hj => by
    unfold upd txF
    by_cases q : j = i
    · subst q
      rw [if_pos rfl, List.getD_eq_getElem?_getD, List.getElem?_set_self (by omega)]; rfl
    · rw [if_neg q, List.getD_eq_getElem?_getD, List.getD_eq_getElem?_getD, List.getElem?_set_ne (fun e => q e.symm)])
  have hr3 : RowV (w.setCell ⟨g, i, none⟩ (.string ⟨s.toArray⟩)) g ((S.sec x.2).set i s).length (txF ((S.sec x.2).set i s)) := by rw [List.length_set]; exact hr2
  refine ⟨ow, ⟨_, vm, hH.turn (b := g) (o := .rw x.2 ((S.sec x.2).set i s)) M1 hr3, fun b hb => ?_, fun j hj => Nat.lt_of_lt_of_le (hlt j hj) M1.size, A.sect h1 h2 rfl⟩, hcn⟩
  by_cases q : b = g
  · rw [q]; exact hKg
  · rw [upd_ne _ _ q] at hb; exact hK b hb
theorem own_live {S' : MS} (W : Wf S) (G : Good S) (hv : v ∈ S.vols) {p c : Nat} (hp : (p : Int) < v.size) (h : Own S v p S' c) : 0 < cnt S'.vols c ∧ (S'.sec c).length = S'.k := by
  have hg := G.own W hv hp h
  refine ⟨?_, hg.2.2⟩
  rcases h with ⟨g1, _, rfl⟩ | ⟨_, _, rfl⟩
  · exact live_get hv g1
  · exact cnt_pos.2 ⟨_, mem_rep hv rfl, ((p : Int), c), mem_putL.2 (.inl rfl), rfl⟩
theorem take_bytes (s : ByteArray) (k : Nat) : s.extract 0 k = ⟨(s.data.toList.take k).toArray⟩ := by
  apply ByteArray.ext
  rw [ByteArray.data_extract]
  apply Array.ext'
  simp [Array.toList_extract, List.extract_eq_take_drop]
theorem drop_bytes (s : ByteArray) (k : Nat) : s.extract k s.size = ⟨(s.data.toList.drop k).toArray⟩ := by
  apply ByteArray.ext
  rw [ByteArray.data_extract]
  apply Array.ext'
  simp [Array.toList_extract, List.extract_eq_take_drop]
  rw [List.take_of_length_le]
  have h1 : s.data.toList.length = s.size := rfl
  rw [List.length_drop, h1]
  exact Nat.le_refl _
theorem ext16 (l : List UInt8) : (⟨l.toArray⟩ : ByteArray).extract 0 16 = ⟨(l.take 16).toArray⟩ := take_bytes ⟨l.toArray⟩ 16
theorem dro16 (l : List UInt8) (n : Nat) (h : n = l.length) : (⟨l.toArray⟩ : ByteArray).extract 16 n = ⟨(l.drop 16).toArray⟩ := by
  subst h
  have := drop_bytes ⟨l.toArray⟩ 16
  rw [bytes_size] at this
  exact this
theorem cut16_get {t : List UInt8} {j : Nat} (hj : j < t.length / 16) : (cut16 t)[j]? = some ((t.drop (16 * j)).take 16) := by
  unfold cut16
  rw [List.getElem?_map, List.getElem?_range hj]; rfl
set_option maxHeartbeats 8000000 in
theorem write_any (h : Md Tryz.prog K w m S) (G : Good S) (W : Wf S) (id x : Int) (t : List UInt8) (hid : I64 id) (hx : I64 x) (ht : t.length ≤ 1000) :
    Calls Tryz.prog 58 #[bp m, .agg #[.int .i64 id, .int .i64 x, .string ⟨t.toArray⟩]] w fun e w' => ∃ S', e = .returned (.int .i64 (writeE S id x t)) ∧ (if writeE S id x t = 0 then WrR (cut16 t) S id x.toNat S' else S' = S) ∧ Md Tryz.prog K w' m S' ∧ Mod (fun i => ¬ K i) w w' := by
  refine opq fun R HR => ?_
  have HM := Lib.hid h
  have HG := Lib.hid G
  have HW := Lib.hid W
  obtain ⟨W1, hW1⟩ : ∃ z, (w.alloc (.cells #[.int .i64 id, .int .i64 x, .string ⟨t.toArray⟩] 38)) = z := ⟨_, rfl⟩
  have J1 := Lib.hid (show Same w W1 by rw [← hW1]; exact (Mod.refl _ _).alloc _)
  have B1 : Blk W1 w.heap.size #[.int .i64 id, .int .i64 x, .string ⟨t.toArray⟩] := by rw [← hW1]; exact Blk.new w _ 38
  have b0 := B1.at_ (i := 0) (.int .i64 id) rfl
  have b1 := B1.at_ (i := 1) (.int .i64 x) rfl
  have b2 := B1.at_ (i := 2) (.string ⟨t.toArray⟩) rfl
  have hts : (⟨t.toArray⟩ : ByteArray).size = t.length := bytes_size t
  have HT := Lib.hid (show Calls Tryz.prog 43 #[bp m, .agg #[.int .i64 id, .int .i64 x, .string ⟨t.toArray⟩]] W1 fun e w' => e = .returned (.tuple #[ptrO (if writeE S id x t = 0 then (findV S id).map Vo.b else none), .int .i64 (writeE S id x t)]) ∧ Same W1 w' from by
    obtain ⟨ow, hM, _⟩ := HM.out.same J1.out
    exact target_any hM ⟨G.k1, G.k8⟩ (fun v hv => G.sizes v hv) id x t hid hx (by omega))
  have HB1 := Lib.hid B1
  have hBl := B1.lt
  clear h G W B1
  go_enter Tryz.func58, Tryz.ntmps58
  go_wp2_with fail
  refine HT.out.mono ?_
  rintro e w2 ⟨rfl, M⟩
  have J2 := Lib.hid (J1.out.same M)
  have HB2 := Lib.hid (HB1.out.mod M (fun q => q))
  clear M HT b0 b1 b2 HB1 hW1
  by_cases hr : writeE S id x t = 0
  · obtain ⟨v, hf, hz, h1, h2⟩ : ∃ v, findV S id = some v ∧ t.length % 16 = 0 ∧ 0 ≤ x ∧ (t.length ≥ 16 ∧ x + (t.length / 16 : Nat) ≤ v.size * S.k) := by
      unfold writeE at hr
      cases hf : findV S id with
      | none => rw [hf] at hr; simp at hr
      | some v =>
        rw [hf] at hr
        dsimp only at hr
        by_cases q : t.length % 16 ≠ 0
        · rw [if_pos q] at hr; simp at hr
        · rw [if_neg q] at hr
          obtain ⟨v', hv', a1, a2, a3, a4⟩ := range_zero hr
          rw [hf] at hv'
          cases hv'
          exact ⟨v, rfl, by omega, a1, by omega, a4⟩
    have hvm := (findV_mem hf).1
    have hsz := HG.out.sizes v hvm
    have hk8 := HG.out.k8
    have hk1 := HG.out.k1
    obtain ⟨xx, rfl⟩ : ∃ xx : Nat, x = (xx : Int) := ⟨x.toNat, by omega⟩
    obtain ⟨N, hN⟩ : ∃ N, t.length / 16 = N := ⟨_, rfl⟩
    obtain ⟨k, hkk⟩ : ∃ k, S.k = k := ⟨_, rfl⟩
    rw [hr] at HR
    simp only [eq_self, if_true, Int.toNat_natCast] at HR
    rw [hr, if_pos rfl, hf]
    dsimp only [ptrO, Option.map]
    have hzk : v.size * (S.k : Int) ≤ 64 * 8 := Int.mul_le_mul hsz.2 (by omega) (by omega) (by omega)
    rw [hN] at h2
    have hxN : xx + N ≤ 512 := by omega
    have HF := Lib.hid hf
    have HX := Lib.hid h2.2
    have b1 := HB2.out.at_ (i := 1) (.int .i64 (xx : Int)) rfl
    have b2 := HB2.out.at_ (i := 2) (.string ⟨t.toArray⟩) rfl
    have HN := Lib.hid hN
    have HK := Lib.hid hkk
    rw [hkk] at hk8 hk1
    have M2 := Lib.hid (HM.out.more J2.out)
    have hBl2 : w.heap.size < w2.heap.size := HB2.out.lt
    have HT16 := Lib.hid (show t.length = 16 * N by omega)
    clear hf hvm hr hid hx hN hkk h1 h2 hzk hz hsz
    go_wp2_with fail
    go_big_quiet (fail)
    go_wp2_with fail
    obtain ⟨w3, hw3⟩ : ∃ z, w2.drewN nq = z := ⟨_, rfl⟩
    have J3 := Lib.hid (show Same w w3 by rw [← hw3]; exact J2.out.drewN _)
    have HB3 := Lib.hid (show Blk w3 w.heap.size #[.int .i64 id, .int .i64 (xx : Int), .string ⟨t.toArray⟩] by rw [← hw3]; exact HB2.out.drewN _)
    have M3 := Lib.hid (show Md Tryz.prog (fun i => K i ∨ (w.heap.size ≤ i ∧ i < w2.heap.size)) w3 m S by rw [← hw3]; exact M2.out.same ((Mod.refl _ _).drewN _))
    have HS3 := Lib.hid (show w3.heap.size = w2.heap.size by rw [← hw3]; rfl)
    rw [hw3]
    clear hw3 b1 b2 M2 J2 HB2
    go_loopw [7, 8] (fun vi vs wr => ∃ (j : Nat) (T : MS), j ≤ N ∧ vi = .int .i64 (j : Int) ∧ vs = .string ⟨(t.drop (16 * j)).toArray⟩ ∧ WrR ((cut16 t).take j) S id xx T ∧ Md Tryz.prog (fun i => K i ∨ (w.heap.size ≤ i ∧ i < w2.heap.size)) wr m T ∧ volsL T.vols = volsL S.vols ∧ Mod (fun i => ¬ (K i ∨ (w.heap.size ≤ i ∧ i < w2.heap.size))) w3 wr) (fun vi _ _ => N - (intOf vi).toNat)
    case atStart => exact ⟨0, S, by omega, rfl, by simp, rfl, M3.out, rfl, Mod.refl _ _⟩
    case round =>
      obtain ⟨j, T, hj, rfl, rfl, hwr, hmd, hvl, hM⟩ := hrel
      have JM := Lib.hid hM
      have HMd := Lib.hid hmd
      have HWr := Lib.hid hwr
      have HVl := Lib.hid hvl
      have HBr := Lib.hid (HB3.out.mod hM (fun q => q (.inr ⟨Nat.le_refl _, hBl2⟩)))
      have b1 := HBr.out.at_ (i := 1) (.int .i64 (xx : Int)) rfl
      have hgw := good_wr (l := (cut16 t).take j) (x := xx) HG.out HW.out HF.out (by
        have hlt : ((cut16 t).take j).length ≤ N := by rw [List.length_take, cut16_len, HN.out]; omega
        have := HX.out
        omega) (fun s hs => cut16_16 t s (List.mem_of_mem_take hs)) hwr
      have HGT := Lib.hid hgw.1
      have HWT := Lib.hid hgw.2.1
      have HIT := Lib.hid hgw.2.2.1
      have hkT : T.k = k := hgw.2.2.2.trans HK.out
      clear hwr hmd hvl hM hgw
      by_cases hlt : j < N
      · obtain ⟨u, hu, hub⟩ := vols_find HVl.out HF.out
        have hum := (findV_mem hu).1
        have husz : u.size = v.size := by
          obtain ⟨u', hu', e⟩ := info_find HIT.out HF.out
          rw [hu] at hu'
          cases hu'
          exact infoV_size e
        obtain ⟨vm, hbm, -, -⟩ := HMd.out.parts
        have k0 := hbm.at_ (i := 0) (.int .i64 (T.k : Int)) rfl
        rw [hkT] at k0
        obtain ⟨xj, hxj⟩ : ∃ xj, xx + j = xj := ⟨_, rfl⟩
        have hw1 : IntKind.i64.wrap ((xx : Int) + (j : Int)) = (xj : Int) := by rw [IntWalk.i64_in _ (by omega)]; omega
        have hpl : ((xj / k : Nat) : Int) < u.size := div_lt_of (by have := HGT.out.sizes u hum; omega) (by
          have := HX.out
          rw [husz, ← HK.out]; omega)
        have hdl := Nat.div_le_self xj k
        have hq : ((xj : Int)).tdiv (k : Int) = ((xj / k : Nat) : Int) := by rw [Int.tdiv_eq_ediv_of_nonneg (by omega)]; rfl
        have hqw : IntKind.i64.wrap ((xj / k : Nat) : Int) = ((xj / k : Nat) : Int) := IntWalk.i64_in _ (by generalize xj / k = z at *; omega)
        have hrq : ((xj : Int)).tmod (k : Int) = ((xj % k : Nat) : Int) := by rw [Int.tmod_eq_emod_of_nonneg (by omega)]; rfl
        have hrl := Nat.mod_lt xj (show 0 < k by omega)
        have hrw : IntKind.i64.wrap ((xj % k : Nat) : Int) = ((xj % k : Nat) : Int) := IntWalk.i64_in _ (by omega)
        have hk0 : ¬ (k : Int) = 0 := by omega
        have hk0b : ((k : Int) == 0) = false := beq_eq_false_iff_ne.2 hk0
        have HO := Lib.hid (fun w' (M : Same wr w') => own_any (v := u) (HMd.out.same M) HGT.out HWT.out hum (xj / k) hpl)
        rw [hub] at HO
        have hdr : t.drop (16 * j) ≠ [] := by
          intro e
          have := congrArg List.length e
          rw [List.length_drop, HT16.out] at this
          simp at this
          omega
        have hne : (t.drop (16 * j)).isEmpty = false := by
          cases hh : t.drop (16 * j) with
          | nil => exact absurd hh hdr
          | cons a r => rfl
        have hdl16 : (t.drop (16 * j)).length = 16 * N - 16 * j := by rw [List.length_drop, HT16.out]
        have h16 : 16 ≤ (t.drop (16 * j)).length := by omega
        have hcc : (16 : Int) ≤ ((t.length - 16 * j : Nat) : Int) := by rw [HT16.out]; omega
        have hkn : ¬ k = 0 := by omega
        have hr0 : 0 ≤ (xj : Int) % (k : Int) := Int.emod_nonneg _ hk0
        have hr1 : (xj : Int) % (k : Int) < (k : Int) := Int.emod_lt_of_pos _ (by omega)
        have hrn : ((xj : Int) % (k : Int)).toNat = xj % k := rfl
        have HKT := Lib.hid hkT
        have HXJ := Lib.hid hxj
        have HPL := Lib.hid hpl
        have HUM := Lib.hid hum
        have HU := Lib.hid hu
        clear hkT hxj husz hub hdl16 hbm hpl hum hu hdr hdl
        go_wp2_with fail
        refine wp_region_held_drew (S := fun w' => w'.cell? ⟨m, 0, none⟩ = some (.int .i64 (k : Int))) (by kernel_rfl) (by (try dsimp only); exact k0) (fun hHeld => ?_)
        refine wpAnyH_take (i := 0) (v := ?_) rfl (by kernel_rfl) (by kernel_rfl) (by kernel_rfl) (fun _ _ _ h => h) (Or.inl ⟨by rfl, ?_⟩) (by assumption) ?_
        rotate_left
        · intro w hSw
          try dsimp only at hSw
          go_simp
          try with_reducible rfl
        try simp only [List.getElem_toArray, List.getElem_cons_succ, List.getElem_cons_zero, Act.put, List.setIfInBounds_toArray, List.set_cons_zero, List.set_cons_succ]
        refine wpAnyH_take (i := 1) (v := ?_) rfl (by kernel_rfl) (by kernel_rfl) (by kernel_rfl) (fun _ _ _ h => h) (Or.inl ⟨by rfl, ?_⟩) (by assumption) ?_
        rotate_left
        · intro w hSw
          try dsimp only at hSw
          go_simp
          try with_reducible rfl
        try simp only [List.getElem_toArray, List.getElem_cons_succ, List.getElem_cons_zero, Act.put, List.setIfInBounds_toArray, List.set_cons_zero, List.set_cons_succ]
        refine wpAnyH_take (i := 2) (v := ?_) rfl (by kernel_rfl) (by kernel_rfl) (by kernel_rfl) (fun _ _ _ h => h) (Or.inl ⟨by rfl, ?_⟩) (by assumption) ?_
        rotate_left
        · intro w hSw
          try dsimp only at hSw
          go_simp
          try with_reducible rfl
        try simp only [List.getElem_toArray, List.getElem_cons_succ, List.getElem_cons_zero, Act.put, List.setIfInBounds_toArray, List.set_cons_zero, List.set_cons_succ]
        refine wpAnyH_take (i := 3) (v := ?_) rfl (by kernel_rfl) (by kernel_rfl) (by kernel_rfl) (fun _ _ _ h => h) (Or.inl ⟨by rfl, ?_⟩) (by assumption) ?_
        rotate_left
        · intro w hSw
          try dsimp only at hSw
          go_simp
          try with_reducible rfl
        try simp only [List.getElem_toArray, List.getElem_cons_succ, List.getElem_cons_zero, Act.put, List.setIfInBounds_toArray, List.set_cons_zero, List.set_cons_succ]
        refine wpAnyH_take (i := 4) (v := ?_) rfl (by kernel_rfl) (by kernel_rfl) (by kernel_rfl) (fun _ _ _ h => h) (Or.inl ⟨by rfl, ?_⟩) (by assumption) ?_
        rotate_left
        · intro w hSw
          try dsimp only at hSw
          go_simp
          try with_reducible rfl
        try simp only [List.getElem_toArray, List.getElem_cons_succ, List.getElem_cons_zero, Act.put, List.setIfInBounds_toArray, List.set_cons_zero, List.set_cons_succ]
        refine wpAnyH_take (i := 5) (v := ?_) rfl (by kernel_rfl) (by kernel_rfl) (by kernel_rfl) (fun _ _ _ h => h) (Or.inl ⟨by rfl, ?_⟩) (by assumption) ?_
        rotate_left
        · intro w hSw
          try dsimp only at hSw
          go_simp
          try with_reducible rfl
        try simp only [List.getElem_toArray, List.getElem_cons_succ, List.getElem_cons_zero, Act.put, List.setIfInBounds_toArray, List.set_cons_zero, List.set_cons_succ]
        refine wpAnyH_take (i := 12) (v := ?_) rfl (by kernel_rfl) (by kernel_rfl) (by kernel_rfl) (fun _ _ _ h => h) (Or.inl ⟨by rfl, ?_⟩) (by assumption) ?_
        rotate_left
        · intro w hSw
          try dsimp only at hSw
          go_simp
          try with_reducible rfl
        try simp only [List.getElem_toArray, List.getElem_cons_succ, List.getElem_cons_zero, Act.put, List.setIfInBounds_toArray, List.set_cons_zero, List.set_cons_succ]
        refine wpAnyH_take (i := 13) (v := ?_) rfl (by kernel_rfl) (by kernel_rfl) (by kernel_rfl) (fun _ _ _ h => h) (Or.inl ⟨by rfl, ?_⟩) (by assumption) ?_
        rotate_left
        · intro w hSw
          try dsimp only at hSw
          go_simp
          try with_reducible rfl
        try simp only [List.getElem_toArray, List.getElem_cons_succ, List.getElem_cons_zero, Act.put, List.setIfInBounds_toArray, List.set_cons_zero, List.set_cons_succ]
        refine wpAnyH_take (i := 14) (v := ?_) rfl (by kernel_rfl) (by kernel_rfl) (by kernel_rfl) (fun _ _ _ h => h) (Or.inl ⟨by rfl, ?_⟩) (by assumption) ?_
        rotate_left
        · intro w hSw
          try dsimp only at hSw
          go_simp
          try with_reducible rfl
        try simp only [List.getElem_toArray, List.getElem_cons_succ, List.getElem_cons_zero, Act.put, List.setIfInBounds_toArray, List.set_cons_zero, List.set_cons_succ]
        refine wpAnyH_take (i := 15) (v := ?_) rfl (by kernel_rfl) (by kernel_rfl) (by kernel_rfl) (fun _ _ _ h => h) (Or.inl ⟨by rfl, ?_⟩) (by assumption) ?_
        rotate_left
        · intro w hSw
          try dsimp only at hSw
          go_simp
          try with_reducible rfl
        try simp only [List.getElem_toArray, List.getElem_cons_succ, List.getElem_cons_zero, Act.put, List.setIfInBounds_toArray, List.set_cons_zero, List.set_cons_succ]
        refine wpAnyH_take (i := 18) (v := ?_) rfl (by kernel_rfl) (by kernel_rfl) (by kernel_rfl) (fun _ _ _ h => h) (Or.inl ⟨by rfl, ?_⟩) (by assumption) ?_
        rotate_left
        · intro w hSw
          try dsimp only at hSw
          go_simp
          try with_reducible rfl
        try simp only [List.getElem_toArray, List.getElem_cons_succ, List.getElem_cons_zero, Act.put, List.setIfInBounds_toArray, List.set_cons_zero, List.set_cons_succ]
        refine wpAnyH_take (i := 19) (v := ?_) rfl (by kernel_rfl) (by kernel_rfl) (by kernel_rfl) (fun _ _ _ h => h) (Or.inl ⟨by rfl, ?_⟩) (by assumption) ?_
        rotate_left
        · intro w hSw
          try dsimp only at hSw
          go_simp
          with_reducible rfl
        try simp only [List.getElem_toArray, List.getElem_cons_succ, List.getElem_cons_zero, Act.put, List.setIfInBounds_toArray, List.set_cons_zero, List.set_cons_succ]
        refine wpAnyH_take (i := 6) (v := ?_) rfl (by kernel_rfl) (by kernel_rfl) (by kernel_rfl) (fun _ _ _ h => h) (Or.inl ⟨by rfl, ?_⟩) (by assumption) ?_
        rotate_left
        · intro w hSw
          try dsimp only at hSw
          go_simp
          try with_reducible rfl
        try simp only [List.getElem_toArray, List.getElem_cons_succ, List.getElem_cons_zero, Act.put, List.setIfInBounds_toArray, List.set_cons_zero, List.set_cons_succ]
        refine wpAnyH_take (i := 16) (v := ?_) rfl (by kernel_rfl) (by kernel_rfl) (by kernel_rfl) (fun _ _ _ h => h) (Or.inl ⟨by rfl, ?_⟩) (by assumption) ?_
        rotate_left
        · intro w hSw
          try dsimp only at hSw
          go_simp
          try with_reducible rfl
        try simp only [List.getElem_toArray, List.getElem_cons_succ, List.getElem_cons_zero, Act.put, List.setIfInBounds_toArray, List.set_cons_zero, List.set_cons_succ]
        refine wpAnyH_take (i := 7) (v := ?_) rfl (by kernel_rfl) (by kernel_rfl) (by kernel_rfl) (fun _ _ _ h => h) (Or.inl ⟨by rfl, ?_⟩) (by assumption) ?_
        rotate_left
        · intro w hSw
          try dsimp only at hSw
          go_simp
          rw [show ((xj : Int) / (k : Int)) = ((xj / k : Nat) : Int) from rfl, hqw]
        try simp only [List.getElem_toArray, List.getElem_cons_succ, List.getElem_cons_zero, Act.put, List.setIfInBounds_toArray, List.set_cons_zero, List.set_cons_succ]
        refine wpAnyH_take (i := 17) (v := ?_) rfl (by kernel_rfl) (by kernel_rfl) (by kernel_rfl) (fun _ _ _ h => h) (Or.inl ⟨by rfl, ?_⟩) (by assumption) ?_
        rotate_left
        · intro w hSw
          try dsimp only at hSw
          go_simp
          rw [show ((xj : Int) % (k : Int)) = ((xj % k : Nat) : Int) from rfl]
        try simp only [List.getElem_toArray, List.getElem_cons_succ, List.getElem_cons_zero, Act.put, List.setIfInBounds_toArray, List.set_cons_zero, List.set_cons_succ]
        refine wpAnyH_ready (rs := [8]) (by kernel_rfl) (by simp) ?_
        refine AllReadyH.cons rfl (fun Kc hKc => ?_) AllReadyH.nil
        go_simp
        refine (HO.out _ (Mod.refl _ _).drew).mono ?_
        rintro e w5 ⟨T2, c, rfl, hown, hmd5, hM5⟩
        have HOw := Lib.hid hown
        have HMd5 := Lib.hid hmd5
        have JM5 := Lib.hid ((JM.out.drew).trans hM5)
        have hlv := own_live HWT.out HGT.out HUM.out HPL.out hown
        have hk5 : T2.k = k := (own_info HWT.out HUM.out hown).2.trans HKT.out
        obtain ⟨g, cap, c0, hgm, hgK, hgc, hgf, hput⟩ := hmd5.chunk hlv.1 hlv.2
        obtain ⟨vm5, hbm5, -, -⟩ := hmd5.parts
        have k5 := hbm5.at_ (i := 0) (.int .i64 (T2.k : Int)) rfl
        rw [hk5] at k5 c0 hgc hput
        have HPut := Lib.hid hput
        obtain ⟨ug, hug⟩ := hgc (xj % k) hrl
        have fg := hgf (xj % k)
        have HK5 := Lib.hid hk5
        clear hown hmd5 hM5 hbm5 hput hgc hgf hlv hk5
        go_wp2_with fail
        refine hKc.out _ _ (by (try dsimp only); exact k5) (fun hHeld => ?_)
        clear hKc Kc
        try simp only [List.getElem_toArray, List.getElem_cons_succ, List.getElem_cons_zero, Act.put, List.setIfInBounds_toArray, List.set_cons_zero, List.set_cons_succ]
        refine wpAnyH_take (i := 9) (v := ?_) rfl (by kernel_rfl) (by kernel_rfl) (by kernel_rfl) (fun _ _ _ h => h) (Or.inl ⟨by rfl, ?_⟩) (by assumption) ?_
        rotate_left
        · intro w hSw
          try dsimp only at hSw
          go_simp
          try with_reducible rfl
        try simp only [List.getElem_toArray, List.getElem_cons_succ, List.getElem_cons_zero, Act.put, List.setIfInBounds_toArray, List.set_cons_zero, List.set_cons_succ]
        refine wpAnyH_take (i := 10) (v := ?_) rfl (by kernel_rfl) (by kernel_rfl) (by kernel_rfl) (fun _ _ _ h => h) (Or.inl ⟨by rfl, ?_⟩) (by assumption) ?_
        rotate_left
        · intro w hSw
          try dsimp only at hSw
          go_simp
          try with_reducible rfl
        try simp only [List.getElem_toArray, List.getElem_cons_succ, List.getElem_cons_zero, Act.put, List.setIfInBounds_toArray, List.set_cons_zero, List.set_cons_succ]
        refine wpAnyH_ready (rs := [11]) (by kernel_rfl) (by simp) ?_
        refine AllReadyH.cons rfl (fun Kc hKc => ?_) AllReadyH.nil
        go_simp
        refine hKc.out _ _ (by (try dsimp only); exact k5) (fun hHeld => ?_)
        clear hKc Kc
        try simp only [List.getElem_toArray, List.getElem_cons_succ, List.getElem_cons_zero, Act.put, List.setIfInBounds_toArray, List.set_cons_zero, List.set_cons_succ]
        refine wpAnyH_take (i := 20) (v := ?_) rfl (by kernel_rfl) (by kernel_rfl) (by kernel_rfl) (fun _ _ _ h => h) (Or.inl ⟨by rfl, ?_⟩) (by assumption) ?_
        rotate_left
        · intro w hSw
          try dsimp only at hSw
          go_simp
          try with_reducible rfl
        try simp only [List.getElem_toArray, List.getElem_cons_succ, List.getElem_cons_zero, Act.put, List.setIfInBounds_toArray, List.set_cons_zero, List.set_cons_succ]
        refine wpAnyH_ready (rs := [21]) (by kernel_rfl) (by simp) ?_
        refine AllReadyH.cons rfl (fun Kc hKc => ?_) AllReadyH.nil
        have k6 : (w5.setCell ⟨g, xj % k, none⟩ (.string ((⟨(t.drop (16 * j)).toArray⟩ : ByteArray).extract 0 16))).cell? ⟨m, 0, none⟩ = some (.int .i64 (k : Int)) := by
          rw [World.cell?_setCell_other _ _ _ _ (fun e => hgm (by injection e))]
          exact k5
        go_simp
        refine hKc.out _ _ (by (try dsimp only); exact k6) (fun hHeld => ?_)
        clear hKc Kc
        try simp only [List.getElem_toArray, List.getElem_cons_succ, List.getElem_cons_zero, Act.put, List.setIfInBounds_toArray, List.set_cons_zero, List.set_cons_succ]
        refine wpAnyH_done (by kernel_rfl) ?_ _
        rw [show (⟨(t.drop (16 * j)).toArray⟩ : ByteArray).extract 0 16 = ⟨((t.drop (16 * j)).take 16).toArray⟩ from ext16 _]
        have P6 := Lib.hid (HPut.out (xj % k) ((t.drop (16 * j)).take 16) hrl)
        have M6 := Lib.hid (JM5.out.setCell (p := ⟨g, xj % k, none⟩) (fun _ => hgK) (.string ⟨((t.drop (16 * j)).take 16).toArray⟩))
        generalize w5.setCell ⟨g, xj % k, none⟩ (.string ⟨((t.drop (16 * j)).take 16).toArray⟩) = w6 at *
        have hj1 : IntKind.i64.wrap ((j : Int) + 1) = ((j + 1 : Nat) : Int) := by rw [IntWalk.i64_in _ (by omega)]; rfl
        go_wp2_with fail
        go_big_quiet (fail)
        have HSet := Lib.hid (show SetR T id (xx + ((cut16 t).take j).length) ((t.drop (16 * j)).take 16) (setC T2 c (xj % k) ((t.drop (16 * j)).take 16)) from by
          have e : xx + ((cut16 t).take j).length = xj := by rw [List.length_take, cut16_len, HN.out, Nat.min_eq_left hj, HXJ.out]
          rw [e]
          refine ⟨u, T2, c, HU.out, ?_, ?_⟩
          · rw [HKT.out]; exact HOw.out
          · rw [HKT.out])
        have HWn := Lib.hid (show WrR ((cut16 t).take (j + 1)) S id xx (setC T2 c (xj % k) ((t.drop (16 * j)).take 16)) from by
          rw [List.take_add_one, cut16_get (by rw [HN.out]; exact hlt)]
          exact HWr.out.snoc HSet.out)
        have HVn := Lib.hid (show volsL (setC T2 c (xj % k) ((t.drop (16 * j)).take 16)).vols = volsL S.vols from (own_vols HWT.out HUM.out HOw.out).trans HVl.out)
        have HDr := Lib.hid (show (⟨(t.drop (16 * j)).toArray⟩ : ByteArray).extract 16 (t.length - 16 * j) = ⟨(t.drop (16 * (j + 1))).toArray⟩ from by
          rw [dro16 _ _ (by rw [List.length_drop]), List.drop_drop, show 16 * j + 16 = 16 * (j + 1) by omega])
        rw [HDr.out]
        go_roundw
        case rel =>
          (repeat apply Exists.intro)
          exact ⟨⟨j + 1, _, by omega, by first | rfl | go_num, rfl, HWn.out, P6.out.same ((Mod.refl _ _).drewN _), HVn.out, M6.out.drewN _⟩, rfl⟩
        case measure => simp [intOf]; omega
      · obtain rfl : N = j := by omega
        have hem : t.drop (16 * N) = [] := List.drop_of_length_le (by rw [HT16.out]; exact Nat.le_refl _)
        have hal : (cut16 t).take N = cut16 t := List.take_of_length_le (by rw [cut16_len, HN.out]; exact Nat.le_refl _)
        have HWr2 := Lib.hid (show WrR (cut16 t) S id xx T by have := HWr.out; rw [hal] at this; exact this)
        have HFin := Lib.hid (HMd.out.less (K' := K) (fun i q => .inl q))
        have MFin := Lib.hid ((J3.out.mono (fun _ _ q => q.elim) : Mod (fun i => ¬ K i) w w3).then_ JM.out (fun i _ q r => q (.inl r)))
        rw [hem]
        clear hem hal
        go_wp2_with fail
        go_wp2
        exact HR.out _ _ ⟨T, rfl, HWr2.out, HFin.out, MFin.out⟩
  · obtain ⟨r, hrr⟩ : ∃ r, writeE S id x t = r := ⟨_, rfl⟩
    have HE := Lib.hid hrr
    rw [hrr] at HR hr ⊢
    have hrb : (r != 0) = true := by simp [hr]
    clear hrr hid hx
    rw [if_neg hr]
    dsimp only [ptrO, Option.map]
    go_wp2_with fail
    go_wp2
    exact HR.out _ _ ⟨S, rfl, by rw [if_neg hr], HM.out.same J2.out, J2.out.mono (fun _ _ q => q.elim)⟩
end
end Go.Proofs.YtlcepoagpocadaaGreatDoor
set_option maxRecDepth 100000
/- Sectors are discarded. -/
namespace Go.Proofs.YtlcepoagpocadaaGreatDoor
open Go Go.RowKit
section
variable {K : Nat → Prop} {w : World} {m : Nat} {S : MS} {v v' : Vo}
/-- A place's chunk is released. -/
theorem release_md (h : Md Tryz.prog K w m S) (G : Good S) (W : Wf S) (hv : v ∈ S.vols) (p : Int) (hp : I64 p) :
    Calls Tryz.prog 91 #[bp v.b, .int .i64 p] w fun e w' => e = .returned (.tuple #[]) ∧ Md Tryz.prog K w' m (putS S { v with pl := delL p v.pl }) ∧ Mod (fun i => ¬ K i) w w' := by
  obtain ⟨ow, hM, hcn⟩ := h
  have hb : ∀ c, getL p v.pl = some c → 1 ≤ ow c ∧ ow c ≤ 1000000 := fun c hc => by
    have h1 := live_get hv hc
    have h2 := hcn c h1
    have h3 := cnt_le G W c
    omega
  refine (release_any hM hv p hp hb).mono ?_
  rintro e w' ⟨he, hM', hD⟩
  refine ⟨he, ⟨_, hM', fun e he => ?_⟩, hD⟩
  have hq := cnt_dels W hv p e
  have he : 0 < cnt (repV { v with pl := delL p v.pl } S.vols) e := he
  show _ = (cnt (repV { v with pl := delL p v.pl } S.vols) e : Int)
  cases hg : getL p v.pl with
  | none =>
    rw [hg] at hq
    simp only [reduceCtorEq, if_false] at hq
    dsimp only
    have := hcn e (by omega)
    omega
  | some d =>
    rw [hg] at hq
    dsimp only
    by_cases qd : e = d
    · subst qd
      rw [if_pos rfl] at hq
      rw [upd_same]
      have := hcn e (by omega)
      omega
    · rw [if_neg (fun r => qd (Option.some.inj r).symm)] at hq
      rw [upd_ne _ _ qd]
      have := hcn e (by omega)
      omega
theorem cell_lt {w : World} {b o : Nat} {v : Value} (h : w.cell? ⟨b, o, none⟩ = some v) : b < w.heap.size := by
  rcases Nat.lt_or_ge b w.heap.size with q | q
  · exact q
  · simp [World.cell?, Array.getElem?_eq_none q] at h
set_option maxHeartbeats 8000000 in
theorem discard_any (h : Md Tryz.prog K w m S) (G : Good S) (W : Wf S) (id x n : Int) (hid : I64 id) (hx : I64 x) (hn : I64 n) :
    Calls Tryz.prog 59 #[bp m, .agg #[.int .i64 id, .int .i64 x, .int .i64 n]] w fun e w' => ∃ S', e = .returned (.int .i64 (rangeS S id x n)) ∧ (if rangeS S id x n = 0 then DisR S id x.toNat n.toNat n.toNat S' else S' = S) ∧ Md Tryz.prog K w' m S' ∧ Mod (fun i => ¬ K i) w w' := by
  refine opq fun R HR => ?_
  have HM := Lib.hid h
  have HG := Lib.hid G
  have HW := Lib.hid W
  obtain ⟨W1, hW1⟩ : ∃ z, (w.alloc (.cells #[.int .i64 id, .int .i64 x, .int .i64 n] 42)) = z := ⟨_, rfl⟩
  have J1 := Lib.hid (show Same w W1 by rw [← hW1]; exact (Mod.refl _ _).alloc _)
  have B1 : Blk W1 w.heap.size #[.int .i64 id, .int .i64 x, .int .i64 n] := by rw [← hW1]; exact Blk.new w _ 42
  have b0 := B1.at_ (i := 0) (.int .i64 id) rfl
  have b1 := B1.at_ (i := 1) (.int .i64 x) rfl
  have b2 := B1.at_ (i := 2) (.int .i64 n) rfl
  have HT := Lib.hid (show Calls Tryz.prog 46 #[bp m, .int .i64 id, .int .i64 x, .int .i64 n] W1 fun e w' => e = .returned (.tuple #[ptrO (if rangeS S id x n = 0 then (findV S id).map Vo.b else none), .int .i64 (rangeS S id x n)]) ∧ Same W1 w' from by
    obtain ⟨ow, hM, _⟩ := HM.out.same J1.out
    exact within_any hM ⟨G.k1, G.k8⟩ (fun v hv => G.sizes v hv) id x n hid hx hn)
  have HB1 := Lib.hid B1
  have hBl := B1.lt
  clear h G W B1
  go_enter Tryz.func59, Tryz.ntmps59
  go_wp2_with fail
  refine HT.out.mono ?_
  rintro e w2 ⟨rfl, M⟩
  have J2 := Lib.hid (J1.out.same M)
  have HB2 := Lib.hid (HB1.out.mod M (fun q => q))
  clear M HT b0 b1 b2 HB1 hW1
  by_cases hr : rangeS S id x n = 0
  · obtain ⟨v, hf, h1, h2, h3, h4⟩ := range_zero hr
    have hvm := (findV_mem hf).1
    have hsz := HG.out.sizes v hvm
    have hk8 := HG.out.k8
    have hk1 := HG.out.k1
    obtain ⟨xx, rfl⟩ : ∃ xx : Nat, x = (xx : Int) := ⟨x.toNat, by omega⟩
    obtain ⟨N, rfl⟩ : ∃ N : Nat, n = (N : Int) := ⟨n.toNat, by omega⟩
    obtain ⟨k, hkk⟩ : ∃ k, S.k = k := ⟨_, rfl⟩
    rw [hr] at HR
    simp only [eq_self, if_true, Int.toNat_natCast] at HR
    rw [hr, if_pos rfl, hf]
    dsimp only [ptrO, Option.map]
    have hzk : v.size * (S.k : Int) ≤ 64 * 8 := Int.mul_le_mul hsz.2 (by omega) (by omega) (by omega)
    have hxN : xx + N ≤ 512 := by omega
    have HF := Lib.hid hf
    have HX := Lib.hid h4
    have b1 := HB2.out.at_ (i := 1) (.int .i64 (xx : Int)) rfl
    have b2 := HB2.out.at_ (i := 2) (.int .i64 (N : Int)) rfl
    have HK := Lib.hid hkk
    rw [hkk] at hk8 hk1
    have M2 := Lib.hid (HM.out.more J2.out)
    have hBl2 : w.heap.size < w2.heap.size := HB2.out.lt
    clear hf hvm hr hid hx hn hkk h1 h2 h3 h4 hzk hsz
    have hwe : IntKind.i64.wrap ((xx : Int) + (N : Int)) = ((xx + N : Nat) : Int) := by rw [IntWalk.i64_in _ (by omega)]; simp
    go_wp2_with fail
    go_loopw [7] (fun vi wr => ∃ (j : Nat) (T : MS), j ≤ N ∧ vi = .int .i64 ((xx + j : Nat) : Int) ∧ DisR S id xx N j T ∧ Md Tryz.prog (fun i => K i ∨ (w.heap.size ≤ i ∧ i < w2.heap.size)) wr m T ∧ volsL T.vols = volsL S.vols ∧ Mod (fun i => ¬ (K i ∨ (w.heap.size ≤ i ∧ i < w2.heap.size))) w2 wr) (fun vi _ => xx + N - (intOf vi).toNat)
    case atStart => exact ⟨0, S, by omega, rfl, rfl, M2.out, rfl, Mod.refl _ _⟩
    case round =>
      obtain ⟨j, T, hj, rfl, hwr, hmd, hvl, hM⟩ := hrel
      have JM := Lib.hid hM
      have HMd := Lib.hid hmd
      have HWr := Lib.hid hwr
      have HVl := Lib.hid hvl
      have HBr := Lib.hid (HB2.out.mod hM (fun q => q (.inr ⟨Nat.le_refl _, hBl2⟩)))
      have b1 := HBr.out.at_ (i := 1) (.int .i64 (xx : Int)) rfl
      have b2 := HBr.out.at_ (i := 2) (.int .i64 (N : Int)) rfl
      have hgw := good_disR (a := xx) (n := N) HG.out HW.out HF.out j (by have := HX.out; omega) hwr
      have HGT := Lib.hid hgw.1
      have HWT := Lib.hid hgw.2.1
      have HIT := Lib.hid hgw.2.2.1
      have hkT : T.k = k := hgw.2.2.2.trans HK.out
      clear hwr hmd hvl hM hgw
      obtain ⟨xj, hxj⟩ : ∃ xj, xx + j = xj := ⟨_, rfl⟩
      have HXJ := Lib.hid hxj
      rw [hxj]
      clear hxj
      by_cases hlt : j < N
      · obtain ⟨u, hu, hub⟩ := vols_find HVl.out HF.out
        have hum := (findV_mem hu).1
        have husz : u.size = v.size := by
          obtain ⟨u', hu', e⟩ := info_find HIT.out HF.out
          rw [hu] at hu'
          cases hu'
          exact infoV_size e
        obtain ⟨vm, hbm, -, hvb⟩ := HMd.out.parts
        have k0 := hbm.at_ (i := 0) (.int .i64 (T.k : Int)) rfl
        rw [hkT] at k0
        have hxl : xj < xx + N := by have := HXJ.out; omega
        have hpl : ((xj / k : Nat) : Int) < u.size := div_lt_of (by have := HGT.out.sizes u hum; omega) (by
          have := HX.out
          rw [husz, ← HK.out]; omega)
        have hdl := Nat.div_le_self xj k
        have hpI : I64 ((xj / k : Nat) : Int) := I64.of (by generalize xj / k = z at *; omega)
        have hlk := look106 (hvb u hum).2 hpI
        have e5 := (hvb u hum).1.at_ (i := 5) (.map (some u.pb)) rfl
        rw [hub] at e5
        have hq : ((xj : Int)).tdiv (k : Int) = ((xj / k : Nat) : Int) := by rw [Int.tdiv_eq_ediv_of_nonneg (by omega)]; rfl
        have hqw : IntKind.i64.wrap ((xj / k : Nat) : Int) = ((xj / k : Nat) : Int) := IntWalk.i64_in _ (by generalize xj / k = z at *; omega)
        have hrq : ((xj : Int)).tmod (k : Int) = ((xj % k : Nat) : Int) := by rw [Int.tmod_eq_emod_of_nonneg (by omega)]; rfl
        have hrl := Nat.mod_lt xj (show 0 < k by omega)
        have hrw : IntKind.i64.wrap ((xj % k : Nat) : Int) = ((xj % k : Nat) : Int) := IntWalk.i64_in _ (by omega)
        have hk0 : ¬ (k : Int) = 0 := by omega
        have hk0b : ((k : Int) == 0) = false := beq_eq_false_iff_ne.2 hk0
        have hkn : ¬ k = 0 := by omega
        have hr0 : 0 ≤ (xj : Int) % (k : Int) := Int.emod_nonneg _ hk0
        have hr1 : (xj : Int) % (k : Int) < (k : Int) := Int.emod_lt_of_pos _ (by omega)
        have hrn : ((xj : Int) % (k : Int)).toNat = xj % k := rfl
        have hx1 : IntKind.i64.wrap ((xj : Int) + 1) = ((xj + 1 : Nat) : Int) := by rw [IntWalk.i64_in _ (by omega)]; rfl
        have HXL := Lib.hid hxl
        have HO := Lib.hid (fun w' (M : Same wr w') => own_any (v := u) (HMd.out.same M) HGT.out HWT.out hum (xj / k) hpl)
        have HRel := Lib.hid (show Calls Tryz.prog 91 #[bp v.b, .int .i64 ((xj / k : Nat) : Int)] wr fun e w' => e = .returned (.tuple #[]) ∧ Md Tryz.prog (fun i => K i ∨ (w.heap.size ≤ i ∧ i < w2.heap.size)) w' m (putS T { u with pl := delL ((xj / k : Nat) : Int) u.pl }) ∧ Mod (fun i => ¬ (K i ∨ (w.heap.size ≤ i ∧ i < w2.heap.size))) wr w' from by
          rw [← hub]
          exact release_md HMd.out HGT.out HWT.out hum ((xj / k : Nat) : Int) hpI)
        have HWh := Lib.hid (show Calls Tryz.prog 48 #[bp m, .int .i64 (xx : Int), .int .i64 (N : Int), .int .i64 ((xj / k : Nat) : Int)] wr fun e w' => e = .returned (.bool (wholeS k xx N (xj / k))) ∧ w' = wr from by
          obtain ⟨ow, hMm, _⟩ := HMd.out
          have := whole_any hMm (by rw [hkT]; exact ⟨hk1, hk8⟩) xx N (xj / k) (by omega) (by omega) (by omega)
          rw [hkT] at this
          exact this)
        have HZ := Lib.hid (fun w' => zero_any w')
        unfold strV at HZ
        rw [hub] at HO
        have HKT := Lib.hid hkT
        have HPL := Lib.hid hpl
        have HUM := Lib.hid hum
        have HU := Lib.hid hu
        have HStep := Lib.hid (fun T' (hs : DisS T id xx N xj T') => (⟨T, HWr.out, by rw [show xx + j = xj from HXJ.out]; exact hs⟩ : DisR S id xx N (j + 1) T'))
        clear hkT husz hub hbm hpl hum hu hdl hxl hvb
        have hlx : xj < xx + N := HXL.out
        obtain ⟨z, hz⟩ : ∃ z, xj / k = z := ⟨_, rfl⟩
        have HZE := Lib.hid hz
        have hzb : z ≤ 512 := by have := Nat.div_le_self xj k; omega
        rw [hz] at hpI hlk hq hqw HO HRel HWh HPL
        clear hz
        cases hg : getL (z : Int) u.pl with
        | none =>
          rw [hg] at hlk
          dsimp only [ptrO, Option.map] at hlk
          have HS := Lib.hid (HStep.out T ⟨u, HU.out, by rw [HKT.out, HZE.out, hg]⟩)
          clear hg
          go_wp2_with fail
          go_roundw
          case rel => exact ⟨j + 1, _, by omega, by rw [← HXJ.out]; first | rfl | go_num, HS.out, HMd.out, HVl.out, JM.out⟩
          case measure => simp [intOf]; omega
        | some d =>
          rw [hg] at hlk
          dsimp only [ptrO, Option.map] at hlk
          have HGg := Lib.hid hg
          clear hg
          go_wp2_with fail
          refine HWh.out.mono ?_
          rintro e w3 ⟨rfl, rfl⟩
          cases hwh : wholeS k xx N z with
          | true =>
            have HS := Lib.hid (HStep.out (putS T { u with pl := delL (z : Int) u.pl }) ⟨u, HU.out, by rw [HKT.out, HZE.out, HGg.out]; dsimp only; rw [if_pos hwh]⟩)
            have HVn := Lib.hid (show volsL (putS T { u with pl := delL (z : Int) u.pl }).vols = volsL S.vols from (volsL_rep (v := u) (v' := { u with pl := delL (z : Int) u.pl }) HWT.out.nd HUM.out rfl rfl).trans HVl.out)
            clear hwh
            go_wp2_with fail
            refine HRel.out.mono ?_
            rintro e w5 ⟨rfl, hm5, hM5⟩
            have HM5 := Lib.hid hm5
            have JM5 := Lib.hid (JM.out.trans hM5)
            clear hm5 hM5
            go_wp2_with fail
            go_roundw
            case rel => exact ⟨j + 1, _, by omega, by rw [← HXJ.out]; first | rfl | go_num, HS.out, HM5.out, HVn.out, JM5.out⟩
            case measure => simp [intOf]; omega
          | false =>
            have HNW := Lib.hid hwh
            clear hwh
            go_wp2_with fail
            refine wp_region_held_drew (S := fun w' => w'.cell? ⟨m, 0, none⟩ = some (.int .i64 (k : Int))) (by kernel_rfl) (by (try dsimp only); exact k0) (fun hHeld => ?_)
            refine wpAnyH_take (i := 0) (v := ?_) rfl (by kernel_rfl) (by kernel_rfl) (by kernel_rfl) (fun _ _ _ h => h) (Or.inl ⟨by rfl, ?_⟩) (by assumption) ?_
            rotate_left
            · intro w hSw
              try dsimp only at hSw
              go_simp
              try with_reducible rfl
            try simp only [List.getElem_toArray, List.getElem_cons_succ, List.getElem_cons_zero, Act.put, List.setIfInBounds_toArray, List.set_cons_zero, List.set_cons_succ]
            refine wpAnyH_take (i := 1) (v := ?_) rfl (by kernel_rfl) (by kernel_rfl) (by kernel_rfl) (fun _ _ _ h => h) (Or.inl ⟨by rfl, ?_⟩) (by assumption) ?_
            rotate_left
            · intro w hSw
              try dsimp only at hSw
              go_simp
              try with_reducible rfl
            try simp only [List.getElem_toArray, List.getElem_cons_succ, List.getElem_cons_zero, Act.put, List.setIfInBounds_toArray, List.set_cons_zero, List.set_cons_succ]
            refine wpAnyH_take (i := 2) (v := ?_) rfl (by kernel_rfl) (by kernel_rfl) (by kernel_rfl) (fun _ _ _ h => h) (Or.inl ⟨by rfl, ?_⟩) (by assumption) ?_
            rotate_left
            · intro w hSw
              try dsimp only at hSw
              go_simp
              try with_reducible rfl
            try simp only [List.getElem_toArray, List.getElem_cons_succ, List.getElem_cons_zero, Act.put, List.setIfInBounds_toArray, List.set_cons_zero, List.set_cons_succ]
            refine wpAnyH_take (i := 7) (v := ?_) rfl (by kernel_rfl) (by kernel_rfl) (by kernel_rfl) (fun _ _ _ h => h) (Or.inl ⟨by rfl, ?_⟩) (by assumption) ?_
            rotate_left
            · intro w hSw
              try dsimp only at hSw
              go_simp
              try with_reducible rfl
            try simp only [List.getElem_toArray, List.getElem_cons_succ, List.getElem_cons_zero, Act.put, List.setIfInBounds_toArray, List.set_cons_zero, List.set_cons_succ]
            refine wpAnyH_take (i := 8) (v := ?_) rfl (by kernel_rfl) (by kernel_rfl) (by kernel_rfl) (fun _ _ _ h => h) (Or.inl ⟨by rfl, ?_⟩) (by assumption) ?_
            rotate_left
            · intro w hSw
              try dsimp only at hSw
              go_simp
              try with_reducible rfl
            try simp only [List.getElem_toArray, List.getElem_cons_succ, List.getElem_cons_zero, Act.put, List.setIfInBounds_toArray, List.set_cons_zero, List.set_cons_succ]
            refine wpAnyH_take (i := 9) (v := ?_) rfl (by kernel_rfl) (by kernel_rfl) (by kernel_rfl) (fun _ _ _ h => h) (Or.inl ⟨by rfl, ?_⟩) (by assumption) ?_
            rotate_left
            · intro w hSw
              try dsimp only at hSw
              go_simp
              try with_reducible rfl
            try simp only [List.getElem_toArray, List.getElem_cons_succ, List.getElem_cons_zero, Act.put, List.setIfInBounds_toArray, List.set_cons_zero, List.set_cons_succ]
            refine wpAnyH_take (i := 10) (v := ?_) rfl (by kernel_rfl) (by kernel_rfl) (by kernel_rfl) (fun _ _ _ h => h) (Or.inl ⟨by rfl, ?_⟩) (by assumption) ?_
            rotate_left
            · intro w hSw
              try dsimp only at hSw
              go_simp
              try with_reducible rfl
            try simp only [List.getElem_toArray, List.getElem_cons_succ, List.getElem_cons_zero, Act.put, List.setIfInBounds_toArray, List.set_cons_zero, List.set_cons_succ]
            refine wpAnyH_take (i := 11) (v := ?_) rfl (by kernel_rfl) (by kernel_rfl) (by kernel_rfl) (fun _ _ _ h => h) (Or.inl ⟨by rfl, ?_⟩) (by assumption) ?_
            rotate_left
            · intro w hSw
              try dsimp only at hSw
              go_simp
              try with_reducible rfl
            try simp only [List.getElem_toArray, List.getElem_cons_succ, List.getElem_cons_zero, Act.put, List.setIfInBounds_toArray, List.set_cons_zero, List.set_cons_succ]
            refine wpAnyH_take (i := 12) (v := ?_) rfl (by kernel_rfl) (by kernel_rfl) (by kernel_rfl) (fun _ _ _ h => h) (Or.inl ⟨by rfl, ?_⟩) (by assumption) ?_
            rotate_left
            · intro w hSw
              try dsimp only at hSw
              go_simp
              rw [show ((xj : Int) % (k : Int)) = ((xj % k : Nat) : Int) from rfl]
            try simp only [List.getElem_toArray, List.getElem_cons_succ, List.getElem_cons_zero, Act.put, List.setIfInBounds_toArray, List.set_cons_zero, List.set_cons_succ]
            refine wpAnyH_ready (rs := [3]) (by kernel_rfl) (by simp) ?_
            refine AllReadyH.cons rfl (fun Kc hKc => ?_) AllReadyH.nil
            go_simp
            refine (HO.out _ (Mod.refl _ _).drew).mono ?_
            rintro e w5 ⟨T2, c, rfl, hown, hmd5, hM5⟩
            have HOw := Lib.hid hown
            have HMd5 := Lib.hid hmd5
            have JM5 := Lib.hid ((JM.out.drew).trans hM5)
            have HLv := Lib.hid (own_live HWT.out HGT.out HUM.out HPL.out hown)
            have hk5 : T2.k = k := (own_info HWT.out HUM.out hown).2.trans HKT.out
            obtain ⟨g, cap, c0, hgm, hgK, hgc, hgf, hput⟩ := hmd5.chunk HLv.out.1 HLv.out.2
            obtain ⟨vm5, hbm5, -, -⟩ := hmd5.parts
            have k5 := hbm5.at_ (i := 0) (.int .i64 (T2.k : Int)) rfl
            rw [hk5] at k5 c0
            have HK5 := Lib.hid hk5
            clear hown hmd5 hM5 hbm5 hput hgc hgf hk5
            go_wp2_with fail
            refine hKc.out _ _ (by (try dsimp only); exact k5) (fun hHeld => ?_)
            clear hKc Kc
            try simp only [List.getElem_toArray, List.getElem_cons_succ, List.getElem_cons_zero, Act.put, List.setIfInBounds_toArray, List.set_cons_zero, List.set_cons_succ]
            refine wpAnyH_take (i := 4) (v := ?_) rfl (by kernel_rfl) (by kernel_rfl) (by kernel_rfl) (fun _ _ _ h => h) (Or.inl ⟨by rfl, ?_⟩) (by assumption) ?_
            rotate_left
            · intro w hSw
              try dsimp only at hSw
              go_simp
              try with_reducible rfl
            try simp only [List.getElem_toArray, List.getElem_cons_succ, List.getElem_cons_zero, Act.put, List.setIfInBounds_toArray, List.set_cons_zero, List.set_cons_succ]
            refine wpAnyH_take (i := 5) (v := ?_) rfl (by kernel_rfl) (by kernel_rfl) (by kernel_rfl) (fun _ _ _ h => h) (Or.inl ⟨by rfl, ?_⟩) (by assumption) ?_
            rotate_left
            · intro w hSw
              try dsimp only at hSw
              go_simp
              try with_reducible rfl
            try simp only [List.getElem_toArray, List.getElem_cons_succ, List.getElem_cons_zero, Act.put, List.setIfInBounds_toArray, List.set_cons_zero, List.set_cons_succ]
            refine wpAnyH_ready (rs := [6, 13]) (by kernel_rfl) (by simp) ?_
            refine AllReadyH.cons rfl (fun Kc hKc => ?_) (AllReadyH.cons rfl (fun Kc hKc => ?_) (AllReadyH.nil))
            · go_simp
              refine hKc.out _ _ (by (try dsimp only); exact k5) (fun hHeld => ?_)
              clear hKc Kc
              try simp only [List.getElem_toArray, List.getElem_cons_succ, List.getElem_cons_zero, Act.put, List.setIfInBounds_toArray, List.set_cons_zero, List.set_cons_succ]
              refine wpAnyH_ready (rs := [13]) (by kernel_rfl) (by simp) ?_
              refine AllReadyH.cons rfl (fun Kc hKc => ?_) AllReadyH.nil
              go_simp
              refine (HZ.out _).mono ?_
              rintro e w6 ⟨rfl, M⟩
              have c06 := (M.cell (cell_lt c0) (fun q => q) 0).trans c0
              have k6 := (M.cell (cell_lt k5) (fun q => q) 0).trans k5
              have JM6 := Lib.hid (JM5.out.same M)
              have HMd6 := Lib.hid (HMd5.out.same M)
              obtain ⟨g6, cap6, c07, hgm6, hgK6, hgc6, hgf6, hput6⟩ := HMd6.out.chunk HLv.out.1 HLv.out.2
              rw [HK5.out, c06] at c07
              injection c07 with c07
              injection c07 with e1 _ e2
              injection e1 with e1
              injection e1 with e1
              subst e1
              rw [HK5.out] at hgc6 hput6
              have HPut := Lib.hid hput6
              obtain ⟨ug, hug⟩ := hgc6 (xj % k) hrl
              have fg := hgf6 (xj % k)
              clear M hgc6 hgf6 hput6 hgm6 hgK6 e2
              go_wp2_with fail
              refine hKc.out _ _ (by (try dsimp only); exact k6) (fun hHeld => ?_)
              clear hKc Kc
              try simp only [List.getElem_toArray, List.getElem_cons_succ, List.getElem_cons_zero, Act.put, List.setIfInBounds_toArray, List.set_cons_zero, List.set_cons_succ]
              refine wpAnyH_take (i := 14) (v := ?_) rfl (by kernel_rfl) (by kernel_rfl) (by kernel_rfl) (fun _ _ _ h => h) (Or.inl ⟨by rfl, ?_⟩) (by assumption) ?_
              rotate_left
              · intro w hSw
                try dsimp only at hSw
                go_simp
                try with_reducible rfl
              try simp only [List.getElem_toArray, List.getElem_cons_succ, List.getElem_cons_zero, Act.put, List.setIfInBounds_toArray, List.set_cons_zero, List.set_cons_succ]
              refine wpAnyH_ready (rs := [15]) (by kernel_rfl) (by simp) ?_
              refine AllReadyH.cons rfl (fun Kc hKc => ?_) AllReadyH.nil
              have k7 : (w6.setCell ⟨g, xj % k, none⟩ (.string ⟨zero16.toArray⟩)).cell? ⟨m, 0, none⟩ = some (.int .i64 (k : Int)) := by
                rw [World.cell?_setCell_other _ _ _ _ (fun e => hgm (by injection e))]
                exact k6
              go_simp
              refine hKc.out _ _ (by (try dsimp only); exact k7) (fun hHeld => ?_)
              clear hKc Kc
              try simp only [List.getElem_toArray, List.getElem_cons_succ, List.getElem_cons_zero, Act.put, List.setIfInBounds_toArray, List.set_cons_zero, List.set_cons_succ]
              refine wpAnyH_done (by kernel_rfl) ?_ _
              have P6 := Lib.hid (HPut.out (xj % k) zero16 hrl)
              have M6 := Lib.hid (JM6.out.setCell (p := ⟨g, xj % k, none⟩) (fun _ => hgK) (.string ⟨zero16.toArray⟩))
              have HSet := Lib.hid (show SetR T id xj zero16 (setC T2 c (xj % k) zero16) from by
                refine ⟨u, T2, c, HU.out, ?_, ?_⟩
                · rw [HKT.out, HZE.out]; exact HOw.out
                · rw [HKT.out])
              have HS := Lib.hid (HStep.out (setC T2 c (xj % k) zero16) ⟨u, HU.out, by rw [HKT.out, HZE.out, HGg.out]; dsimp only; rw [if_neg (by rw [HNW.out]; exact Bool.false_ne_true)]; exact HSet.out⟩)
              have HVn := Lib.hid (show volsL (setC T2 c (xj % k) zero16).vols = volsL S.vols from (own_vols HWT.out HUM.out HOw.out).trans HVl.out)
              generalize w6.setCell ⟨g, xj % k, none⟩ (.string ⟨zero16.toArray⟩) = w7 at *
              go_wp2_with fail
              go_roundw
              case rel => exact ⟨j + 1, _, by omega, by rw [← HXJ.out]; first | rfl | go_num, HS.out, P6.out, HVn.out, M6.out⟩
              case measure => simp [intOf]; omega
            · go_simp
              refine (HZ.out _).mono ?_
              rintro e w6 ⟨rfl, M⟩
              have c06 := (M.cell (cell_lt c0) (fun q => q) 0).trans c0
              have k6 := (M.cell (cell_lt k5) (fun q => q) 0).trans k5
              have JM6 := Lib.hid (JM5.out.same M)
              have HMd6 := Lib.hid (HMd5.out.same M)
              obtain ⟨g6, cap6, c07, hgm6, hgK6, hgc6, hgf6, hput6⟩ := HMd6.out.chunk HLv.out.1 HLv.out.2
              rw [HK5.out, c06] at c07
              injection c07 with c07
              injection c07 with e1 _ e2
              injection e1 with e1
              injection e1 with e1
              subst e1
              rw [HK5.out] at hgc6 hput6
              have HPut := Lib.hid hput6
              obtain ⟨ug, hug⟩ := hgc6 (xj % k) hrl
              have fg := hgf6 (xj % k)
              clear M hgc6 hgf6 hput6 hgm6 hgK6 e2
              go_wp2_with fail
              refine hKc.out _ _ (by (try dsimp only); exact k6) (fun hHeld => ?_)
              clear hKc Kc
              try simp only [List.getElem_toArray, List.getElem_cons_succ, List.getElem_cons_zero, Act.put, List.setIfInBounds_toArray, List.set_cons_zero, List.set_cons_succ]
              refine wpAnyH_ready (rs := [6]) (by kernel_rfl) (by simp) ?_
              refine AllReadyH.cons rfl (fun Kc hKc => ?_) AllReadyH.nil
              go_simp
              refine hKc.out _ _ (by (try dsimp only); exact k6) (fun hHeld => ?_)
              clear hKc Kc
              try simp only [List.getElem_toArray, List.getElem_cons_succ, List.getElem_cons_zero, Act.put, List.setIfInBounds_toArray, List.set_cons_zero, List.set_cons_succ]
              refine wpAnyH_take (i := 14) (v := ?_) rfl (by kernel_rfl) (by kernel_rfl) (by kernel_rfl) (fun _ _ _ h => h) (Or.inl ⟨by rfl, ?_⟩) (by assumption) ?_
              rotate_left
              · intro w hSw
                try dsimp only at hSw
                go_simp
                try with_reducible rfl
              try simp only [List.getElem_toArray, List.getElem_cons_succ, List.getElem_cons_zero, Act.put, List.setIfInBounds_toArray, List.set_cons_zero, List.set_cons_succ]
              refine wpAnyH_ready (rs := [15]) (by kernel_rfl) (by simp) ?_
              refine AllReadyH.cons rfl (fun Kc hKc => ?_) AllReadyH.nil
              have k7 : (w6.setCell ⟨g, xj % k, none⟩ (.string ⟨zero16.toArray⟩)).cell? ⟨m, 0, none⟩ = some (.int .i64 (k : Int)) := by
                rw [World.cell?_setCell_other _ _ _ _ (fun e => hgm (by injection e))]
                exact k6
              go_simp
              refine hKc.out _ _ (by (try dsimp only); exact k7) (fun hHeld => ?_)
              clear hKc Kc
              try simp only [List.getElem_toArray, List.getElem_cons_succ, List.getElem_cons_zero, Act.put, List.setIfInBounds_toArray, List.set_cons_zero, List.set_cons_succ]
              refine wpAnyH_done (by kernel_rfl) ?_ _
              have P6 := Lib.hid (HPut.out (xj % k) zero16 hrl)
              have M6 := Lib.hid (JM6.out.setCell (p := ⟨g, xj % k, none⟩) (fun _ => hgK) (.string ⟨zero16.toArray⟩))
              have HSet := Lib.hid (show SetR T id xj zero16 (setC T2 c (xj % k) zero16) from by
                refine ⟨u, T2, c, HU.out, ?_, ?_⟩
                · rw [HKT.out, HZE.out]; exact HOw.out
                · rw [HKT.out])
              have HS := Lib.hid (HStep.out (setC T2 c (xj % k) zero16) ⟨u, HU.out, by rw [HKT.out, HZE.out, HGg.out]; dsimp only; rw [if_neg (by rw [HNW.out]; exact Bool.false_ne_true)]; exact HSet.out⟩)
              have HVn := Lib.hid (show volsL (setC T2 c (xj % k) zero16).vols = volsL S.vols from (own_vols HWT.out HUM.out HOw.out).trans HVl.out)
              generalize w6.setCell ⟨g, xj % k, none⟩ (.string ⟨zero16.toArray⟩) = w7 at *
              go_wp2_with fail
              go_roundw
              case rel => exact ⟨j + 1, _, by omega, by rw [← HXJ.out]; first | rfl | go_num, HS.out, P6.out, HVn.out, M6.out⟩
              case measure => simp [intOf]; omega
      · obtain rfl : N = j := by omega
        have HXE := Lib.hid (show xj = xx + N from HXJ.out.symm)
        have hge : ¬ (xj : Int) < ((xx + N : Nat) : Int) := by rw [HXE.out]; omega
        have hge2 : ¬ xj < xx + N := by rw [HXE.out]; omega
        have HFin := Lib.hid (HMd.out.less (K' := K) (fun i q => .inl q))
        have MFin := Lib.hid ((J2.out.mono (fun _ _ q => q.elim) : Mod (fun i => ¬ K i) w w2).then_ JM.out (fun i _ q r => q (.inl r)))
        go_wp2_with fail
        go_wp2
        exact HR.out _ _ ⟨T, rfl, HWr.out, HFin.out, MFin.out⟩
  · obtain ⟨r, hrr⟩ : ∃ r, rangeS S id x n = r := ⟨_, rfl⟩
    have HE := Lib.hid hrr
    rw [hrr] at HR hr ⊢
    have hrb : (r != 0) = true := by simp [hr]
    clear hrr hid hx hn
    rw [if_neg hr]
    dsimp only [ptrO, Option.map]
    go_wp2_with fail
    go_wp2
    exact HR.out _ _ ⟨S, rfl, by rw [if_neg hr], HM.out.same J2.out, J2.out.mono (fun _ _ q => q.elim)⟩
end
end Go.Proofs.YtlcepoagpocadaaGreatDoor
set_option maxRecDepth 100000
/- A volume is trimmed, removed, resized. -/
namespace Go.Proofs.YtlcepoagpocadaaGreatDoor
open Go Go.RowKit
def trimJ (n : Int) (ks : List Int) (L : List (Int × Nat)) : List (Int × Nat) := L.filter fun x => !(decide (n ≤ x.1) && ks.contains x.1)
theorem trimJ_nil (n : Int) (L : List (Int × Nat)) : trimJ n [] L = L := by
  unfold trimJ
  rw [List.filter_eq_self]
  intro x _
  simp
theorem trimJ_hit {n a : Int} (ks : List Int) (L : List (Int × Nat)) (h : n ≤ a) : delL a (trimJ n ks L) = trimJ n (ks ++ [a]) L := by
  unfold delL trimJ
  rw [List.filter_filter]
  apply List.filter_congr
  intro x _
  by_cases q : x.1 = a
  · simp [q, h]
  · by_cases r : x.1 ∈ ks
    · simp [q, r]
    · simp [q, r]
theorem trimJ_miss {n a : Int} (ks : List Int) (L : List (Int × Nat)) (h : ¬ n ≤ a) : trimJ n ks L = trimJ n (ks ++ [a]) L := by
  unfold trimJ
  apply List.filter_congr
  intro x _
  by_cases q : x.1 = a
  · rw [q]; simp [h]
  · simp [q]
theorem trimJ_all {n : Int} {ks : List Int} {L : List (Int × Nat)} (h : ks.Perm (L.map (·.1))) : trimJ n ks L = trimL n L := by
  unfold trimJ trimL
  apply List.filter_congr
  intro x hx
  have : x.1 ∈ ks := h.mem_iff.2 (List.mem_map.2 ⟨x, hx, rfl⟩)
  by_cases q : n ≤ x.1
  · simp [this, q]
  · simp [this, q]; omega
theorem putS_twice {S : MS} {v' v'' : Vo} (e : v''.id = v'.id) : putS (putS S v'') v' = putS S v' := by
  unfold putS
  simp only [repV_twice e]
theorem putS_self {S : MS} (W : Wf S) {v : Vo} (hv : v ∈ S.vols) : putS S v = S := by
  unfold putS
  rw [show repV v S.vols = S.vols by
    unfold repV
    conv => rhs; rw [← List.map_id S.vols]
    apply List.map_congr_left
    intro u hu
    by_cases q : u.id = v.id
    · rw [if_pos q, pw_ne W.nd hu hv q]; rfl
    · rw [if_neg q]; rfl]
section
variable {K : Nat → Prop} {w : World} {m : Nat} {S : MS} {v v' : Vo}
theorem Md.lt (h : Md Tryz.prog K w m S) : ∀ i, K i → i < w.heap.size := by
  obtain ⟨ow, ⟨H, vm, hH, hK, hlt, A⟩, _⟩ := h
  exact hlt
set_option maxHeartbeats 8000000 in
theorem trim_any (h : Md Tryz.prog K w m S) (G : Good S) (W : Wf S) (hv : v ∈ S.vols) (n : Int) (hn : I64 n) :
    Calls Tryz.prog 88 #[bp v.b, .int .i64 n] w fun e w' => e = .returned (.tuple #[]) ∧ Md Tryz.prog K w' m (putS S { v with pl := trimL n v.pl }) ∧ Mod (fun i => ¬ K i) w w' := by
  refine opq fun R HR => ?_
  have HM := Lib.hid h
  have HG := Lib.hid G
  have HW := Lib.hid W
  have HV := Lib.hid hv
  obtain ⟨vm, -, -, hvb⟩ := h.parts
  have e5 := (hvb v hv).1.at_ (i := 5) (.map (some v.pb)) rfl
  have HI := Lib.hid (hvb v hv).2
  have hll : v.pl.length ≤ 64 := by
    have h2 := Rise.len (t := 0) (n := v.size) (G.rise v hv) (G.keys v hv) (G.sizes v hv).1
    have h3 := (G.sizes v hv).2
    omega
  have J0 := Lib.hid (show Same w (w.alloc (.cells #[.map (some v.pb)] 106)) from (Mod.refl _ _).alloc _)
  have hBl : w.heap.size < (w.alloc (.cells #[.map (some v.pb)] 106)).heap.size := (Blk.new w #[.map (some v.pb)] 106).lt
  have HCo := Lib.hid (collectC_any (HI.out.mod J0.out (fun q => q)) hBl ((Blk.new w #[.map (some v.pb)] 106).at_ (i := 0) (.map (some v.pb)) rfl) (by omega))
  clear h hvb G W hv
  go_enter Tryz.func88, Tryz.ntmps88
  go_wp2_with fail
  refine (keysC_any _ _).mono ?_
  rintro e w1 ⟨rfl, rfl⟩
  go_wp2_with fail
  refine HCo.out.mono ?_
  rintro e w2 ⟨vr, ss, rfl, hp, hrow, M⟩
  have J2 := Lib.hid (J0.out.same M)
  have RI := Lib.hid hrow
  have HP := Lib.hid hp
  obtain ⟨ai, ci, rfl⟩ := owns_slice hrow
  have hlen : ss.length = v.pl.length := by have := hp.length_eq; simpa using this
  obtain ⟨N, hN⟩ : ∃ N, ss.length = N := ⟨_, rfl⟩
  have HN := Lib.hid hN
  have hN64 : N ≤ 64 := by omega
  rw [hN]
  clear M hrow HCo hp hlen hN e5
  generalize w.alloc _ = W1 at *
  have M2 := Lib.hid (HM.out.more J2.out)
  go_wp2_with fail
  go_loopw [13] (fun vi wr => ∃ j : Nat, j ≤ N ∧ vi = .int .i64 (j : Int) ∧ Md Tryz.prog (fun i => K i ∨ (w.heap.size ≤ i ∧ i < w2.heap.size)) wr m (putS S { v with pl := trimJ n (ss.take j) v.pl }) ∧ Mod (fun i => ¬ (K i ∨ (w.heap.size ≤ i ∧ i < w2.heap.size))) w2 wr) (fun vi _ => N - (intOf vi).toNat)
  case atStart => exact ⟨0, by omega, rfl, by rw [List.take_zero, trimJ_nil, putS_self HW.out HV.out]; exact M2.out, Mod.refl _ _⟩
  case round =>
    obtain ⟨j, hj, rfl, hmd, hM⟩ := hrel
    have JM := Lib.hid hM
    have HMd := Lib.hid hmd
    clear hM hmd
    by_cases hlt : j < N
    · obtain ⟨g, cap, hvv, hgb, hgc, hrw⟩ := RowV.of_owns RI.out (by rw [HN.out]; omega)
      have hga : ai = some ⟨g, 0, none⟩ := by injection hvv
      have HGA := Lib.hid hga
      obtain ⟨a, ha⟩ : ∃ a, ss[j]? = some a := ⟨_, List.getElem?_eq_getElem (by rw [HN.out]; exact hlt)⟩
      have hge : w.heap.size ≤ g := by have := J0.out.size; omega
      have e0 := (JM.out.cell hrw.lt (fun q => q (.inr ⟨hge, hrw.lt⟩)) j).trans (hrw.cell j (by rw [HN.out]; omega))
      rw [show ((ss.map fun x => Value.int .i64 x)).getD j undef = .int .i64 a by
        rw [List.getD_eq_getElem?_getD, List.getElem?_map, ha]; rfl] at e0
      have haI : I64 a := by
        obtain ⟨x, hx, e⟩ := List.mem_map.1 (HP.out.mem_iff.1 (List.mem_of_getElem? ha))
        have := HG.out.keys v HV.out x hx
        have h2 := HG.out.sizes v HV.out
        rw [← e]
        exact I64.of (by omega)
      have HT := Lib.hid (show ss.take (j + 1) = ss.take j ++ [a] by rw [List.take_add_one, ha]; rfl)
      subst hga
      clear ha hvv hrw hgb hgc
      by_cases hna : n ≤ a
      · have d1 : decide (a ≥ n) = true := decide_eq_true hna
        have d1' : decide (n ≤ a) = true := decide_eq_true hna
        have HRel := Lib.hid (show Calls Tryz.prog 91 #[bp v.b, .int .i64 a] wr fun e w' => e = .returned (.tuple #[]) ∧ Md Tryz.prog (fun i => K i ∨ (w.heap.size ≤ i ∧ i < w2.heap.size)) w' m (putS S { v with pl := trimJ n (ss.take (j + 1)) v.pl }) ∧ Mod (fun i => ¬ (K i ∨ (w.heap.size ≤ i ∧ i < w2.heap.size))) wr w' from by
          have hr : Rise (trimJ n (ss.take j) v.pl) := List.Pairwise.filter _ (HG.out.rise v HV.out)
          have hsub : ∀ x ∈ trimJ n (ss.take j) v.pl, x ∈ v.pl := fun x hx => (List.mem_filter.1 hx).1
          have := release_md (v := { v with pl := trimJ n (ss.take j) v.pl }) HMd.out (HG.out.rep (v := v) HV.out rfl (HG.out.sizes v HV.out) hr (fun x hx => HG.out.keys v HV.out x (hsub x hx)) hsub) (HW.out.put (v := { v with pl := trimJ n (ss.take j) v.pl }) hr) (mem_rep (v := v) HV.out rfl) a haI
          refine this.mono ?_
          rintro e w' ⟨h1, h2, h3⟩
          refine ⟨h1, ?_, h3⟩
          dsimp only at h2
          rw [putS_twice (v' := { v with pl := delL a (trimJ n (ss.take j) v.pl) }) (v'' := { v with pl := trimJ n (ss.take j) v.pl }) rfl, trimJ_hit _ _ hna, ← HT.out] at h2
          exact h2)
        go_wp2_with fail
        refine HRel.out.mono ?_
        rintro e w5 ⟨rfl, hm5, hM5⟩
        have HM5 := Lib.hid hm5
        have JM5 := Lib.hid (JM.out.trans hM5)
        clear hm5 hM5
        go_wp2_with fail
        go_roundw
        case rel => exact ⟨j + 1, by omega, by first | rfl | go_num, HM5.out, JM5.out⟩
        case measure => simp [intOf]; omega
      · have d1 : decide (a ≥ n) = false := decide_eq_false hna
        have d1' : decide (n ≤ a) = false := decide_eq_false hna
        have HMn := Lib.hid (show Md Tryz.prog (fun i => K i ∨ (w.heap.size ≤ i ∧ i < w2.heap.size)) wr m (putS S { v with pl := trimJ n (ss.take (j + 1)) v.pl }) from by
          rw [HT.out, ← trimJ_miss _ _ hna]; exact HMd.out)
        go_wp2_with fail
        go_roundw
        case rel => exact ⟨j + 1, by omega, by first | rfl | go_num, HMn.out, JM.out⟩
        case measure => simp [intOf]; omega
    · obtain rfl : N = j := by omega
      have HFin := Lib.hid (show Md Tryz.prog K wr m (putS S { v with pl := trimL n v.pl }) from by
        have h2 := HMd.out.less (K' := K) (fun i q => .inl q)
        rw [List.take_of_length_le (by rw [HN.out]; exact Nat.le_refl _), trimJ_all HP.out] at h2
        exact h2)
      have MFin := Lib.hid ((J2.out.mono (fun _ _ q => q.elim) : Mod (fun i => ¬ K i) w w2).then_ JM.out (fun i _ q r => q (.inl r)))
      go_wp2_with fail
      go_end0
      exact HR.out _ _ ⟨rfl, HFin.out, MFin.out⟩
end
end Go.Proofs.YtlcepoagpocadaaGreatDoor
set_option maxRecDepth 100000
/- A volume is removed, resized. -/
namespace Go.Proofs.YtlcepoagpocadaaGreatDoor
open Go Go.RowKit
section
variable {K : Nat → Prop} {w w' : World} {m : Nat} {S : MS} {v v' : Vo}
theorem Md.put_cell (h : Md Tryz.prog K w m S) (hv : v ∈ S.vols) {i : Nat} {u : Value} (e1 : v'.id = v.id) (e2 : v'.b = v.b) (e3 : v'.pb = v.pb) (e4 : v'.pl = v.pl) (hc : (volC v).setIfInBounds i u = volC v') (nd : S.vols.Pairwise fun a b => a.id < b.id) :
    Md Tryz.prog K (w.setCell ⟨v.b, i, none⟩ u) m (putS S v') ∧ Mod (fun i => ¬ K i) w (w.setCell ⟨v.b, i, none⟩ u) := by
  obtain ⟨ow, hM, hcn⟩ := h
  have := hM.put_cell hv e1 e2 e3 e4 hc
  refine ⟨⟨ow, this.1, fun c hc => ?_⟩, this.2⟩
  have h1 := cnt_rep (v := v) (v' := v') c nd hv e1
  rw [e4] at h1
  have hc : 0 < cnt (repV v' S.vols) c := hc
  show _ = (cnt (repV v' S.vols) c : Int)
  have := hcn c (by omega)
  omega
theorem Md.del_vol (h : Md Tryz.prog K w m S) (nd : S.vols.Pairwise fun a b => a.id < b.id) (hv : v ∈ S.vols) (hpl : v.pl = []) {vm : Nat} (c1 : w.cell? ⟨m, 1, none⟩ = some (.map (some vm))) (hi : IMap Tryz.prog 3 w' vm (delL v.id (volsL S.vols))) (hg : w.grownBy w' (some vm)) :
    Md Tryz.prog K w' m { S with vols := remV v.id S.vols } ∧ ¬ K vm := by
  obtain ⟨ow, ⟨H, vm', hH, hK, hlt, A⟩, hcn⟩ := h
  obtain rfl := vm_eq c1 H vm' hH A
  have hKv : ¬ K vm' := hK vm' (by rw [A.hv]; simp)
  refine ⟨⟨ow, ⟨_, vm', hH.turn' (b := vm') (o := .mp m (delL v.id (volsL S.vols))) hg (fun k hk => (Option.some.inj hk).symm) hi, fun b hb => ?_, fun i q => Nat.lt_of_lt_of_le (hlt i q) hg.size, A.less v.id rfl⟩, fun c hc => ?_⟩, hKv⟩
  · by_cases q : b = vm'
    · rw [q]; exact hKv
    · rw [upd_ne _ _ q] at hb; exact hK b hb
  · have h1 := cnt_rem c nd hv
    rw [hpl] at h1
    have hc : 0 < cnt (remV v.id S.vols) c := hc
    show _ = (cnt (remV v.id S.vols) c : Int)
    have e : cntL c [] = 0 := rfl
    have := hcn c (by omega)
    omega
theorem remV_rep {v' : Vo} (l : List Vo) : remV v'.id (repV v' l) = remV v'.id l := by
  unfold remV repV
  induction l with
  | nil => rfl
  | cons y r ih =>
    rw [List.map_cons, List.filter_cons, List.filter_cons, ih]
    by_cases q : y.id = v'.id
    · simp [q]
    · simp [q]
theorem Md.look (h : Md Tryz.prog K w m S) {id : Int} (hid : I64 id) : ∃ vm, w.cell? ⟨m, 1, none⟩ = some (.map (some vm)) ∧ m < w.heap.size ∧ IMap Tryz.prog 3 w vm (volsL S.vols) ∧ ∀ n, (Instr.lookup 109 (.map (some vm)) (.int .i64 id) false).run Tryz.prog (w.drewN n) = .ok (ptrO ((findV S id).map Vo.b)) (w.drewN n) := by
  obtain ⟨vm, hb, hm, -⟩ := h.parts
  exact ⟨vm, hb.at_ (i := 1) (.map (some vm)) rfl, hb.lt, hm, fun n => look_vol hm hid n⟩
set_option maxHeartbeats 4000000 in
theorem remove_any (h : Md Tryz.prog K w m S) (G : Good S) (W : Wf S) (id : Int) (hid : I64 id) :
    Calls Tryz.prog 53 #[bp m, .int .i64 id] w fun e w' => e = .returned (.int .i64 (deleteS S id).1) ∧ Md Tryz.prog K w' m (deleteS S id).2 ∧ Mod (fun i => ¬ K i) w w' := by
  refine opq fun R HR => ?_
  have HM := Lib.hid h
  obtain ⟨vm, k1, hml, hm, hlk⟩ := h.look hid
  have hlk := hlk 0
  rw [show w.drewN 0 = w from rfl] at hlk
  unfold deleteS at HR
  cases hf : findV S id with
  | none =>
    rw [hf] at hlk HR
    dsimp only [ptrO, Option.map] at hlk HR
    clear hm hf G W
    go_enter Tryz.func53, Tryz.ntmps53
    go_wp2_with fail
    go_wp2
    exact HR.out _ _ ⟨rfl, HM.out, Mod.refl _ _⟩
  | some v =>
    rw [hf] at hlk HR
    dsimp only [ptrO, Option.map] at hlk HR
    obtain ⟨hv, rfl⟩ := findV_mem hf
    have HT := Lib.hid (trim_any h G W hv 0 (I64.of (by omega)))
    have hz : trimL 0 v.pl = [] := by
      unfold trimL
      rw [List.filter_eq_nil_iff]
      intro x hx
      have := (G.keys v hv x hx).1
      simp; omega
    rw [hz] at HT
    have HW := Lib.hid W
    have HV := Lib.hid hv
    have HID := Lib.hid hid
    clear hm hf G W h hv hz
    go_enter Tryz.func53, Tryz.ntmps53
    go_wp2_with fail
    refine HT.out.mono ?_
    rintro e w1 ⟨rfl, hm1, hM1⟩
    have HM1 := Lib.hid hm1
    have JM1 := Lib.hid hM1
    obtain ⟨vm1, k1b, hml1, hmv1, -⟩ := hm1.look HID.out
    have hvl : volsL (putS S { v with pl := [] }).vols = volsL S.vols := volsL_rep (v := v) (v' := { v with pl := [] }) HW.out.nd HV.out rfl rfl
    have HVL := Lib.hid hvl
    have HMV := Lib.hid hmv1
    clear hm1 hM1 hmv1 hvl HT
    go_wp2_with (first | (at_delete; refine wpList_delete_own _ rfl _ _ 109 3 rfl 102 law3 Tryz.underlying109 ptrR vm1 (volsL (putS S { v with pl := [] }).vols).length (DM (volsL (putS S { v with pl := [] }).vols)) rfl HMV.out _ _ rfl (key3 HID.out) ?_; intro w2 hown hturn) | go_in)
    rw [del_enc] at hown
    have hfin := HM1.out.del_vol (v := { v with pl := [] }) (pw_ids (rep_ids { v with pl := [] } S.vols) HW.out.nd) (mem_rep (v := v) HV.out rfl) rfl k1b (imap_tight hown) hturn.grown
    have HFin := Lib.hid (show Md Tryz.prog K w2 m { S with vols := remV v.id S.vols } from by
      have h2 := hfin.1
      have e := remV_rep (v' := { v with pl := [] }) S.vols
      dsimp only at e h2
      have e2 : (putS S { v with pl := [] }).vols = repV { v with pl := [] } S.vols := rfl
      rw [e2, e] at h2
      exact h2)
    have MFin := Lib.hid (JM1.out.grown hturn.grown (fun k hk _ => by rw [← Option.some.inj hk]; exact hfin.2))
    clear hown hturn hfin
    go_wp2
    exact HR.out _ _ ⟨rfl, HFin.out, MFin.out⟩
end
end Go.Proofs.YtlcepoagpocadaaGreatDoor
set_option maxRecDepth 100000
/- A volume is resized. -/
namespace Go.Proofs.YtlcepoagpocadaaGreatDoor
open Go Go.RowKit
section
variable {K : Nat → Prop} {w w' : World} {m : Nat} {S : MS} {v v' : Vo}
set_option maxHeartbeats 4000000 in
theorem resize_any (h : Md Tryz.prog K w m S) (G : Good S) (W : Wf S) (id size : Int) (hid : I64 id) (hsz : I64 size) :
    Calls Tryz.prog 55 #[bp m, .agg #[.int .i64 id, .int .i64 size]] w fun e w' => e = .returned (.int .i64 (resizeS S id size).1) ∧ Md Tryz.prog K w' m (resizeS S id size).2 ∧ Mod (fun i => ¬ K i) w w' := by
  refine opq fun R HR => ?_
  have HM := Lib.hid h
  obtain ⟨W1, hW1⟩ : ∃ z, (w.alloc (.cells #[.int .i64 id, .int .i64 size] 137)) = z := ⟨_, rfl⟩
  have J1 := Lib.hid (show Same w W1 by rw [← hW1]; exact (Mod.refl _ _).alloc _)
  have B1 : Blk W1 w.heap.size #[.int .i64 id, .int .i64 size] := by rw [← hW1]; exact Blk.new w _ 137
  have b0 := B1.at_ (i := 0) (.int .i64 id) rfl
  have b1 := B1.at_ (i := 1) (.int .i64 size) rfl
  have HM1 := Lib.hid (HM.out.more J1.out)
  obtain ⟨vm, k1, hml, -, hlk⟩ := HM1.out.look hid
  have HB1 := Lib.hid B1
  have hBl := B1.lt
  unfold resizeS at HR
  clear h B1 hid
  cases hf : findV S id with
  | none =>
    rw [hf] at hlk HR
    dsimp only [ptrO, Option.map] at hlk HR
    clear hf G W
    go_enter Tryz.func55, Tryz.ntmps55
    go_wp2_with fail
    go_big_quiet (fail)
    go_wp2_with fail
    go_wp2
    exact HR.out _ _ ⟨rfl, HM.out.same (J1.out.drewN _), (J1.out.drewN _).mono (fun _ _ q => q.elim)⟩
  | some v =>
    rw [hf] at hlk HR
    dsimp only [ptrO, Option.map] at hlk HR
    obtain ⟨hv, rfl⟩ := findV_mem hf
    have HG := Lib.hid G
    have HW := Lib.hid W
    have HV := Lib.hid hv
    have HS := Lib.hid hsz
    clear hf G W hv hsz
    by_cases q1 : size < 0
    · have d1 : decide (size < 0) = true := decide_eq_true q1
      rw [if_pos (.inl q1)] at HR
      go_enter Tryz.func55, Tryz.ntmps55
      go_wp2_with fail
      go_big_quiet (fail)
      go_wp2_with fail
      go_wp2
      exact HR.out _ _ ⟨rfl, HM.out.same (J1.out.drewN _), (J1.out.drewN _).mono (fun _ _ q => q.elim)⟩
    · have d1 : decide (size < 0) = false := decide_eq_false q1
      by_cases q2 : 64 < size
      · have d2 : decide (64 < size) = true := decide_eq_true q2
        have d2' : decide (size > 64) = true := d2
        rw [if_pos (.inr q2)] at HR
        go_enter Tryz.func55, Tryz.ntmps55
        go_wp2_with fail
        go_big_quiet (fail)
        go_wp2_with fail
        go_wp2
        exact HR.out _ _ ⟨rfl, HM.out.same (J1.out.drewN _), (J1.out.drewN _).mono (fun _ _ q => q.elim)⟩
      · have d2 : decide (64 < size) = false := decide_eq_false q2
        have d2' : decide (size > 64) = false := d2
        rw [if_neg (fun r => r.elim q1 q2)] at HR
        have HT := Lib.hid (fun w' (M : Same W1 w') => trim_any (v := v) (HM1.out.same M) HG.out HW.out HV.out size HS.out)
        go_enter Tryz.func55, Tryz.ntmps55
        go_wp2_with fail
        go_big_quiet (fail)
        go_wp2_with fail
        refine (HT.out _ ((Mod.refl _ _).drewN nq)).mono ?_
        rintro e w2 ⟨rfl, hm2, hM2⟩
        have HM2 := Lib.hid hm2
        have JM2 := Lib.hid hM2
        have B2 := (HB1.out.drewN nq).mod hM2 (fun q => q (.inr ⟨Nat.le_refl _, hBl⟩))
        have c1 := B2.at_ (i := 1) (.int .i64 size) rfl
        obtain ⟨vm2, -, -, hv2⟩ := hm2.parts
        have hv3 : ({ v with pl := trimL size v.pl } : Vo) ∈ (putS S { v with pl := trimL size v.pl }).vols := mem_rep (v := v) HV.out rfl
        have hb2 := (hv2 _ hv3).1
        have v1 := hb2.at_ (i := 1) (.int .i64 v.size) rfl
        have f1 := hb2.free 1
        dsimp only at v1 f1
        have hput := HM2.out.put_cell hv3 (i := 1) (u := .int .i64 size) (v' := { v with size := size, pl := trimL size v.pl }) rfl rfl rfl rfl rfl (pw_ids (rep_ids { v with pl := trimL size v.pl } S.vols) HW.out.nd)
        rw [putS_twice (v' := { v with size := size, pl := trimL size v.pl }) (v'' := { v with pl := trimL size v.pl }) rfl] at hput
        have HPut := Lib.hid hput
        clear hm2 hM2 B2 hv2 hv3 hb2 hput HT
        go_wp2_with fail
        go_wp2
        exact HR.out _ _ ⟨rfl, HPut.out.1.less (fun i q => .inl q), ((J1.out.drewN _).mono (fun _ _ q => q.elim) : Mod (fun i => ¬ K i) w _).then_ (JM2.out.trans HPut.out.2) (fun i _ q r => q (.inl r))⟩
theorem pin_md (h : Md Tryz.prog K w m S) (W : Wf S) (id : Int) (hid : I64 id) (is : Bool) :
    Calls Tryz.prog 56 #[bp m, .int .i64 id, .bool is] w fun e w' => e = .returned (.int .i64 (pinS S id is).1) ∧ Md Tryz.prog K w' m (pinS S id is).2 ∧ Mod (fun i => ¬ K i) w w' := by
  obtain ⟨ow, hM, hcn⟩ := h
  refine (pin_any hM id hid is).mono ?_
  rintro e w' ⟨h1, h2, h3⟩
  refine ⟨h1, ⟨ow, h2, ?_⟩, h3⟩
  unfold pinS
  cases hf : findV S id with
  | none => exact hcn
  | some v =>
    dsimp only
    intro c hc
    have hv := (findV_mem hf).1
    have h1 := cnt_rep (v := v) (v' := { v with pin := is }) c W.nd hv rfl
    have hc : 0 < cnt (repV { v with pin := is } S.vols) c := hc
    show _ = (cnt (repV { v with pin := is } S.vols) c : Int)
    dsimp only at h1
    have := hcn c (by omega)
    omega
theorem create_md (h : Md Tryz.prog K w m S) (G : Good S) (W : Wf S) (id size : Int) (hid : I64 id) (hsz : I64 size) :
    Calls Tryz.prog 52 #[bp m, .agg #[.int .i64 id, .int .i64 size]] w fun e w' => ∃ b pb, e = .returned (.int .i64 (createS S id size b pb).1) ∧ Md Tryz.prog K w' m (createS S id size b pb).2 ∧ Mod (fun i => ¬ K i) w w' := by
  obtain ⟨ow, hM, hcn⟩ := h
  refine (create_any hM (vols_len G W) id size hid hsz).mono ?_
  rintro e w' ⟨b, pb, h1, h2, h3⟩
  refine ⟨b, pb, h1, ⟨ow, h2, ?_⟩, h3⟩
  by_cases q : id < 1 ∨ 16 < id ∨ size < 0 ∨ 64 < size
  · rw [createS_arg q]; exact hcn
  · cases hf : findV S id with
    | some u => rw [createS_dup q hf]; exact hcn
    | none =>
      rw [createS_new q hf]
      intro c hc
      have h1 : cnt (insV ⟨b, pb, id, size, 0, false, []⟩ S.vols) c = cnt S.vols c := by rw [cnt_ins]; simp [cntL]
      have hc : 0 < cnt (insV ⟨b, pb, id, size, 0, false, []⟩ S.vols) c := hc
      show _ = (cnt (insV ⟨b, pb, id, size, 0, false, []⟩ S.vols) c : Int)
      rw [h1] at hc ⊢
      exact hcn c hc
end
end Go.Proofs.YtlcepoagpocadaaGreatDoor
