import Derived.Test.YtlcepoagpocadaaGreatDoorWtI
set_option linter.unusedSimpArgs false
set_option linter.unusedVariables false
set_option maxRecDepth 100000
/- Whether an order and its answer go on. -/
namespace Go.Proofs.YtlcepoagpocadaaGreatDoor
open Go Go.RowKit
theorem okO_of {o : OW} (h : o.form) (hf : o.fits = true) : OkO o := ⟨h, fun t ht => by
  have := List.all_eq_true.1 hf t ht
  have := of_decide_eq_true this
  omega⟩
theorem set_keep {w : World} {x i b j : Nat} {u v : Value} (h : w.cell? ⟨b, j, none⟩ = some u) (hne : b ≠ x ∨ j ≠ i) : (w.setCell ⟨x, i, none⟩ v).cell? ⟨b, j, none⟩ = some u :=
  (World.cell?_setCell_other _ _ _ _ (fun e => by
    injection e with e1 e2
    rcases hne with q | q
    · exact q e1.symm
    · exact q e2.symm)).trans h
set_option maxHeartbeats 16000000 in
theorem goes_order {B : Nat} {w : World} {x : Nat} {sl sz : Int} {s : WS} (h : Wt B w x sl sz s) (hL : LibT w) (ev : Ev) (ok : EvOk s ev) (vv dv : Value) (hv : TvS w vv ev.vols) (hd : TxS w dv ev.dump) (hk : ev.o.k ≠ 14) (hsl : s.since.length ≤ 9999) :
    Calls Tryz.prog 36 #[bp x, .agg (evC ev.o ev.er ev.d vv ev.gen dv)] w fun e w' => ∃ r, e = .returned (.bool r.isSome) ∧ GoR s ev r ∧ (∀ s', r = some s' → Wt B w' x sl sz s') ∧ Mod (fun i => B ≤ i) w w' := by
  refine opq fun R HR => ?_
  obtain ⟨hO, mn, mp, ma, sv, Kn, Kp, hw⟩ := h
  have HW := Lib.hid hw
  have HO := Lib.hid hO
  have HT := Lib.hid (fun W (M : Same w W) => text_ok ev.o ok.form ok.fits W (hL.same M).tab)
  have n45 := fun W => no45 W (kT ev.o.k) (.agg (ordC ev.o)) (kT_45 ok.form.lt hk)
  obtain ⟨h4, h5, h6⟩ := ok.e4 hk
  have HA := Lib.hid (fun W (M : Same w W) => answered_any _ _ _ _ _ _ _ (hw.blk.mod M (fun q => q)) (hw.now.same M) hO.gn hO.wn (hL.same M) ev vv dv ok.form h4 h5 h6 (hv.same M) (hd.same M) ok.vl ok.dl)
  have HOK := Lib.hid ok
  unfold evC at HA ⊢
  unfold ordW at HA HT ⊢
  obtain ⟨sn, sp, g, ss⟩ := s
  obtain ⟨eo, er, ed, evs, eg, edu⟩ := ev
  dsimp only at HT HA n45 h4 h5 h6 hsl hk HR ⊢
  have hb4 : (er == 4) = false := by simpa using h4
  have hgr := (show 0 ≤ g ∧ g ≤ 1000 from ⟨hO.g0, hO.g1⟩)
  have hwr : IntKind.i64.wrap (g + 1) = g + 1 := IntWalk.i64_in _ (by omega)
  obtain ⟨U, hU⟩ : ∃ U, kT eo.k = U := ⟨_, rfl⟩
  obtain ⟨V, hV⟩ : ∃ V, Value.agg (ordC eo) = V := ⟨_, rfl⟩
  have HUV := Lib.hid (show ordW eo = .iface U V by unfold ordW; rw [hU, hV])
  rw [hU, hV] at HA HT n45 ⊢
  have N0 := Lib.hid (show Same w (w.alloc (.cells #[.iface U V, .int .i64 er, .string ⟨ed.toArray⟩, vv, .int .i64 eg, dv] 34)) from (Mod.refl _ _).alloc _)
  have HBX := Lib.hid (Blk.new w #[.iface U V, .int .i64 er, .string ⟨ed.toArray⟩, vv, .int .i64 eg, dv] 34)
  clear hw hO ok hv hd hL hU hV
  unfold bp at *
  go_enter Tryz.func36, Tryz.ntmps36
  go_wp2_with fail
  refine (HT.out _ N0.out).mono ?_
  rintro e w1 ⟨rfl, M⟩
  have N1 := Lib.hid (N0.out.same M)
  have HB1 := Lib.hid (HBX.out.mod M (fun q => q))
  have HX1 := Lib.hid (HW.out.blk.mod N1.out (fun q => q))
  have q0 := HB1.out.at_ (i := 0) _ rfl
  have q1 := HB1.out.at_ (i := 1) _ rfl
  have x3 := HX1.out.at_ (i := 3) _ rfl
  have l1 := HB1.out.lt
  have lx := HX1.out.lt
  clear M
  go_upto_region 10 with fail
  obtain ⟨w2, hw2⟩ : ∃ z, w1.alloc (.cells #[.string ⟨#[]⟩, .string ⟨#[]⟩, .string ⟨#[]⟩] 45) = z := ⟨_, rfl⟩
  rw [hw2]
  have N2 := Lib.hid (show Same w w2 by rw [← hw2]; exact N1.out.alloc _)
  have HB2 := Lib.hid (show Blk w2 w.heap.size #[.iface U V, .int .i64 er, .string ⟨ed.toArray⟩, vv, .int .i64 eg, dv] by rw [← hw2]; exact HB1.out.alloc _)
  have HX2 := Lib.hid (HW.out.blk.mod N2.out (fun q => q))
  have l2 : w.heap.size < w2.heap.size := HB2.out.lt
  have lx2 := HX2.out.lt
  have q4 := HB2.out.at_ (i := 4) _ rfl
  have x4 := HX2.out.at_ (i := 4) _ rfl
  clear hw2 q0 q1 x3 l1 lx HB1 HX1
  by_cases hgd : eg = g ∨ eg = g + 1
  case neg =>
    have hb : (eg != g) = true := by simp; omega
    have hb2 : (eg != g + 1) = true := by simp; omega
    go_quiet (fail)
    go_wp2_with fail
    exact HR.out _ _ ⟨none, rfl, .inr ⟨hk, .inl ⟨hgd, rfl⟩⟩, (fun s' q => by cases q), (N2.out.mono (fun _ _ q => q.elim)).drewN _⟩
  go_cut [60] (fun v wx => v = .bool false ∧ Same w2 wx)
  case first =>
    clear HR
    by_cases hge : eg = g
    · have hb : (eg != g) = false := by simpa using hge
      clear hge hgd
      go_quiet (fail)
      go_wp2_with fail
      go_meet
      case rel => exact ⟨rfl, (Mod.refl _ _).drewN _⟩
    · have hb : (eg != g) = true := by simpa using hge
      have hb2 : (eg != g + 1) = false := by simp; omega
      clear hge hgd
      go_quiet (fail)
      go_wp2_with fail
      go_meet
      case rel => exact ⟨rfl, (Mod.refl _ _).drewN _⟩
  case rest =>
    obtain ⟨rfl, hMc⟩ := hcut
    obtain ⟨w3, hw3⟩ : ∃ z, z = wc := ⟨_, rfl⟩
    subst hw3
    have N3 := Lib.hid (N2.out.same hMc)
    have HB3 := Lib.hid (HB2.out.mod hMc (fun q => q))
    have l3 : w.heap.size < w3.heap.size := HB3.out.lt
    have q0 := HB3.out.at_ (i := 0) _ rfl
    have q1 := HB3.out.at_ (i := 1) _ rfl
    have q2 := HB3.out.at_ (i := 2) _ rfl
    have q3 := HB3.out.at_ (i := 3) _ rfl
    have q4 := HB3.out.at_ (i := 4) _ rfl
    have q5 := HB3.out.at_ (i := 5) _ rfl
    clear hMc x4 HX2 lx2
    go_wp2_with fail
    refine (HA.out _ N3.out).mono ?_
    rintro e w4 ⟨m2, N, f, er2, d2, tells, S', c, rfl, hI, hG, hW, hdo, hc, hm2, M⟩
    have HN := Lib.hid (show Iso sn N f ∧ Good N ∧ Wf N ∧ DoR N eo.k eo.ns eo.ts er2 d2 tells S' from ⟨hI, hG, hW, hdo⟩)
    have HM := Lib.hid hm2
    have N4 := Lib.hid (N3.out.same M)
    have HB4 := Lib.hid (HB3.out.mod M (fun q => q))
    have HX4 := Lib.hid (HW.out.blk.mod N4.out (fun q => q))
    have h34 := M.size
    clear hI hG hW hdo hm2 M q0 q1 q2 q3 q4 q5
    by_cases hs : SameA N ⟨eo, er, ed, evs, eg, edu⟩ er2 d2 tells
    case neg =>
      rw [decide_eq_false (show ¬ (er2 = er ∧ d2 = ed ∧ (toldVs N tells).map infoV = evs.map infoV ∧ edu = []) from hs)]
      go_wp2_with fail
      exact HR.out _ _ ⟨none, rfl, .inr ⟨hk, .inr ⟨hgd, N, f, er2, d2, tells, S', HN.out.1, HN.out.2.1, HN.out.2.2.1, HN.out.2.2.2, .inl ⟨hs, rfl⟩⟩⟩, (fun s' q => by cases q), N4.out.mono (fun _ _ q => q.elim)⟩
    rw [decide_eq_true (show (er2 = er ∧ d2 = ed ∧ (toldVs N tells).map infoV = evs.map infoV ∧ edu = []) from hs)]
    have x2 := HX4.out.at_ (i := 2) _ rfl
    have x6 := HX4.out.at_ (i := 6) _ rfl
    have x3 := HX4.out.at_ (i := 3) _ rfl
    have f2 := HX4.out.free 2
    have f6 := HX4.out.free 6
    have f3 := HX4.out.free 3
    have lx := HX4.out.lt
    unfold bp at x2 x6
    go_upto_region 16 with fail
    obtain ⟨w5, hw5⟩ : ∃ z, ((w4.setCell ⟨x, 6, none⟩ (.pointer (some ⟨mn, 0, none⟩))).setCell ⟨x, 2, none⟩ (.pointer (some ⟨m2, 0, none⟩))).setCell ⟨x, 3, none⟩ (.bool false) = z := ⟨_, rfl⟩
    rw [hw5]
    have HX5 := Lib.hid (show Blk w5 x #[.int .i64 sl, .int .i64 sz, bp m2, .bool false, .int .i64 g, bp mp, bp mn, sv] by
      rw [← hw5]
      have h := ((HX4.out.set 6 (.pointer (some ⟨mn, 0, none⟩))).set 2 (.pointer (some ⟨m2, 0, none⟩))).set 3 (.bool false)
      simp at h
      exact h)
    have M5 := Lib.hid (show Mod (fun i => i = x) w4 w5 by
      rw [← hw5]
      exact (((Mod.refl _ _).put).put).put)
    have hxx : x ≠ w.heap.size := by have := HW.out.blk.lt; omega
    have HB5 := Lib.hid (HB4.out.mod M5.out (fun q => hxx q.symm))
    clear hw5 x2 x6 x3 f2 f6 f3 lx
    have x4 := HX5.out.at_ (i := 4) _ rfl
    have x7 := HX5.out.at_ (i := 7) _ rfl
    have x6 := HX5.out.at_ (i := 6) _ rfl
    have x5 := HX5.out.at_ (i := 5) _ rfl
    have f7 := HX5.out.free 7
    have lx := HX5.out.lt
    have q4 := HB5.out.at_ (i := 4) _ rfl
    have q0 := HB5.out.at_ (i := 0) _ rfl
    unfold bp at x6 x5
    have lb := HB5.out.lt
    have hBx := HW.out.xB
    by_cases hge : eg = g
    · have hb : (eg != g) = false := by simpa using hge
      go_quiet (fail)
      go_wp2_with fail
      obtain ⟨w8, hw8⟩ : ∃ z, w5.drewN nq = z := ⟨_, rfl⟩
      rw [hw8]
      have N8 := Lib.hid (show Same w5 w8 by rw [← hw8]; exact (Mod.refl _ _).drewN _)
      have HX8 := Lib.hid (HX5.out.mod N8.out (fun q => q))
      have HB8 := Lib.hid (HB5.out.mod N8.out (fun q => q))
      have HO8 := Lib.hid (show w8.ownsRow B 27 1 sv ss.length (ss.map ordW) from own_mod2 (own_mod2 (owns_same HW.out.row N4.out) M5.out (fun b hb q => (HW.out.ks b hb).2.2 q)) N8.out (fun _ _ q => q))
      clear hw8 x4 x5 x6 q4 f7
      obtain ⟨i0, hi, hz0, hz1, hz2⟩ := info_parts info24
      have I0 := Lib.hid hi
      have Z0 := Lib.hid hz0
      have Z1 := Lib.hid hz1
      have Z2 := Lib.hid hz2
      clear hi hz0 hz1 hz2
      have x7 := HX8.out.at_ (i := 7) _ rfl
      have q0 := HB8.out.at_ (i := 0) _ rfl
      have lx := HX8.out.lt
      have lb := HB8.out.lt
      have hBw : B ≤ w8.heap.size := by have := HW.out.xB; omega
      refine wp_region_held_drew (S := fun W => W.cell? ⟨w.heap.size, 0, none⟩ = some (.iface U V)) (by kernel_rfl) (by (try dsimp only); exact q0) (fun hHeld => ?_)
      refine wpAnyH_take (i := 0) (v := ?_) rfl (by kernel_rfl) (by kernel_rfl) (by kernel_rfl) (fun _ _ _ h => h) (Or.inl ⟨by rfl, ?_⟩) (by assumption) ?_
      rotate_left
      · intro w hSw
        try dsimp only at hSw
        go_simp
        try with_reducible rfl
      try simp only [List.getElem_toArray, List.getElem_cons_succ, List.getElem_cons_zero, Act.put, List.setIfInBounds_toArray, List.set_cons_zero, List.set_cons_succ]
      refine wpAnyH_take (i := 1) (v := ?_) rfl (by kernel_rfl) (by kernel_rfl) (by kernel_rfl) (fun _ _ _ h => h) (Or.inl ⟨by rfl, ?_⟩) (by assumption) ?_
      rotate_left
      · intro w hSw
        try dsimp only at hSw
        go_simp
        try with_reducible rfl
      try simp only [List.getElem_toArray, List.getElem_cons_succ, List.getElem_cons_zero, Act.put, List.setIfInBounds_toArray, List.set_cons_zero, List.set_cons_succ]
      refine wpAnyH_take (i := 2) (v := ?_) rfl (by kernel_rfl) (by kernel_rfl) (by kernel_rfl) (fun _ _ _ h => h) (Or.inl ⟨by rfl, ?_⟩) (by assumption) ?_
      rotate_left
      · intro w hSw
        try dsimp only at hSw
        go_simp
        try with_reducible rfl
      try simp only [List.getElem_toArray, List.getElem_cons_succ, List.getElem_cons_zero, Act.put, List.setIfInBounds_toArray, List.set_cons_zero, List.set_cons_succ]
      refine wpAnyH_take (i := 3) (v := ?_) rfl (by kernel_rfl) (by kernel_rfl) (by kernel_rfl) (fun _ _ _ h => h) (Or.inl ⟨by rfl, ?_⟩) (by assumption) ?_
      rotate_left
      · intro w hSw
        try dsimp only at hSw
        go_simp
        try with_reducible rfl
      try simp only [List.getElem_toArray, List.getElem_cons_succ, List.getElem_cons_zero, Act.put, List.setIfInBounds_toArray, List.set_cons_zero, List.set_cons_succ]
      refine wpAnyH_take (i := 5) (v := ?_) rfl (by kernel_rfl) (by kernel_rfl) (by kernel_rfl) (fun _ _ _ h => h) (Or.inl ⟨by rfl, ?_⟩) (by assumption) ?_
      rotate_left
      · intro w hSw
        try dsimp only at hSw
        go_simp
        try with_reducible rfl
      try simp only [List.getElem_toArray, List.getElem_cons_succ, List.getElem_cons_zero, Act.put, List.setIfInBounds_toArray, List.set_cons_zero, List.set_cons_succ]
      refine wpAnyH_take (i := 6) (v := ?_) rfl (by kernel_rfl) (by kernel_rfl) (by kernel_rfl) (fun _ _ _ h => h) (Or.inl ⟨by rfl, ?_⟩) (by assumption) ?_
      rotate_left
      · intro w hSw
        try dsimp only at hSw
        go_simp
        try with_reducible rfl
      try simp only [List.getElem_toArray, List.getElem_cons_succ, List.getElem_cons_zero, Act.put, List.setIfInBounds_toArray, List.set_cons_zero, List.set_cons_succ]
      refine wpAnyH_ready (rs := [4, 7]) (by kernel_rfl) (by simp) ?_
      refine AllReadyH.cons rfl (fun Kc hKc => ?_) (AllReadyH.cons rfl (fun Kc hKc => ?_) (AllReadyH.nil))
      · go_simp
        refine hKc.out _ _ (by (try dsimp only); exact q0) (fun hHeld => ?_)
        clear hKc Kc
        try simp only [List.getElem_toArray, List.getElem_cons_succ, List.getElem_cons_zero, Act.put, List.setIfInBounds_toArray, List.set_cons_zero, List.set_cons_succ]
        refine wpAnyH_ready (rs := [7]) (by kernel_rfl) (by simp) ?_
        refine AllReadyH.cons rfl (fun Kc hKc => ?_) AllReadyH.nil
        go_simp
        refine hKc.out _ _ (by (try dsimp only); exact (HB8.out.drew.alloc _).at_ (i := 0) _ rfl) (fun hHeld => ?_)
        clear hKc Kc
        try simp only [List.getElem_toArray, List.getElem_cons_succ, List.getElem_cons_zero, Act.put, List.setIfInBounds_toArray, List.set_cons_zero, List.set_cons_succ]
        refine wpAnyH_ready (rs := [8]) (by kernel_rfl) (by simp) ?_
        refine AllReadyH.cons rfl (fun Kc hKc => ?_) AllReadyH.nil
        refine wp_append_lies _ (.tmp 111) (.tmp 114) 60 rfl B 27 i0 .nilIface 1 16 Tryz.underlying60 I0.out Z0.out Z1.out Z2.out rfl (by decide) (sv) _ _ rfl ((owns_same HO8.out ((Mod.refl _ _).drew)).alloc _) ⟨w8.heap.size, 0, none⟩ 1 1 [.iface U V] rfl rfl (one_new w8.drew _ _) (fun u hu => (by simp at hu; subst hu; rfl)) (by decide) (by unfold maxLen; omega) (by omega) (Nat.le_trans hBw (((Mod.refl (fun _ => False) w8).drew).alloc _).size) _ rfl ?_
        intro g9 cap9 w10 hown hgrow hat hlt
        have HOW := Lib.hid hown
        have HAT := Lib.hid (show (sv : Value).ownBlock = some g9 ∨ w8.heap.size ≤ g9 from hat.imp id (fun q => by rw [q]; first | exact (((Mod.refl (fun _ => False) w8).drew).alloc _).size | exact (((Mod.refl (fun _ => False) w8).alloc _).drew).size))
        have MA := Lib.hid (show Mod (fun i => sv.ownBlock = some i) w8 w10 from (((Mod.refl _ w8).drew).alloc _).grown hgrow (fun k hk hl => by rw [← hk]))
        have HX10 := Lib.hid (HX8.out.mod MA.out (by exact fun q => (HW.out.ks x q).2.2 rfl))
        have HB10 := Lib.hid (HB8.out.mod MA.out (by intro q; have := (HW.out.row.lt _ q).2; omega))
        have x7 := HX10.out.at_ (i := 7) _ rfl
        have f7 := HX10.out.free 7
        have lx := HX10.out.lt
        clear hown hgrow hat
        refine hKc.out _ _ (by (try dsimp only); exact HB10.out.at_ (i := 0) _ rfl) (fun hHeld => ?_)
        clear hKc Kc
        try simp only [List.getElem_toArray, List.getElem_cons_succ, List.getElem_cons_zero, Act.put, List.setIfInBounds_toArray, List.set_cons_zero, List.set_cons_succ]
        refine wpAnyH_take (i := 9) (v := ?_) rfl (by kernel_rfl) (by kernel_rfl) (by kernel_rfl) (fun _ _ _ h => h) (Or.inl ⟨by rfl, ?_⟩) (by assumption) ?_
        rotate_left
        · intro w hSw
          try dsimp only at hSw
          go_simp
          try with_reducible rfl
        try simp only [List.getElem_toArray, List.getElem_cons_succ, List.getElem_cons_zero, Act.put, List.setIfInBounds_toArray, List.set_cons_zero, List.set_cons_succ]
        refine wpAnyH_take (i := 10) (v := ?_) rfl (by kernel_rfl) (by kernel_rfl) (by kernel_rfl) (fun _ _ _ h => h) (Or.inl ⟨by rfl, ?_⟩) (by assumption) ?_
        rotate_left
        · intro w hSw
          try dsimp only at hSw
          go_simp
          try with_reducible rfl
        try simp only [List.getElem_toArray, List.getElem_cons_succ, List.getElem_cons_zero, Act.put, List.setIfInBounds_toArray, List.set_cons_zero, List.set_cons_succ]
        refine wpAnyH_ready (rs := [11]) (by kernel_rfl) (by simp) ?_
        refine AllReadyH.cons rfl (fun Kc hKc => ?_) AllReadyH.nil
        go_simp
        refine hKc.out _ _ (by (try dsimp only); exact set_keep (HB10.out.at_ (i := 0) _ rfl) (.inl (fun q => hxx q.symm))) (fun hHeld => ?_)
        clear hKc Kc
        try simp only [List.getElem_toArray, List.getElem_cons_succ, List.getElem_cons_zero, Act.put, List.setIfInBounds_toArray, List.set_cons_zero, List.set_cons_succ]
        refine wpAnyH_done (by kernel_rfl) ?_ _
        go_wp2
        obtain ⟨w11, hw11⟩ : ∃ z, w10.setCell ⟨x, 7, none⟩ (.slice (some ⟨g9, 0, none⟩) (ss.length + 1) cap9) = z := ⟨_, rfl⟩
        rw [hw11]
        have MB := Lib.hid (show Mod (fun i => i = x) w10 w11 by rw [← hw11]; exact (Mod.refl _ _).put)
        have HX11 := Lib.hid (show Blk w11 x #[.int .i64 sl, .int .i64 sz, bp m2, .bool false, .int .i64 g, bp mp, bp mn, .slice (some ⟨g9, 0, none⟩) (ss.length + 1) cap9] by
          rw [← hw11]
          have h := HX10.out.set 7 (.slice (some ⟨g9, 0, none⟩) (ss.length + 1) cap9)
          simp at h
          exact h)
        have M11 := Lib.hid (show Mod (fun i => i = x ∨ sv.ownBlock = some i) w4 w11 from (((M5.out.mono (fun _ _ q => Or.inl q)).same N8.out).then_ MA.out (fun _ _ q => .inr q)).then_ MB.out (fun _ _ q => .inl q))
        have s1 := M5.out.size
        have s2 := N8.out.size
        have s3 := MA.out.size
        have s4 := MB.out.size
        have s5 := N4.out.size
        have hso : ∀ b, sv.ownBlock = some b → b < w.heap.size := fun b q => (HW.out.row.lt b q).2
        have hcw := hc
        have hat := HAT.out
        have hg9x : g9 ≠ x := by
          rcases hat with q | q
          · exact (HW.out.ks g9 q).2.2
          · have := HW.out.blk.lt; omega
        have hg9 : g9 < w11.heap.size := by omega
        have HO11 := Lib.hid (own_mod2 HOW.out MB.out (fun b hb q => by
          have e : some g9 = some b := hb
          injection e with e
          exact hg9x (by rw [e]; exact q)))
        have HGD := good_do HN.out.2.1 HN.out.2.2.1 HN.out.2.2.2
        have hxw := HW.out.blk.lt
        have H11 := Lib.hid (show Wt B w11 x sl sz ⟨S', sp, g, ss ++ [eo]⟩ from ⟨⟨HGD.1, HGD.2.1, HO.out.gp, HO.out.wp, hgr.1, hgr.2, (fun o ho => by
            rcases List.mem_append.1 ho with ho | ho
            · exact HO.out.os o ho
            · rw [List.mem_singleton.1 ho]
              exact okO_of HOK.out.form HOK.out.fits), by rw [List.length_append]; show ss.length + 1 ≤ 10000; omega⟩,
          m2, mp, mn, _, _, _, ⟨HX11.out, HM.out.moreN M11.out (fun b _ q => by
              rcases q with q | q
              · omega
              · have := hso b q; omega), (HW.out.past.more N4.out).moreN M11.out (fun b _ q => by
              rcases q with q | q
              · rw [q]; exact .inl HW.out.kx.2
              · exact .inl (HW.out.ks b q).2.1), by
              have := HO11.out
              rw [show (ss ++ [eo]).length = ss.length + 1 by simp, show (ss ++ [eo]).map ordW = ss.map ordW ++ [.iface U V] by simp [HUV.out]]
              exact this, (fun i hi => ⟨.inl (by omega), .inl (.inl (HW.out.kB i hi).2)⟩), ⟨.inl (by omega), .inl (.inl HW.out.kx.2)⟩, (fun b hb => by
              have e : some g9 = some b := hb
              injection e with e
              rw [← e]
              refine ⟨?_, ?_, hg9x⟩
              · rcases hat with q | q
                · exact .inl (by have := hso g9 q; omega)
                · exact .inr ⟨by omega, hg9⟩
              · rcases hat with q | q
                · exact .inl (.inl (HW.out.ks g9 q).2.1)
                · exact .inr ⟨by omega, hg9⟩), (fun b hb => by
              by_cases q : b < c
              · exact .inl (.inl q)
              · by_cases q2 : b < w4.heap.size
                · exact .inr (.inl (.inr ⟨by omega, q2⟩))
                · exact .inr (.inr ⟨by omega, hb⟩)), hBx⟩⟩)
        exact HR.out _ _ ⟨some ⟨S', sp, g, ss ++ [eo]⟩, rfl, .inr ⟨hk, .inr ⟨hgd, N, f, er2, d2, tells, S', HN.out.1, HN.out.2.1, HN.out.2.2.1, HN.out.2.2.2, .inr ⟨hs, .inl ⟨hge, by rw [show (⟨eo, er, ed, evs, eg, edu⟩ : Ev).gen = g from hge]⟩⟩⟩⟩, (fun s' q => by cases q; exact H11.out), (N4.out.mono (fun _ _ q => q.elim)).then_ M11.out (fun i _ q => by
          rcases q with q | q
          · rw [q]; exact hBx
          · exact (HW.out.row.lt i q).1)⟩
      · go_simp
        refine hKc.out _ _ (by (try dsimp only); exact (HB8.out.drew.alloc _).at_ (i := 0) _ rfl) (fun hHeld => ?_)
        clear hKc Kc
        try simp only [List.getElem_toArray, List.getElem_cons_succ, List.getElem_cons_zero, Act.put, List.setIfInBounds_toArray, List.set_cons_zero, List.set_cons_succ]
        refine wpAnyH_ready (rs := [4]) (by kernel_rfl) (by simp) ?_
        refine AllReadyH.cons rfl (fun Kc hKc => ?_) AllReadyH.nil
        go_simp
        refine hKc.out _ _ (by (try dsimp only); exact (HB8.out.drew.alloc _).at_ (i := 0) _ rfl) (fun hHeld => ?_)
        clear hKc Kc
        try simp only [List.getElem_toArray, List.getElem_cons_succ, List.getElem_cons_zero, Act.put, List.setIfInBounds_toArray, List.set_cons_zero, List.set_cons_succ]
        refine wpAnyH_ready (rs := [8]) (by kernel_rfl) (by simp) ?_
        refine AllReadyH.cons rfl (fun Kc hKc => ?_) AllReadyH.nil
        refine wp_append_lies _ (.tmp 111) (.tmp 114) 60 rfl B 27 i0 .nilIface 1 16 Tryz.underlying60 I0.out Z0.out Z1.out Z2.out rfl (by decide) (sv) _ _ rfl ((owns_same HO8.out ((Mod.refl _ _).drew)).alloc _) ⟨w8.heap.size, 0, none⟩ 1 1 [.iface U V] rfl rfl (one_new w8.drew _ _) (fun u hu => (by simp at hu; subst hu; rfl)) (by decide) (by unfold maxLen; omega) (by omega) (Nat.le_trans hBw (((Mod.refl (fun _ => False) w8).drew).alloc _).size) _ rfl ?_
        intro g9 cap9 w10 hown hgrow hat hlt
        have HOW := Lib.hid hown
        have HAT := Lib.hid (show (sv : Value).ownBlock = some g9 ∨ w8.heap.size ≤ g9 from hat.imp id (fun q => by rw [q]; first | exact (((Mod.refl (fun _ => False) w8).drew).alloc _).size | exact (((Mod.refl (fun _ => False) w8).alloc _).drew).size))
        have MA := Lib.hid (show Mod (fun i => sv.ownBlock = some i) w8 w10 from (((Mod.refl _ w8).drew).alloc _).grown hgrow (fun k hk hl => by rw [← hk]))
        have HX10 := Lib.hid (HX8.out.mod MA.out (by exact fun q => (HW.out.ks x q).2.2 rfl))
        have HB10 := Lib.hid (HB8.out.mod MA.out (by intro q; have := (HW.out.row.lt _ q).2; omega))
        have x7 := HX10.out.at_ (i := 7) _ rfl
        have f7 := HX10.out.free 7
        have lx := HX10.out.lt
        clear hown hgrow hat
        refine hKc.out _ _ (by (try dsimp only); exact HB10.out.at_ (i := 0) _ rfl) (fun hHeld => ?_)
        clear hKc Kc
        try simp only [List.getElem_toArray, List.getElem_cons_succ, List.getElem_cons_zero, Act.put, List.setIfInBounds_toArray, List.set_cons_zero, List.set_cons_succ]
        refine wpAnyH_take (i := 9) (v := ?_) rfl (by kernel_rfl) (by kernel_rfl) (by kernel_rfl) (fun _ _ _ h => h) (Or.inl ⟨by rfl, ?_⟩) (by assumption) ?_
        rotate_left
        · intro w hSw
          try dsimp only at hSw
          go_simp
          try with_reducible rfl
        try simp only [List.getElem_toArray, List.getElem_cons_succ, List.getElem_cons_zero, Act.put, List.setIfInBounds_toArray, List.set_cons_zero, List.set_cons_succ]
        refine wpAnyH_take (i := 10) (v := ?_) rfl (by kernel_rfl) (by kernel_rfl) (by kernel_rfl) (fun _ _ _ h => h) (Or.inl ⟨by rfl, ?_⟩) (by assumption) ?_
        rotate_left
        · intro w hSw
          try dsimp only at hSw
          go_simp
          try with_reducible rfl
        try simp only [List.getElem_toArray, List.getElem_cons_succ, List.getElem_cons_zero, Act.put, List.setIfInBounds_toArray, List.set_cons_zero, List.set_cons_succ]
        refine wpAnyH_ready (rs := [11]) (by kernel_rfl) (by simp) ?_
        refine AllReadyH.cons rfl (fun Kc hKc => ?_) AllReadyH.nil
        go_simp
        refine hKc.out _ _ (by (try dsimp only); exact set_keep (HB10.out.at_ (i := 0) _ rfl) (.inl (fun q => hxx q.symm))) (fun hHeld => ?_)
        clear hKc Kc
        try simp only [List.getElem_toArray, List.getElem_cons_succ, List.getElem_cons_zero, Act.put, List.setIfInBounds_toArray, List.set_cons_zero, List.set_cons_succ]
        refine wpAnyH_done (by kernel_rfl) ?_ _
        go_wp2
        obtain ⟨w11, hw11⟩ : ∃ z, w10.setCell ⟨x, 7, none⟩ (.slice (some ⟨g9, 0, none⟩) (ss.length + 1) cap9) = z := ⟨_, rfl⟩
        rw [hw11]
        have MB := Lib.hid (show Mod (fun i => i = x) w10 w11 by rw [← hw11]; exact (Mod.refl _ _).put)
        have HX11 := Lib.hid (show Blk w11 x #[.int .i64 sl, .int .i64 sz, bp m2, .bool false, .int .i64 g, bp mp, bp mn, .slice (some ⟨g9, 0, none⟩) (ss.length + 1) cap9] by
          rw [← hw11]
          have h := HX10.out.set 7 (.slice (some ⟨g9, 0, none⟩) (ss.length + 1) cap9)
          simp at h
          exact h)
        have M11 := Lib.hid (show Mod (fun i => i = x ∨ sv.ownBlock = some i) w4 w11 from (((M5.out.mono (fun _ _ q => Or.inl q)).same N8.out).then_ MA.out (fun _ _ q => .inr q)).then_ MB.out (fun _ _ q => .inl q))
        have s1 := M5.out.size
        have s2 := N8.out.size
        have s3 := MA.out.size
        have s4 := MB.out.size
        have s5 := N4.out.size
        have hso : ∀ b, sv.ownBlock = some b → b < w.heap.size := fun b q => (HW.out.row.lt b q).2
        have hcw := hc
        have hat := HAT.out
        have hg9x : g9 ≠ x := by
          rcases hat with q | q
          · exact (HW.out.ks g9 q).2.2
          · have := HW.out.blk.lt; omega
        have hg9 : g9 < w11.heap.size := by omega
        have HO11 := Lib.hid (own_mod2 HOW.out MB.out (fun b hb q => by
          have e : some g9 = some b := hb
          injection e with e
          exact hg9x (by rw [e]; exact q)))
        have HGD := good_do HN.out.2.1 HN.out.2.2.1 HN.out.2.2.2
        have hxw := HW.out.blk.lt
        have H11 := Lib.hid (show Wt B w11 x sl sz ⟨S', sp, g, ss ++ [eo]⟩ from ⟨⟨HGD.1, HGD.2.1, HO.out.gp, HO.out.wp, hgr.1, hgr.2, (fun o ho => by
            rcases List.mem_append.1 ho with ho | ho
            · exact HO.out.os o ho
            · rw [List.mem_singleton.1 ho]
              exact okO_of HOK.out.form HOK.out.fits), by rw [List.length_append]; show ss.length + 1 ≤ 10000; omega⟩,
          m2, mp, mn, _, _, _, ⟨HX11.out, HM.out.moreN M11.out (fun b _ q => by
              rcases q with q | q
              · omega
              · have := hso b q; omega), (HW.out.past.more N4.out).moreN M11.out (fun b _ q => by
              rcases q with q | q
              · rw [q]; exact .inl HW.out.kx.2
              · exact .inl (HW.out.ks b q).2.1), by
              have := HO11.out
              rw [show (ss ++ [eo]).length = ss.length + 1 by simp, show (ss ++ [eo]).map ordW = ss.map ordW ++ [.iface U V] by simp [HUV.out]]
              exact this, (fun i hi => ⟨.inl (by omega), .inl (.inl (HW.out.kB i hi).2)⟩), ⟨.inl (by omega), .inl (.inl HW.out.kx.2)⟩, (fun b hb => by
              have e : some g9 = some b := hb
              injection e with e
              rw [← e]
              refine ⟨?_, ?_, hg9x⟩
              · rcases hat with q | q
                · exact .inl (by have := hso g9 q; omega)
                · exact .inr ⟨by omega, hg9⟩
              · rcases hat with q | q
                · exact .inl (.inl (HW.out.ks g9 q).2.1)
                · exact .inr ⟨by omega, hg9⟩), (fun b hb => by
              by_cases q : b < c
              · exact .inl (.inl q)
              · by_cases q2 : b < w4.heap.size
                · exact .inr (.inl (.inr ⟨by omega, q2⟩))
                · exact .inr (.inr ⟨by omega, hb⟩)), hBx⟩⟩)
        exact HR.out _ _ ⟨some ⟨S', sp, g, ss ++ [eo]⟩, rfl, .inr ⟨hk, .inr ⟨hgd, N, f, er2, d2, tells, S', HN.out.1, HN.out.2.1, HN.out.2.2.1, HN.out.2.2.2, .inr ⟨hs, .inl ⟨hge, by rw [show (⟨eo, er, ed, evs, eg, edu⟩ : Ev).gen = g from hge]⟩⟩⟩⟩, (fun s' q => by cases q; exact H11.out), (N4.out.mono (fun _ _ q => q.elim)).then_ M11.out (fun i _ q => by
          rcases q with q | q
          · rw [q]; exact hBx
          · exact (HW.out.row.lt i q).1)⟩
    · have hb : (eg != g) = true := by simpa using hge
      go_quiet (fail)
      go_wp2_with fail
      obtain ⟨w6, hw6⟩ : ∃ z, w5.drewN nq = z := ⟨_, rfl⟩
      rw [hw6]
      have N6 := Lib.hid (show Same w5 w6 by rw [← hw6]; exact (Mod.refl _ _).drewN _)
      have HX6 := Lib.hid (HX5.out.mod N6.out (fun q => q))
      have HB6 := Lib.hid (HB5.out.mod N6.out (fun q => q))
      have x6 := HX6.out.at_ (i := 6) _ rfl
      have q4 := HB6.out.at_ (i := 4) _ rfl
      have lx := HX6.out.lt
      have lb := HB6.out.lt
      unfold bp at x6
      have HNW := Lib.hid (show ∀ W, Same w6 W → Md Tryz.prog Kn W mn sn from fun W M =>
        (((HW.out.now.same N4.out).mod M5.out (fun b _ q => by rw [q]; exact HW.out.kx.1)).same N6.out).same M)
      clear hw6 x4 x5 x7 f7 q0
      refine wp_region_held_drew (S := fun W => W.cell? ⟨w.heap.size, 4, none⟩ = some (.int .i64 eg) ∧ W.cell? ⟨x, 6, none⟩ = some (.pointer (some ⟨mn, 0, none⟩))) (by kernel_rfl) (by (try dsimp only); exact ⟨q4, x6⟩) (fun hHeld => ?_)
      refine wpAnyH_take (i := 0) (v := ?_) rfl (by kernel_rfl) (by kernel_rfl) (by kernel_rfl) (fun _ _ _ h => h) (Or.inl ⟨by rfl, ?_⟩) (by assumption) ?_
      rotate_left
      · intro w hSw
        try dsimp only at hSw
        go_simp
        try with_reducible rfl
      try simp only [List.getElem_toArray, List.getElem_cons_succ, List.getElem_cons_zero, Act.put, List.setIfInBounds_toArray, List.set_cons_zero, List.set_cons_succ]
      refine wpAnyH_take (i := 1) (v := ?_) rfl (by kernel_rfl) (by kernel_rfl) (by kernel_rfl) (fun _ _ _ h => h) (Or.inl ⟨by rfl, ?_⟩) (by assumption) ?_
      rotate_left
      · intro w hSw
        try dsimp only at hSw
        go_simp
        try with_reducible rfl
      try simp only [List.getElem_toArray, List.getElem_cons_succ, List.getElem_cons_zero, Act.put, List.setIfInBounds_toArray, List.set_cons_zero, List.set_cons_succ]
      refine wpAnyH_take (i := 2) (v := ?_) rfl (by kernel_rfl) (by kernel_rfl) (by kernel_rfl) (fun _ _ _ h => h) (Or.inl ⟨by rfl, ?_⟩) (by assumption) ?_
      rotate_left
      · intro w hSw
        try dsimp only at hSw
        go_simp
        try with_reducible rfl
      try simp only [List.getElem_toArray, List.getElem_cons_succ, List.getElem_cons_zero, Act.put, List.setIfInBounds_toArray, List.set_cons_zero, List.set_cons_succ]
      refine wpAnyH_take (i := 3) (v := ?_) rfl (by kernel_rfl) (by kernel_rfl) (by kernel_rfl) (fun _ _ _ h => h) (Or.inl ⟨by rfl, ?_⟩) (by assumption) ?_
      rotate_left
      · intro w hSw
        try dsimp only at hSw
        go_simp
        try with_reducible rfl
      try simp only [List.getElem_toArray, List.getElem_cons_succ, List.getElem_cons_zero, Act.put, List.setIfInBounds_toArray, List.set_cons_zero, List.set_cons_succ]
      refine wpAnyH_take (i := 4) (v := ?_) rfl (by kernel_rfl) (by kernel_rfl) (by kernel_rfl) (fun _ _ _ h => h) (Or.inl ⟨by rfl, ?_⟩) (by assumption) ?_
      rotate_left
      · intro w hSw
        try dsimp only at hSw
        obtain ⟨s4, s6⟩ := hSw
        go_simp
        try with_reducible rfl
      try simp only [List.getElem_toArray, List.getElem_cons_succ, List.getElem_cons_zero, Act.put, List.setIfInBounds_toArray, List.set_cons_zero, List.set_cons_succ]
      refine wpAnyH_take (i := 5) (v := ?_) rfl (by kernel_rfl) (by kernel_rfl) (by kernel_rfl) (fun _ _ _ h => h) (Or.inl ⟨by rfl, ?_⟩) (by assumption) ?_
      rotate_left
      · intro w hSw
        try dsimp only at hSw
        go_simp
        try with_reducible rfl
      try simp only [List.getElem_toArray, List.getElem_cons_succ, List.getElem_cons_zero, Act.put, List.setIfInBounds_toArray, List.set_cons_zero, List.set_cons_succ]
      refine wpAnyH_take (i := 6) (v := ?_) rfl (by kernel_rfl) (by kernel_rfl) (by kernel_rfl) (fun _ _ _ h => h) (Or.inl ⟨by rfl, ?_⟩) (by assumption) ?_
      rotate_left
      · intro w hSw
        try dsimp only at hSw
        go_simp
        try with_reducible rfl
      try simp only [List.getElem_toArray, List.getElem_cons_succ, List.getElem_cons_zero, Act.put, List.setIfInBounds_toArray, List.set_cons_zero, List.set_cons_succ]
      refine wpAnyH_take (i := 7) (v := ?_) rfl (by kernel_rfl) (by kernel_rfl) (by kernel_rfl) (fun _ _ _ h => h) (Or.inl ⟨by rfl, ?_⟩) (by assumption) ?_
      rotate_left
      · intro w hSw
        try dsimp only at hSw
        go_simp
        try with_reducible rfl
      try simp only [List.getElem_toArray, List.getElem_cons_succ, List.getElem_cons_zero, Act.put, List.setIfInBounds_toArray, List.set_cons_zero, List.set_cons_succ]
      refine wpAnyH_take (i := 8) (v := ?_) rfl (by kernel_rfl) (by kernel_rfl) (by kernel_rfl) (fun _ _ _ h => h) (Or.inl ⟨by rfl, ?_⟩) (by assumption) ?_
      rotate_left
      · intro w hSw
        try dsimp only at hSw
        obtain ⟨s4, s6⟩ := hSw
        go_simp
        try with_reducible rfl
      try simp only [List.getElem_toArray, List.getElem_cons_succ, List.getElem_cons_zero, Act.put, List.setIfInBounds_toArray, List.set_cons_zero, List.set_cons_succ]
      refine wpAnyH_ready (rs := [9]) (by kernel_rfl) (by simp) ?_
      refine AllReadyH.cons rfl (fun Kc hKc => ?_) AllReadyH.nil
      go_simp
      go_at_call 29
      refine (copy_any (HNW.out _ ((Mod.refl _ _).drew)) HO.out.wn HO.out.gn).mono ?_
      rintro e w7 ⟨mq, Q, fq, rfl, hI, hW, hG, hmq, M⟩
      have HQ := Lib.hid (show Iso sn Q fq ∧ Good Q ∧ Wf Q from ⟨hI, hG, hW⟩)
      have HMQ := Lib.hid (show Md Tryz.prog (fun i => i < w6.heap.size) w7 mq Q from hmq)
      have N7 := Lib.hid (show Same w6 w7 from ((Mod.refl _ _).drew).same M)
      have HX7 := Lib.hid (HX6.out.mod N7.out (fun q => q))
      have HB7 := Lib.hid (HB6.out.mod N7.out (fun q => q))
      have x4 := HX7.out.at_ (i := 4) _ rfl
      have x5 := HX7.out.at_ (i := 5) _ rfl
      have x7 := HX7.out.at_ (i := 7) _ rfl
      have f4 := HX7.out.free 4
      have f5 := HX7.out.free 5
      have f7 := HX7.out.free 7
      have lx := HX7.out.lt
      have A1 := Lib.hid (show w7.cell? ⟨w.heap.size, 4, none⟩ = some (.int .i64 eg) from HB7.out.at_ (i := 4) _ rfl)
      have A2 := Lib.hid (show w7.cell? ⟨x, 6, none⟩ = some (.pointer (some ⟨mn, 0, none⟩)) from HX7.out.at_ (i := 6) _ rfl)
      clear hI hW hG hmq M
      refine hKc.out _ _ (by (try dsimp only); exact ⟨A1.out, A2.out⟩) (fun hHeld => ?_)
      clear hKc Kc
      try simp only [List.getElem_toArray, List.getElem_cons_succ, List.getElem_cons_zero, Act.put, List.setIfInBounds_toArray, List.set_cons_zero, List.set_cons_succ]
      refine wpAnyH_take (i := 10) (v := ?_) rfl (by kernel_rfl) (by kernel_rfl) (by kernel_rfl) (fun _ _ _ h => h) (Or.inl ⟨by rfl, ?_⟩) (by assumption) ?_
      rotate_left
      · intro w hSw
        try dsimp only at hSw
        go_simp
        try with_reducible rfl
      try simp only [List.getElem_toArray, List.getElem_cons_succ, List.getElem_cons_zero, Act.put, List.setIfInBounds_toArray, List.set_cons_zero, List.set_cons_succ]
      refine wpAnyH_take (i := 11) (v := ?_) rfl (by kernel_rfl) (by kernel_rfl) (by kernel_rfl) (fun _ _ _ h => h) (Or.inl ⟨by rfl, ?_⟩) (by assumption) ?_
      rotate_left
      · intro w hSw
        try dsimp only at hSw
        go_simp
        try with_reducible rfl
      try simp only [List.getElem_toArray, List.getElem_cons_succ, List.getElem_cons_zero, Act.put, List.setIfInBounds_toArray, List.set_cons_zero, List.set_cons_succ]
      refine wpAnyH_ready (rs := [12]) (by kernel_rfl) (by simp) ?_
      refine AllReadyH.cons rfl (fun Kc hKc => ?_) AllReadyH.nil
      go_simp
      refine hKc.out _ _ (by (try dsimp only); exact ⟨set_keep A1.out (.inl (fun q => hxx q.symm)), set_keep A2.out (.inr (by decide))⟩) (fun hHeld => ?_)
      clear hKc Kc
      try simp only [List.getElem_toArray, List.getElem_cons_succ, List.getElem_cons_zero, Act.put, List.setIfInBounds_toArray, List.set_cons_zero, List.set_cons_succ]
      refine wpAnyH_take (i := 13) (v := ?_) rfl (by kernel_rfl) (by kernel_rfl) (by kernel_rfl) (fun _ _ _ h => h) (Or.inl ⟨by rfl, ?_⟩) (by assumption) ?_
      rotate_left
      · intro w hSw
        try dsimp only at hSw
        go_simp
        try with_reducible rfl
      try simp only [List.getElem_toArray, List.getElem_cons_succ, List.getElem_cons_zero, Act.put, List.setIfInBounds_toArray, List.set_cons_zero, List.set_cons_succ]
      refine wpAnyH_take (i := 14) (v := ?_) rfl (by kernel_rfl) (by kernel_rfl) (by kernel_rfl) (fun _ _ _ h => h) (Or.inl ⟨by rfl, ?_⟩) (by assumption) ?_
      rotate_left
      · intro w hSw
        try dsimp only at hSw
        go_simp
        try with_reducible rfl
      try simp only [List.getElem_toArray, List.getElem_cons_succ, List.getElem_cons_zero, Act.put, List.setIfInBounds_toArray, List.set_cons_zero, List.set_cons_succ]
      refine wpAnyH_ready (rs := [15]) (by kernel_rfl) (by simp) ?_
      refine AllReadyH.cons rfl (fun Kc hKc => ?_) AllReadyH.nil
      go_simp
      refine hKc.out _ _ (by (try dsimp only); exact ⟨set_keep (set_keep A1.out (.inl (fun q => hxx q.symm))) (.inl (fun q => hxx q.symm)), set_keep (set_keep A2.out (.inr (by decide))) (.inr (by decide))⟩) (fun hHeld => ?_)
      clear hKc Kc
      try simp only [List.getElem_toArray, List.getElem_cons_succ, List.getElem_cons_zero, Act.put, List.setIfInBounds_toArray, List.set_cons_zero, List.set_cons_succ]
      refine wpAnyH_take (i := 16) (v := ?_) rfl (by kernel_rfl) (by kernel_rfl) (by kernel_rfl) (fun _ _ _ h => h) (Or.inl ⟨by rfl, ?_⟩) (by assumption) ?_
      rotate_left
      · intro w hSw
        try dsimp only at hSw
        go_simp
        try with_reducible rfl
      try simp only [List.getElem_toArray, List.getElem_cons_succ, List.getElem_cons_zero, Act.put, List.setIfInBounds_toArray, List.set_cons_zero, List.set_cons_succ]
      refine wpAnyH_take (i := 17) (v := ?_) rfl (by kernel_rfl) (by kernel_rfl) (by kernel_rfl) (fun _ _ _ h => h) (Or.inl ⟨by rfl, ?_⟩) (by assumption) ?_
      rotate_left
      · intro w hSw
        try dsimp only at hSw
        go_simp
        try with_reducible rfl
      try simp only [List.getElem_toArray, List.getElem_cons_succ, List.getElem_cons_zero, Act.put, List.setIfInBounds_toArray, List.set_cons_zero, List.set_cons_succ]
      refine wpAnyH_ready (rs := [18]) (by kernel_rfl) (by simp) ?_
      refine AllReadyH.cons rfl (fun Kc hKc => ?_) AllReadyH.nil
      go_simp
      refine hKc.out _ _ (by (try dsimp only); exact ⟨set_keep (set_keep (set_keep A1.out (.inl (fun q => hxx q.symm))) (.inl (fun q => hxx q.symm))) (.inl (fun q => hxx q.symm)), set_keep (set_keep (set_keep A2.out (.inr (by decide))) (.inr (by decide))) (.inr (by decide))⟩) (fun hHeld => ?_)
      clear hKc Kc
      try simp only [List.getElem_toArray, List.getElem_cons_succ, List.getElem_cons_zero, Act.put, List.setIfInBounds_toArray, List.set_cons_zero, List.set_cons_succ]
      refine wpAnyH_done (by kernel_rfl) ?_ _
      go_wp2_with fail
      obtain ⟨w8, hw8⟩ : ∃ z, ((w7.setCell ⟨x, 4, none⟩ (.int .i64 eg)).setCell ⟨x, 5, none⟩ (.pointer (some ⟨mq, 0, none⟩))).setCell ⟨x, 7, none⟩ (.slice none 0 0) = z := ⟨_, rfl⟩
      rw [hw8]
      have HX8 := Lib.hid (show Blk w8 x #[.int .i64 sl, .int .i64 sz, bp m2, .bool false, .int .i64 eg, bp mq, bp mn, .slice none 0 0] by
        rw [← hw8]
        have h := ((HX7.out.set 4 (.int .i64 eg)).set 5 (.pointer (some ⟨mq, 0, none⟩))).set 7 (.slice none 0 0)
        simp at h
        exact h)
      have M8 := Lib.hid (show Mod (fun i => i = x) w7 w8 by
        rw [← hw8]
        exact (((Mod.refl _ _).put).put).put)
      have HB8 := Lib.hid (HB7.out.mod M8.out (fun q => hxx q.symm))
      have HO8 := Lib.hid (show w8.ownsRow B 27 1 (.slice none 0 0) 0 [] from ⟨rfl, .inl ⟨rfl, rfl⟩⟩)
      clear hw8 x4 x5 x7 f4 f5 f7 x6 q4 lx lb hHeld
      obtain ⟨i0, hi, hz0, hz1, hz2⟩ := info_parts info24
      have I0 := Lib.hid hi
      have Z0 := Lib.hid hz0
      have Z1 := Lib.hid hz1
      have Z2 := Lib.hid hz2
      clear hi hz0 hz1 hz2
      have x7 := HX8.out.at_ (i := 7) _ rfl
      have q0 := HB8.out.at_ (i := 0) _ rfl
      have lx := HX8.out.lt
      have lb := HB8.out.lt
      have hBw : B ≤ w8.heap.size := by have := HW.out.xB; omega
      refine wp_region_held_drew (S := fun W => W.cell? ⟨w.heap.size, 0, none⟩ = some (.iface U V)) (by kernel_rfl) (by (try dsimp only); exact q0) (fun hHeld => ?_)
      refine wpAnyH_take (i := 0) (v := ?_) rfl (by kernel_rfl) (by kernel_rfl) (by kernel_rfl) (fun _ _ _ h => h) (Or.inl ⟨by rfl, ?_⟩) (by assumption) ?_
      rotate_left
      · intro w hSw
        try dsimp only at hSw
        go_simp
        try with_reducible rfl
      try simp only [List.getElem_toArray, List.getElem_cons_succ, List.getElem_cons_zero, Act.put, List.setIfInBounds_toArray, List.set_cons_zero, List.set_cons_succ]
      refine wpAnyH_take (i := 1) (v := ?_) rfl (by kernel_rfl) (by kernel_rfl) (by kernel_rfl) (fun _ _ _ h => h) (Or.inl ⟨by rfl, ?_⟩) (by assumption) ?_
      rotate_left
      · intro w hSw
        try dsimp only at hSw
        go_simp
        try with_reducible rfl
      try simp only [List.getElem_toArray, List.getElem_cons_succ, List.getElem_cons_zero, Act.put, List.setIfInBounds_toArray, List.set_cons_zero, List.set_cons_succ]
      refine wpAnyH_take (i := 2) (v := ?_) rfl (by kernel_rfl) (by kernel_rfl) (by kernel_rfl) (fun _ _ _ h => h) (Or.inl ⟨by rfl, ?_⟩) (by assumption) ?_
      rotate_left
      · intro w hSw
        try dsimp only at hSw
        go_simp
        try with_reducible rfl
      try simp only [List.getElem_toArray, List.getElem_cons_succ, List.getElem_cons_zero, Act.put, List.setIfInBounds_toArray, List.set_cons_zero, List.set_cons_succ]
      refine wpAnyH_take (i := 3) (v := ?_) rfl (by kernel_rfl) (by kernel_rfl) (by kernel_rfl) (fun _ _ _ h => h) (Or.inl ⟨by rfl, ?_⟩) (by assumption) ?_
      rotate_left
      · intro w hSw
        try dsimp only at hSw
        go_simp
        try with_reducible rfl
      try simp only [List.getElem_toArray, List.getElem_cons_succ, List.getElem_cons_zero, Act.put, List.setIfInBounds_toArray, List.set_cons_zero, List.set_cons_succ]
      refine wpAnyH_take (i := 5) (v := ?_) rfl (by kernel_rfl) (by kernel_rfl) (by kernel_rfl) (fun _ _ _ h => h) (Or.inl ⟨by rfl, ?_⟩) (by assumption) ?_
      rotate_left
      · intro w hSw
        try dsimp only at hSw
        go_simp
        try with_reducible rfl
      try simp only [List.getElem_toArray, List.getElem_cons_succ, List.getElem_cons_zero, Act.put, List.setIfInBounds_toArray, List.set_cons_zero, List.set_cons_succ]
      refine wpAnyH_take (i := 6) (v := ?_) rfl (by kernel_rfl) (by kernel_rfl) (by kernel_rfl) (fun _ _ _ h => h) (Or.inl ⟨by rfl, ?_⟩) (by assumption) ?_
      rotate_left
      · intro w hSw
        try dsimp only at hSw
        go_simp
        try with_reducible rfl
      try simp only [List.getElem_toArray, List.getElem_cons_succ, List.getElem_cons_zero, Act.put, List.setIfInBounds_toArray, List.set_cons_zero, List.set_cons_succ]
      refine wpAnyH_ready (rs := [4, 7]) (by kernel_rfl) (by simp) ?_
      refine AllReadyH.cons rfl (fun Kc hKc => ?_) (AllReadyH.cons rfl (fun Kc hKc => ?_) (AllReadyH.nil))
      · go_simp
        refine hKc.out _ _ (by (try dsimp only); exact q0) (fun hHeld => ?_)
        clear hKc Kc
        try simp only [List.getElem_toArray, List.getElem_cons_succ, List.getElem_cons_zero, Act.put, List.setIfInBounds_toArray, List.set_cons_zero, List.set_cons_succ]
        refine wpAnyH_ready (rs := [7]) (by kernel_rfl) (by simp) ?_
        refine AllReadyH.cons rfl (fun Kc hKc => ?_) AllReadyH.nil
        go_simp
        refine hKc.out _ _ (by (try dsimp only); exact (HB8.out.drew.alloc _).at_ (i := 0) _ rfl) (fun hHeld => ?_)
        clear hKc Kc
        try simp only [List.getElem_toArray, List.getElem_cons_succ, List.getElem_cons_zero, Act.put, List.setIfInBounds_toArray, List.set_cons_zero, List.set_cons_succ]
        refine wpAnyH_ready (rs := [8]) (by kernel_rfl) (by simp) ?_
        refine AllReadyH.cons rfl (fun Kc hKc => ?_) AllReadyH.nil
        refine wp_append_lies _ (.tmp 111) (.tmp 114) 60 rfl B 27 i0 .nilIface 1 16 Tryz.underlying60 I0.out Z0.out Z1.out Z2.out rfl (by decide) (.slice none 0 0) _ _ rfl ((owns_same HO8.out ((Mod.refl _ _).drew)).alloc _) ⟨w8.heap.size, 0, none⟩ 1 1 [.iface U V] rfl rfl (one_new w8.drew _ _) (fun u hu => (by simp at hu; subst hu; rfl)) (by decide) (by unfold maxLen; omega) (by omega) (Nat.le_trans hBw (((Mod.refl (fun _ => False) w8).drew).alloc _).size) _ rfl ?_
        intro g9 cap9 w10 hown hgrow hat hlt
        have HOW := Lib.hid hown
        have HAT := Lib.hid (show (.slice none 0 0 : Value).ownBlock = some g9 ∨ w8.heap.size ≤ g9 from hat.imp id (fun q => by rw [q]; first | exact (((Mod.refl (fun _ => False) w8).drew).alloc _).size | exact (((Mod.refl (fun _ => False) w8).alloc _).drew).size))
        have MA := Lib.hid (show Mod (fun i => False) w8 w10 from (((Mod.refl _ w8).drew).alloc _).grown hgrow (fun k hk hl => by cases hk))
        have HX10 := Lib.hid (HX8.out.mod MA.out (by exact fun q => q))
        have HB10 := Lib.hid (HB8.out.mod MA.out (by exact fun q => q))
        have x7 := HX10.out.at_ (i := 7) _ rfl
        have f7 := HX10.out.free 7
        have lx := HX10.out.lt
        clear hown hgrow hat
        refine hKc.out _ _ (by (try dsimp only); exact HB10.out.at_ (i := 0) _ rfl) (fun hHeld => ?_)
        clear hKc Kc
        try simp only [List.getElem_toArray, List.getElem_cons_succ, List.getElem_cons_zero, Act.put, List.setIfInBounds_toArray, List.set_cons_zero, List.set_cons_succ]
        refine wpAnyH_take (i := 9) (v := ?_) rfl (by kernel_rfl) (by kernel_rfl) (by kernel_rfl) (fun _ _ _ h => h) (Or.inl ⟨by rfl, ?_⟩) (by assumption) ?_
        rotate_left
        · intro w hSw
          try dsimp only at hSw
          go_simp
          try with_reducible rfl
        try simp only [List.getElem_toArray, List.getElem_cons_succ, List.getElem_cons_zero, Act.put, List.setIfInBounds_toArray, List.set_cons_zero, List.set_cons_succ]
        refine wpAnyH_take (i := 10) (v := ?_) rfl (by kernel_rfl) (by kernel_rfl) (by kernel_rfl) (fun _ _ _ h => h) (Or.inl ⟨by rfl, ?_⟩) (by assumption) ?_
        rotate_left
        · intro w hSw
          try dsimp only at hSw
          go_simp
          try with_reducible rfl
        try simp only [List.getElem_toArray, List.getElem_cons_succ, List.getElem_cons_zero, Act.put, List.setIfInBounds_toArray, List.set_cons_zero, List.set_cons_succ]
        refine wpAnyH_ready (rs := [11]) (by kernel_rfl) (by simp) ?_
        refine AllReadyH.cons rfl (fun Kc hKc => ?_) AllReadyH.nil
        go_simp
        refine hKc.out _ _ (by (try dsimp only); exact set_keep (HB10.out.at_ (i := 0) _ rfl) (.inl (fun q => hxx q.symm))) (fun hHeld => ?_)
        clear hKc Kc
        try simp only [List.getElem_toArray, List.getElem_cons_succ, List.getElem_cons_zero, Act.put, List.setIfInBounds_toArray, List.set_cons_zero, List.set_cons_succ]
        refine wpAnyH_done (by kernel_rfl) ?_ _
        go_wp2
        obtain ⟨w11, hw11⟩ : ∃ z, w10.setCell ⟨x, 7, none⟩ (.slice (some ⟨g9, 0, none⟩) 1 cap9) = z := ⟨_, rfl⟩
        rw [hw11]
        have MB := Lib.hid (show Mod (fun i => i = x) w10 w11 by rw [← hw11]; exact (Mod.refl _ _).put)
        have HX11 := Lib.hid (show Blk w11 x #[.int .i64 sl, .int .i64 sz, bp m2, .bool false, .int .i64 eg, bp mq, bp mn, .slice (some ⟨g9, 0, none⟩) 1 cap9] by
          rw [← hw11]
          have h := HX10.out.set 7 (.slice (some ⟨g9, 0, none⟩) 1 cap9)
          simp at h
          exact h)
        have M711 := Lib.hid (show Mod (fun i => i = x) w7 w11 from (M8.out.then_ MA.out (fun _ _ q => q.elim)).then_ MB.out (fun _ _ q => q))
        have M11 := Lib.hid (show Mod (fun i => i = x) w4 w11 from ((M5.out.same N6.out).same N7.out).then_ M711.out (fun _ _ q => q))
        have s1 := M5.out.size
        have s2 := N6.out.size
        have s6 := N7.out.size
        have s7 := M8.out.size
        have s3 := MA.out.size
        have s4 := MB.out.size
        have s5 := N4.out.size
        have hcw := hc
        have hxw := HW.out.blk.lt
        have hat : w8.heap.size ≤ g9 := by
          rcases HAT.out with q | q
          · cases q
          · exact q
        have hg9x : g9 ≠ x := by omega
        have hg9 : g9 < w11.heap.size := by omega
        have HO11 := Lib.hid (own_mod2 HOW.out MB.out (fun b hb q => by
          have e : some g9 = some b := hb
          injection e with e
          exact hg9x (by rw [e]; exact q)))
        have HGD := good_do HN.out.2.1 HN.out.2.2.1 HN.out.2.2.2
        have hg01 := (show 0 ≤ eg ∧ eg ≤ 1000 from ⟨HOK.out.g0, HOK.out.g1⟩)
        have H11 := Lib.hid (show Wt B w11 x sl sz ⟨S', Q, eg, [eo]⟩ from ⟨⟨HGD.1, HGD.2.1, HQ.out.2.1, HQ.out.2.2, hg01.1, hg01.2, (fun o ho => by
            rw [List.mem_singleton.1 ho]
            exact okO_of HOK.out.form HOK.out.fits), by show 1 ≤ 10000; omega⟩,
          m2, mq, mn, _, _, _, ⟨HX11.out, HM.out.moreN M11.out (fun b _ q => by omega), HMQ.out.moreN M711.out (fun b _ q => by omega), by
              have := HO11.out
              rw [show [eo].map ordW = [] ++ [.iface U V] by simp [HUV.out]]
              exact this, (fun i hi => ⟨.inl (by omega), .inl (by omega)⟩), ⟨.inl (by omega), .inl (by omega)⟩, (fun b hb => by
              have e : some g9 = some b := hb
              injection e with e
              rw [← e]
              exact ⟨.inr ⟨by omega, hg9⟩, .inr ⟨by omega, hg9⟩, hg9x⟩), (fun b hb => by
              by_cases q2 : b < w4.heap.size
              · exact .inr (.inl (by omega))
              · exact .inl (.inr ⟨by omega, hb⟩)), hBx⟩⟩)
        exact HR.out _ _ ⟨some ⟨S', Q, eg, [eo]⟩, rfl, .inr ⟨hk, .inr ⟨hgd, N, f, er2, d2, tells, S', HN.out.1, HN.out.2.1, HN.out.2.2.1, HN.out.2.2.2, .inr ⟨hs, .inr ⟨hge, Q, fq, HQ.out.1, rfl⟩⟩⟩⟩, (fun s' q => by cases q; exact H11.out), (N4.out.mono (fun _ _ q => q.elim)).then_ M11.out (fun i _ q => by rw [q]; exact hBx)⟩
      · go_simp
        refine hKc.out _ _ (by (try dsimp only); exact (HB8.out.drew.alloc _).at_ (i := 0) _ rfl) (fun hHeld => ?_)
        clear hKc Kc
        try simp only [List.getElem_toArray, List.getElem_cons_succ, List.getElem_cons_zero, Act.put, List.setIfInBounds_toArray, List.set_cons_zero, List.set_cons_succ]
        refine wpAnyH_ready (rs := [4]) (by kernel_rfl) (by simp) ?_
        refine AllReadyH.cons rfl (fun Kc hKc => ?_) AllReadyH.nil
        go_simp
        refine hKc.out _ _ (by (try dsimp only); exact (HB8.out.drew.alloc _).at_ (i := 0) _ rfl) (fun hHeld => ?_)
        clear hKc Kc
        try simp only [List.getElem_toArray, List.getElem_cons_succ, List.getElem_cons_zero, Act.put, List.setIfInBounds_toArray, List.set_cons_zero, List.set_cons_succ]
        refine wpAnyH_ready (rs := [8]) (by kernel_rfl) (by simp) ?_
        refine AllReadyH.cons rfl (fun Kc hKc => ?_) AllReadyH.nil
        refine wp_append_lies _ (.tmp 111) (.tmp 114) 60 rfl B 27 i0 .nilIface 1 16 Tryz.underlying60 I0.out Z0.out Z1.out Z2.out rfl (by decide) (.slice none 0 0) _ _ rfl ((owns_same HO8.out ((Mod.refl _ _).drew)).alloc _) ⟨w8.heap.size, 0, none⟩ 1 1 [.iface U V] rfl rfl (one_new w8.drew _ _) (fun u hu => (by simp at hu; subst hu; rfl)) (by decide) (by unfold maxLen; omega) (by omega) (Nat.le_trans hBw (((Mod.refl (fun _ => False) w8).drew).alloc _).size) _ rfl ?_
        intro g9 cap9 w10 hown hgrow hat hlt
        have HOW := Lib.hid hown
        have HAT := Lib.hid (show (.slice none 0 0 : Value).ownBlock = some g9 ∨ w8.heap.size ≤ g9 from hat.imp id (fun q => by rw [q]; first | exact (((Mod.refl (fun _ => False) w8).drew).alloc _).size | exact (((Mod.refl (fun _ => False) w8).alloc _).drew).size))
        have MA := Lib.hid (show Mod (fun i => False) w8 w10 from (((Mod.refl _ w8).drew).alloc _).grown hgrow (fun k hk hl => by cases hk))
        have HX10 := Lib.hid (HX8.out.mod MA.out (by exact fun q => q))
        have HB10 := Lib.hid (HB8.out.mod MA.out (by exact fun q => q))
        have x7 := HX10.out.at_ (i := 7) _ rfl
        have f7 := HX10.out.free 7
        have lx := HX10.out.lt
        clear hown hgrow hat
        refine hKc.out _ _ (by (try dsimp only); exact HB10.out.at_ (i := 0) _ rfl) (fun hHeld => ?_)
        clear hKc Kc
        try simp only [List.getElem_toArray, List.getElem_cons_succ, List.getElem_cons_zero, Act.put, List.setIfInBounds_toArray, List.set_cons_zero, List.set_cons_succ]
        refine wpAnyH_take (i := 9) (v := ?_) rfl (by kernel_rfl) (by kernel_rfl) (by kernel_rfl) (fun _ _ _ h => h) (Or.inl ⟨by rfl, ?_⟩) (by assumption) ?_
        rotate_left
        · intro w hSw
          try dsimp only at hSw
          go_simp
          try with_reducible rfl
        try simp only [List.getElem_toArray, List.getElem_cons_succ, List.getElem_cons_zero, Act.put, List.setIfInBounds_toArray, List.set_cons_zero, List.set_cons_succ]
        refine wpAnyH_take (i := 10) (v := ?_) rfl (by kernel_rfl) (by kernel_rfl) (by kernel_rfl) (fun _ _ _ h => h) (Or.inl ⟨by rfl, ?_⟩) (by assumption) ?_
        rotate_left
        · intro w hSw
          try dsimp only at hSw
          go_simp
          try with_reducible rfl
        try simp only [List.getElem_toArray, List.getElem_cons_succ, List.getElem_cons_zero, Act.put, List.setIfInBounds_toArray, List.set_cons_zero, List.set_cons_succ]
        refine wpAnyH_ready (rs := [11]) (by kernel_rfl) (by simp) ?_
        refine AllReadyH.cons rfl (fun Kc hKc => ?_) AllReadyH.nil
        go_simp
        refine hKc.out _ _ (by (try dsimp only); exact set_keep (HB10.out.at_ (i := 0) _ rfl) (.inl (fun q => hxx q.symm))) (fun hHeld => ?_)
        clear hKc Kc
        try simp only [List.getElem_toArray, List.getElem_cons_succ, List.getElem_cons_zero, Act.put, List.setIfInBounds_toArray, List.set_cons_zero, List.set_cons_succ]
        refine wpAnyH_done (by kernel_rfl) ?_ _
        go_wp2
        obtain ⟨w11, hw11⟩ : ∃ z, w10.setCell ⟨x, 7, none⟩ (.slice (some ⟨g9, 0, none⟩) 1 cap9) = z := ⟨_, rfl⟩
        rw [hw11]
        have MB := Lib.hid (show Mod (fun i => i = x) w10 w11 by rw [← hw11]; exact (Mod.refl _ _).put)
        have HX11 := Lib.hid (show Blk w11 x #[.int .i64 sl, .int .i64 sz, bp m2, .bool false, .int .i64 eg, bp mq, bp mn, .slice (some ⟨g9, 0, none⟩) 1 cap9] by
          rw [← hw11]
          have h := HX10.out.set 7 (.slice (some ⟨g9, 0, none⟩) 1 cap9)
          simp at h
          exact h)
        have M711 := Lib.hid (show Mod (fun i => i = x) w7 w11 from (M8.out.then_ MA.out (fun _ _ q => q.elim)).then_ MB.out (fun _ _ q => q))
        have M11 := Lib.hid (show Mod (fun i => i = x) w4 w11 from ((M5.out.same N6.out).same N7.out).then_ M711.out (fun _ _ q => q))
        have s1 := M5.out.size
        have s2 := N6.out.size
        have s6 := N7.out.size
        have s7 := M8.out.size
        have s3 := MA.out.size
        have s4 := MB.out.size
        have s5 := N4.out.size
        have hcw := hc
        have hxw := HW.out.blk.lt
        have hat : w8.heap.size ≤ g9 := by
          rcases HAT.out with q | q
          · cases q
          · exact q
        have hg9x : g9 ≠ x := by omega
        have hg9 : g9 < w11.heap.size := by omega
        have HO11 := Lib.hid (own_mod2 HOW.out MB.out (fun b hb q => by
          have e : some g9 = some b := hb
          injection e with e
          exact hg9x (by rw [e]; exact q)))
        have HGD := good_do HN.out.2.1 HN.out.2.2.1 HN.out.2.2.2
        have hg01 := (show 0 ≤ eg ∧ eg ≤ 1000 from ⟨HOK.out.g0, HOK.out.g1⟩)
        have H11 := Lib.hid (show Wt B w11 x sl sz ⟨S', Q, eg, [eo]⟩ from ⟨⟨HGD.1, HGD.2.1, HQ.out.2.1, HQ.out.2.2, hg01.1, hg01.2, (fun o ho => by
            rw [List.mem_singleton.1 ho]
            exact okO_of HOK.out.form HOK.out.fits), by show 1 ≤ 10000; omega⟩,
          m2, mq, mn, _, _, _, ⟨HX11.out, HM.out.moreN M11.out (fun b _ q => by omega), HMQ.out.moreN M711.out (fun b _ q => by omega), by
              have := HO11.out
              rw [show [eo].map ordW = [] ++ [.iface U V] by simp [HUV.out]]
              exact this, (fun i hi => ⟨.inl (by omega), .inl (by omega)⟩), ⟨.inl (by omega), .inl (by omega)⟩, (fun b hb => by
              have e : some g9 = some b := hb
              injection e with e
              rw [← e]
              exact ⟨.inr ⟨by omega, hg9⟩, .inr ⟨by omega, hg9⟩, hg9x⟩), (fun b hb => by
              by_cases q2 : b < w4.heap.size
              · exact .inr (.inl (by omega))
              · exact .inl (.inr ⟨by omega, hb⟩)), hBx⟩⟩)
        exact HR.out _ _ ⟨some ⟨S', Q, eg, [eo]⟩, rfl, .inr ⟨hk, .inr ⟨hgd, N, f, er2, d2, tells, S', HN.out.1, HN.out.2.1, HN.out.2.2.1, HN.out.2.2.2, .inr ⟨hs, .inr ⟨hge, Q, fq, HQ.out.1, rfl⟩⟩⟩⟩, (fun s' q => by cases q; exact H11.out), (N4.out.mono (fun _ _ q => q.elim)).then_ M11.out (fun i _ q => by rw [q]; exact hBx)⟩
end Go.Proofs.YtlcepoagpocadaaGreatDoor
