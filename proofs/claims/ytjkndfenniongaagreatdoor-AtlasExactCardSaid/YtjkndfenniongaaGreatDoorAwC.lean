import Derived.Test.YtjkndfenniongaaGreatDoorAwA
import Derived.Test.YtjkndfenniongaaGreatDoorAtF
set_option linter.unusedSimpArgs false
set_option linter.unusedVariables false
set_option maxRecDepth 100000
/- The document's reading of a head. -/
namespace Go.Proofs.YtjkndfenniongaaGreatDoor
open Go Go.RowKit
theorem ext_bytes (l : List UInt8) (i j : Nat) : (⟨l.toArray⟩ : ByteArray).extract i j = ⟨((l.drop i).take (j - i)).toArray⟩ := by
  apply ByteArray.ext
  rw [ByteArray.data_extract]
  apply Array.ext'
  simp [Array.toList_extract, List.extract_eq_take_drop]
def pD (l : List UInt8) : Hd := ⟨leV ((l.drop 6).take 4), leV ((l.drop 10).take 2), leV ((l.drop 2).take 2), leV ((l.drop 4).take 2), ((l.getD 1 0).toNat : Int)⟩
def readHD (l : List UInt8) : Option Hd := if goodH (pD l) = true ∧ headB (pD l) = l then some (pD l) else none
def RHead (l : List UInt8) (e : Ending) : Prop := match readHD l with
  | none => e = .returned (.tuple #[hdV zeroH, .bool false])
  | some h => e = .returned (.tuple #[hdV h, .bool true])
theorem lev2_i64 (l : List UInt8) : IntKind.i64.wrap (leV (l.take 2)) = leV (l.take 2) := by
  have h1 := leV_bd (l.take 2)
  have h2 : (256 : Int) ^ (l.take 2).length ≤ 256 ^ 2 := by exact_mod_cast Nat.pow_le_pow_right (by decide) (by simp; omega)
  have h3 : (256 : Int) ^ 2 = 65536 := by decide
  exact IntWalk.i64_in _ (by omega)
set_option maxHeartbeats 16000000 in
theorem rread6_any (l : List UInt8) (hl : l.length = 16) (w : World) : Calls Tryz.prog 39 #[strV l] w fun e w' => RHead l e ∧ Same w w' := by
    refine opq fun R HR => ?_
    unfold strV
    have hls : (⟨l.toArray⟩ : ByteArray).size = 16 := by rw [bytes_size]; exact hl
    have x1 : (⟨l.toArray⟩ : ByteArray).extract 6 10 = ⟨((l.drop 6).take 4).toArray⟩ := ext_bytes l 6 10
    have x2 : (⟨l.toArray⟩ : ByteArray).extract 10 12 = ⟨((l.drop 10).take 2).toArray⟩ := ext_bytes l 10 12
    have x3 : (⟨l.toArray⟩ : ByteArray).extract 2 4 = ⟨((l.drop 2).take 2).toArray⟩ := ext_bytes l 2 4
    have x4 : (⟨l.toArray⟩ : ByteArray).extract 4 6 = ⟨((l.drop 4).take 2).toArray⟩ := ext_bytes l 4 6
    have HN1 := Lib.hid (fun w => refN_any ((l.drop 6).take 4) (by simp; omega) w)
    have HN2 := Lib.hid (fun w => refN_any ((l.drop 10).take 2) (by simp; omega) w)
    have HN3 := Lib.hid (fun w => refN_any ((l.drop 2).take 2) (by simp; omega) w)
    have HN4 := Lib.hid (fun w => refN_any ((l.drop 4).take 2) (by simp; omega) w)
    have hb1 : ∀ h, (⟨l.toArray⟩ : ByteArray)[1]'h = l.getD 1 0 := fun h => by rw [List.getD_eq_getElem?_getD, List.getElem?_eq_getElem (by omega)]; rfl
    have HB1 := Lib.hid hb1
    have vb : IntKind.i64.wrap (((l.getD 1 0).toNat : Nat) : Int) = ((l.getD 1 0).toNat : Int) := by
      have := (l.getD 1 0).toNat_lt
      exact IntWalk.i64_in _ (by omega)
    have v10 : IntKind.i64.wrap (leV ((l.drop 10).take 2)) = leV ((l.drop 10).take 2) := lev2_i64 _
    have v2 : IntKind.i64.wrap (leV ((l.drop 2).take 2)) = leV ((l.drop 2).take 2) := lev2_i64 _
    have v4 : IntKind.i64.wrap (leV ((l.drop 4).take 2)) = leV ((l.drop 4).take 2) := lev2_i64 _
    have VB := Lib.hid vb
    have V10 := Lib.hid v10
    have HGd := Lib.hid (fun w => rgood6_any (pD l) w)
    have HBy := Lib.hid (fun (hg : goodH (pD l) = true) w => rbytes6_any (pD l) hg w)
    unfold RHead readHD at HR
    have HRR := Lib.hid HR
    clear HR hb1 vb v10
    have M0 := Lib.hid (show Same w (w.alloc (.cells #[.int .u64 0, .int .i64 0, .int .i64 0, .int .i64 0, .int .i64 0] 53)) from (Mod.refl _ _).alloc _)
    have X0 := Lib.hid (Blk.new w #[.int .u64 0, .int .i64 0, .int .i64 0, .int .i64 0, .int .i64 0] 53)
    go_enter Tryz.func39, Tryz.ntmps39
    go_wp2_with fail
    generalize w.alloc _ = W at *
    refine wp_region_held_drew (S := fun w' => Same W w') (by kernel_rfl) (by (try dsimp only); exact (Mod.refl _ _).drew) (fun hHeld => ?_)
    refine wpAnyH_take (i := 0) (v := ?_) rfl (by kernel_rfl) (by kernel_rfl) (by kernel_rfl) (fun _ _ _ h => h) (Or.inl ⟨by rfl, ?_⟩) (by assumption) ?_
    rotate_left
    · intro w hSw
      try dsimp only at hSw
      go_simp
      try with_reducible rfl
    try simp only [List.getElem_toArray, List.getElem_cons_succ, List.getElem_cons_zero, Act.put, List.setIfInBounds_toArray, List.set_cons_zero, List.set_cons_succ]
    refine wpAnyH_take (i := 1) (v := ?_) rfl (by kernel_rfl) (by kernel_rfl) (by kernel_rfl) (fun _ _ _ h => h) (Or.inl ⟨by rfl, ?_⟩) (by assumption) ?_
    rotate_left
    · intro w hSw
      try dsimp only at hSw
      go_simp
      try with_reducible rfl
    try simp only [List.getElem_toArray, List.getElem_cons_succ, List.getElem_cons_zero, Act.put, List.setIfInBounds_toArray, List.set_cons_zero, List.set_cons_succ]
    refine wpAnyH_take (i := 2) (v := ?_) rfl (by kernel_rfl) (by kernel_rfl) (by kernel_rfl) (fun _ _ _ h => h) (Or.inl ⟨by rfl, ?_⟩) (by assumption) ?_
    rotate_left
    · intro w hSw
      try dsimp only at hSw
      go_simp
      try with_reducible rfl
    try simp only [List.getElem_toArray, List.getElem_cons_succ, List.getElem_cons_zero, Act.put, List.setIfInBounds_toArray, List.set_cons_zero, List.set_cons_succ]
    refine wpAnyH_take (i := 3) (v := ?_) rfl (by kernel_rfl) (by kernel_rfl) (by kernel_rfl) (fun _ _ _ h => h) (Or.inl ⟨by rfl, ?_⟩) (by assumption) ?_
    rotate_left
    · intro w hSw
      try dsimp only at hSw
      go_simp
      try with_reducible rfl
    try simp only [List.getElem_toArray, List.getElem_cons_succ, List.getElem_cons_zero, Act.put, List.setIfInBounds_toArray, List.set_cons_zero, List.set_cons_succ]
    refine wpAnyH_take (i := 4) (v := ?_) rfl (by kernel_rfl) (by kernel_rfl) (by kernel_rfl) (fun _ _ _ h => h) (Or.inl ⟨by rfl, ?_⟩) (by assumption) ?_
    rotate_left
    · intro w hSw
      try dsimp only at hSw
      go_simp
      try with_reducible rfl
    try simp only [List.getElem_toArray, List.getElem_cons_succ, List.getElem_cons_zero, Act.put, List.setIfInBounds_toArray, List.set_cons_zero, List.set_cons_succ]
    refine wpAnyH_take (i := 6) (v := ?_) rfl (by kernel_rfl) (by kernel_rfl) (by kernel_rfl) (fun _ _ _ h => h) (Or.inl ⟨by rfl, ?_⟩) (by assumption) ?_
    rotate_left
    · intro w hSw
      try dsimp only at hSw
      go_simp
      try with_reducible rfl
    try simp only [List.getElem_toArray, List.getElem_cons_succ, List.getElem_cons_zero, Act.put, List.setIfInBounds_toArray, List.set_cons_zero, List.set_cons_succ]
    refine wpAnyH_take (i := 7) (v := ?_) rfl (by kernel_rfl) (by kernel_rfl) (by kernel_rfl) (fun _ _ _ h => h) (Or.inl ⟨by rfl, ?_⟩) (by assumption) ?_
    rotate_left
    · intro w hSw
      try dsimp only at hSw
      go_simp
      try with_reducible rfl
    try simp only [List.getElem_toArray, List.getElem_cons_succ, List.getElem_cons_zero, Act.put, List.setIfInBounds_toArray, List.set_cons_zero, List.set_cons_succ]
    refine wpAnyH_ready (rs := [5, 11]) (by kernel_rfl) (by simp) ?_
    refine AllReadyH.cons rfl (fun Kc hKc => ?_) (AllReadyH.cons rfl (fun Kc hKc => ?_) (AllReadyH.nil))
    · go_simp
      refine (HN1.out _).mono ?_
      rintro e wq ⟨rfl, rfl⟩
      go_wp2_with fail
      refine hKc.out _ _ (by (try dsimp only); first | exact (Mod.refl _ _).drew | exact ((Mod.refl _ _).drew).alloc _ | exact ((Mod.refl _ _).alloc _).drew) (fun hHeld => ?_)
      clear hKc Kc
      try simp only [List.getElem_toArray, List.getElem_cons_succ, List.getElem_cons_zero, Act.put, List.setIfInBounds_toArray, List.set_cons_zero, List.set_cons_succ]
      refine wpAnyH_ready (rs := [8, 11]) (by kernel_rfl) (by simp) ?_
      refine AllReadyH.cons rfl (fun Kc hKc => ?_) (AllReadyH.cons rfl (fun Kc hKc => ?_) (AllReadyH.nil))
      · go_simp
        refine (HN2.out _).mono ?_
        rintro e wq ⟨rfl, rfl⟩
        go_wp2_with fail
        refine hKc.out _ _ (by (try dsimp only); first | exact (Mod.refl _ _).drew | exact ((Mod.refl _ _).drew).alloc _ | exact ((Mod.refl _ _).alloc _).drew) (fun hHeld => ?_)
        clear hKc Kc
        try simp only [List.getElem_toArray, List.getElem_cons_succ, List.getElem_cons_zero, Act.put, List.setIfInBounds_toArray, List.set_cons_zero, List.set_cons_succ]
        refine wpAnyH_take (i := 9) (v := ?_) rfl (by kernel_rfl) (by kernel_rfl) (by kernel_rfl) (fun _ _ _ h => h) (Or.inl ⟨by rfl, ?_⟩) (by assumption) ?_
        rotate_left
        · intro w hSw
          try dsimp only at hSw
          go_simp
          try with_reducible rfl
        try simp only [List.getElem_toArray, List.getElem_cons_succ, List.getElem_cons_zero, Act.put, List.setIfInBounds_toArray, List.set_cons_zero, List.set_cons_succ]
        refine wpAnyH_take (i := 10) (v := ?_) rfl (by kernel_rfl) (by kernel_rfl) (by kernel_rfl) (fun _ _ _ h => h) (Or.inl ⟨by rfl, ?_⟩) (by assumption) ?_
        rotate_left
        · intro w hSw
          try dsimp only at hSw
          go_simp
          try with_reducible rfl
        try simp only [List.getElem_toArray, List.getElem_cons_succ, List.getElem_cons_zero, Act.put, List.setIfInBounds_toArray, List.set_cons_zero, List.set_cons_succ]
        refine wpAnyH_ready (rs := [11]) (by kernel_rfl) (by simp) ?_
        refine AllReadyH.cons rfl (fun Kc hKc => ?_) AllReadyH.nil
        go_simp
        refine hKc.out _ _ (by (try dsimp only); first | exact (Mod.refl _ _).drew | exact ((Mod.refl _ _).drew).alloc _ | exact ((Mod.refl _ _).alloc _).drew) (fun hHeld => ?_)
        clear hKc Kc
        try simp only [List.getElem_toArray, List.getElem_cons_succ, List.getElem_cons_zero, Act.put, List.setIfInBounds_toArray, List.set_cons_zero, List.set_cons_succ]
        refine wpAnyH_ready (rs := [12]) (by kernel_rfl) (by simp) ?_
        refine AllReadyH.cons rfl (fun Kc hKc => ?_) AllReadyH.nil
        go_simp
        refine hKc.out _ _ (by (try dsimp only); first | exact (Mod.refl _ _).drew | exact ((Mod.refl _ _).drew).alloc _ | exact ((Mod.refl _ _).alloc _).drew) (fun hHeld => ?_)
        clear hKc Kc
        try simp only [List.getElem_toArray, List.getElem_cons_succ, List.getElem_cons_zero, Act.put, List.setIfInBounds_toArray, List.set_cons_zero, List.set_cons_succ]
        refine wpAnyH_done (by kernel_rfl) ?_ _
        rw [HB1.out, VB.out, V10.out]
        have X4 := Lib.hid ((Blk.new W #[.int .u64 (leV ((l.drop 6).take 4)), .int .i64 (leV ((l.drop 10).take 2)), .int .i64 0, .int .i64 0, .int .i64 ((l.getD 1 0).toNat : Int)] 53).drew)
        have Z4 := Lib.hid ((X0.out.alloc (.cells #[.int .u64 (leV ((l.drop 6).take 4)), .int .i64 (leV ((l.drop 10).take 2)), .int .i64 0, .int .i64 0, .int .i64 ((l.getD 1 0).toNat : Int)] 53)).drew)
        have M4 := Lib.hid ((M0.out.alloc (.cells #[.int .u64 (leV ((l.drop 6).take 4)), .int .i64 (leV ((l.drop 10).take 2)), .int .i64 0, .int .i64 0, .int .i64 ((l.getD 1 0).toNat : Int)] 53)).drew)
        have hlt0 := X0.out.lt
        generalize hZ : W.heap.size = Z at *
        have hpd : pD l = ⟨leV ((l.drop 6).take 4), leV ((l.drop 10).take 2), leV ((l.drop 2).take 2), leV ((l.drop 4).take 2), ((l.getD 1 0).toNat : Int)⟩ := rfl
        generalize pD l = hd at *
        subst hpd
        generalize leV ((l.drop 6).take 4) = gn at *
        generalize leV ((l.drop 10).take 2) = rt at *
        generalize leV ((l.drop 2).take 2) = a0 at *
        generalize leV ((l.drop 4).take 2) = a1 at *
        generalize ((l.getD 1 0).toNat : Int) = ch at *
        generalize (W.alloc (.cells #[.int .u64 gn, .int .i64 rt, .int .i64 0, .int .i64 0, .int .i64 ch] 53)).drew = W4 at *
        have y2 := X4.out.at_ (i := 2) _ rfl
        have z2 := X4.out.free 2
        go_wp2_with fail
        refine (HN3.out _).mono ?_
        rintro e wq ⟨rfl, rfl⟩
        have X5 := Lib.hid (X4.out.set 2 (.int .i64 a0))
        have Z5 := Lib.hid (Z4.out.set_far (p := ⟨Z, 2, none⟩) (fun e => by dsimp only at e; omega) (.int .i64 a0))
        have M5 := Lib.hid ((show Mod (fun i => i = Z) _ _ from (Mod.refl (fun i => i = Z) wq).setCell (p := ⟨Z, 2, none⟩) (fun _ => rfl) (.int .i64 a0)))
        have y3 := X5.out.at_ (i := 3) _ rfl
        have z3 := X5.out.free 3
        go_wp2_with fail
        generalize wq.setCell ⟨Z, 2, none⟩ (.int .i64 a0) = W5 at *
        have M5a := Lib.hid (M4.out.then_ M5.out (fun i hi q => by omega))
        refine (HN4.out _).mono ?_
        rintro e wr ⟨rfl, rfl⟩
        clear y2 z2 y3 z3 X4 Z4 M4 M5
        have X6 := Lib.hid (X5.out.set 3 (.int .i64 a1))
        have Z6 := Lib.hid (Z5.out.set_far (p := ⟨Z, 3, none⟩) (fun e => by dsimp only at e; omega) (.int .i64 a1))
        have M6 := Lib.hid (M5a.out.then_ ((show Mod (fun i => i = Z) _ _ from (Mod.refl (fun i => i = Z) wr).setCell (p := ⟨Z, 3, none⟩) (fun _ => rfl) (.int .i64 a1))) (fun i hi q => by omega))
        have y3 := X5.out.at_ (i := 3) _ rfl
        have z3 := X5.out.free 3
        have x60 := X6.out.at_ (i := 0) _ rfl
        have x61 := X6.out.at_ (i := 1) _ rfl
        have x62 := X6.out.at_ (i := 2) _ rfl
        have x63 := X6.out.at_ (i := 3) _ rfl
        have x64 := X6.out.at_ (i := 4) _ rfl
        clear X5 Z5 M5a
        try dsimp only at HGd HBy HRR
        go_wp2_with fail
        generalize wr.setCell ⟨Z, 3, none⟩ (.int .i64 a1) = W6 at *
        refine (HGd.out _).mono ?_
        rintro e w7 ⟨rfl, M⟩
        have X7 := Lib.hid (X6.out.mod M (fun q => q))
        have Z7 := Lib.hid (Z6.out.mod M (fun q => q))
        have M7 := Lib.hid (M6.out.same M)
        clear M X6 Z6 M6 HGd x60 x61 x62 x63 x64 y3 z3
        cases hg : goodH ⟨gn, rt, a0, a1, ch⟩ with
        | false =>
          have HR := Lib.hid HRR.out
          rw [if_neg (by rw [hg]; simp)] at HR
          dsimp only [hdV, hdC, zeroH] at HR
          have q0 := Z7.out.at_ (i := 0) _ rfl
          have p0 := Z7.out.free 0
          have q1 := Z7.out.at_ (i := 1) _ rfl
          have p1 := Z7.out.free 1
          have q2 := Z7.out.at_ (i := 2) _ rfl
          have p2 := Z7.out.free 2
          have q3 := Z7.out.at_ (i := 3) _ rfl
          have p3 := Z7.out.free 3
          have q4 := Z7.out.at_ (i := 4) _ rfl
          have p4 := Z7.out.free 4
          have YF := Lib.hid (five_set Z7.out (.int .u64 0) (.int .i64 0) (.int .i64 0) (.int .i64 0) (.int .i64 0))
          have NF := Lib.hid (M7.out.then_ (five_mod _ w.heap.size (.int .u64 0) (.int .i64 0) (.int .i64 0) (.int .i64 0) (.int .i64 0)) (fun i hi q => by omega))
          go_wp2_with fail
          generalize World.setCell _ _ _ = wF at *
          have r0 := YF.out.at_ (i := 0) _ rfl
          have r1 := YF.out.at_ (i := 1) _ rfl
          have r2 := YF.out.at_ (i := 2) _ rfl
          have r3 := YF.out.at_ (i := 3) _ rfl
          have r4 := YF.out.at_ (i := 4) _ rfl
          exact bodyPost_ret (v := .tuple #[.agg #[.int .u64 0, .int .i64 0, .int .i64 0, .int .i64 0, .int .i64 0], .bool false]) (by simp [results, Tryz.results39, go_sem, r0, r1, r2, r3, r4]) rfl (HR.out _ _ ⟨rfl, NF.out⟩)
        | true =>
          have x70 := X7.out.at_ (i := 0) _ rfl
          have x71 := X7.out.at_ (i := 1) _ rfl
          have x72 := X7.out.at_ (i := 2) _ rfl
          have x73 := X7.out.at_ (i := 3) _ rfl
          have x74 := X7.out.at_ (i := 4) _ rfl
          have HB := Lib.hid (HBy.out hg)
          unfold strV at HB
          go_wp2_with fail
          refine (HB.out _).mono ?_
          rintro e w8 ⟨rfl, M⟩
          have X8 := Lib.hid (X7.out.mod M (fun q => q))
          have Z8 := Lib.hid (Z7.out.mod M (fun q => q))
          have M8 := Lib.hid (M7.out.same M)
          clear M X7 Z7 M7 HB HBy x70 x71 x72 x73 x74
          by_cases hq : headB ⟨gn, rt, a0, a1, ch⟩ = l
          · have HR := Lib.hid HRR.out
            rw [if_pos ⟨hg, hq⟩] at HR
            dsimp only [hdV, hdC] at HR
            rw [hq]
            clear hq
            have x80 := X8.out.at_ (i := 0) _ rfl
            have x81 := X8.out.at_ (i := 1) _ rfl
            have x82 := X8.out.at_ (i := 2) _ rfl
            have x83 := X8.out.at_ (i := 3) _ rfl
            have x84 := X8.out.at_ (i := 4) _ rfl
            have q0 := Z8.out.at_ (i := 0) _ rfl
            have p0 := Z8.out.free 0
            have q1 := Z8.out.at_ (i := 1) _ rfl
            have p1 := Z8.out.free 1
            have q2 := Z8.out.at_ (i := 2) _ rfl
            have p2 := Z8.out.free 2
            have q3 := Z8.out.at_ (i := 3) _ rfl
            have p3 := Z8.out.free 3
            have q4 := Z8.out.at_ (i := 4) _ rfl
            have p4 := Z8.out.free 4
            have YF := Lib.hid (five_set Z8.out (.int .u64 gn) (.int .i64 rt) (.int .i64 a0) (.int .i64 a1) (.int .i64 ch))
            have NF := Lib.hid (M8.out.then_ (five_mod _ w.heap.size (.int .u64 gn) (.int .i64 rt) (.int .i64 a0) (.int .i64 a1) (.int .i64 ch)) (fun i hi q => by omega))
            go_wp2_with fail
            generalize World.setCell _ _ _ = wF at *
            have r0 := YF.out.at_ (i := 0) _ rfl
            have r1 := YF.out.at_ (i := 1) _ rfl
            have r2 := YF.out.at_ (i := 2) _ rfl
            have r3 := YF.out.at_ (i := 3) _ rfl
            have r4 := YF.out.at_ (i := 4) _ rfl
            exact bodyPost_ret (v := .tuple #[.agg #[.int .u64 gn, .int .i64 rt, .int .i64 a0, .int .i64 a1, .int .i64 ch], .bool true]) (by simp [results, Tryz.results39, go_sem, r0, r1, r2, r3, r4]) rfl (HR.out _ _ ⟨rfl, NF.out⟩)
          · have HR := Lib.hid HRR.out
            rw [if_neg (fun q => hq q.2)] at HR
            dsimp only [hdV, hdC, zeroH] at HR
            generalize headB ⟨gn, rt, a0, a1, ch⟩ = hB at *
            have hn1 : (hB == l) = false := beq_eq_false_iff_ne.2 hq
            clear hq
            have q0 := Z8.out.at_ (i := 0) _ rfl
            have p0 := Z8.out.free 0
            have q1 := Z8.out.at_ (i := 1) _ rfl
            have p1 := Z8.out.free 1
            have q2 := Z8.out.at_ (i := 2) _ rfl
            have p2 := Z8.out.free 2
            have q3 := Z8.out.at_ (i := 3) _ rfl
            have p3 := Z8.out.free 3
            have q4 := Z8.out.at_ (i := 4) _ rfl
            have p4 := Z8.out.free 4
            have YF := Lib.hid (five_set Z8.out (.int .u64 0) (.int .i64 0) (.int .i64 0) (.int .i64 0) (.int .i64 0))
            have NF := Lib.hid (M8.out.then_ (five_mod _ w.heap.size (.int .u64 0) (.int .i64 0) (.int .i64 0) (.int .i64 0) (.int .i64 0)) (fun i hi q => by omega))
            go_wp2_with fail
            generalize World.setCell _ _ _ = wF at *
            have r0 := YF.out.at_ (i := 0) _ rfl
            have r1 := YF.out.at_ (i := 1) _ rfl
            have r2 := YF.out.at_ (i := 2) _ rfl
            have r3 := YF.out.at_ (i := 3) _ rfl
            have r4 := YF.out.at_ (i := 4) _ rfl
            exact bodyPost_ret (v := .tuple #[.agg #[.int .u64 0, .int .i64 0, .int .i64 0, .int .i64 0, .int .i64 0], .bool false]) (by simp [results, Tryz.results39, go_sem, r0, r1, r2, r3, r4]) rfl (HR.out _ _ ⟨rfl, NF.out⟩)
      · go_simp
        refine hKc.out _ _ (by (try dsimp only); first | exact (Mod.refl _ _).drew | exact ((Mod.refl _ _).drew).alloc _ | exact ((Mod.refl _ _).alloc _).drew) (fun hHeld => ?_)
        clear hKc Kc
        try simp only [List.getElem_toArray, List.getElem_cons_succ, List.getElem_cons_zero, Act.put, List.setIfInBounds_toArray, List.set_cons_zero, List.set_cons_succ]
        refine wpAnyH_ready (rs := [8]) (by kernel_rfl) (by simp) ?_
        refine AllReadyH.cons rfl (fun Kc hKc => ?_) AllReadyH.nil
        go_simp
        refine (HN2.out _).mono ?_
        rintro e wq ⟨rfl, rfl⟩
        go_wp2_with fail
        refine hKc.out _ _ (by (try dsimp only); first | exact (Mod.refl _ _).drew | exact ((Mod.refl _ _).drew).alloc _ | exact ((Mod.refl _ _).alloc _).drew) (fun hHeld => ?_)
        clear hKc Kc
        try simp only [List.getElem_toArray, List.getElem_cons_succ, List.getElem_cons_zero, Act.put, List.setIfInBounds_toArray, List.set_cons_zero, List.set_cons_succ]
        refine wpAnyH_take (i := 9) (v := ?_) rfl (by kernel_rfl) (by kernel_rfl) (by kernel_rfl) (fun _ _ _ h => h) (Or.inl ⟨by rfl, ?_⟩) (by assumption) ?_
        rotate_left
        · intro w hSw
          try dsimp only at hSw
          go_simp
          try with_reducible rfl
        try simp only [List.getElem_toArray, List.getElem_cons_succ, List.getElem_cons_zero, Act.put, List.setIfInBounds_toArray, List.set_cons_zero, List.set_cons_succ]
        refine wpAnyH_take (i := 10) (v := ?_) rfl (by kernel_rfl) (by kernel_rfl) (by kernel_rfl) (fun _ _ _ h => h) (Or.inl ⟨by rfl, ?_⟩) (by assumption) ?_
        rotate_left
        · intro w hSw
          try dsimp only at hSw
          go_simp
          try with_reducible rfl
        try simp only [List.getElem_toArray, List.getElem_cons_succ, List.getElem_cons_zero, Act.put, List.setIfInBounds_toArray, List.set_cons_zero, List.set_cons_succ]
        refine wpAnyH_ready (rs := [12]) (by kernel_rfl) (by simp) ?_
        refine AllReadyH.cons rfl (fun Kc hKc => ?_) AllReadyH.nil
        go_simp
        refine hKc.out _ _ (by (try dsimp only); first | exact (Mod.refl _ _).drew | exact ((Mod.refl _ _).drew).alloc _ | exact ((Mod.refl _ _).alloc _).drew) (fun hHeld => ?_)
        clear hKc Kc
        try simp only [List.getElem_toArray, List.getElem_cons_succ, List.getElem_cons_zero, Act.put, List.setIfInBounds_toArray, List.set_cons_zero, List.set_cons_succ]
        refine wpAnyH_done (by kernel_rfl) ?_ _
        rw [HB1.out, VB.out, V10.out]
        have X4 := Lib.hid ((Blk.new W #[.int .u64 (leV ((l.drop 6).take 4)), .int .i64 (leV ((l.drop 10).take 2)), .int .i64 0, .int .i64 0, .int .i64 ((l.getD 1 0).toNat : Int)] 53).drew)
        have Z4 := Lib.hid ((X0.out.alloc (.cells #[.int .u64 (leV ((l.drop 6).take 4)), .int .i64 (leV ((l.drop 10).take 2)), .int .i64 0, .int .i64 0, .int .i64 ((l.getD 1 0).toNat : Int)] 53)).drew)
        have M4 := Lib.hid ((M0.out.alloc (.cells #[.int .u64 (leV ((l.drop 6).take 4)), .int .i64 (leV ((l.drop 10).take 2)), .int .i64 0, .int .i64 0, .int .i64 ((l.getD 1 0).toNat : Int)] 53)).drew)
        have hlt0 := X0.out.lt
        generalize hZ : W.heap.size = Z at *
        have hpd : pD l = ⟨leV ((l.drop 6).take 4), leV ((l.drop 10).take 2), leV ((l.drop 2).take 2), leV ((l.drop 4).take 2), ((l.getD 1 0).toNat : Int)⟩ := rfl
        generalize pD l = hd at *
        subst hpd
        generalize leV ((l.drop 6).take 4) = gn at *
        generalize leV ((l.drop 10).take 2) = rt at *
        generalize leV ((l.drop 2).take 2) = a0 at *
        generalize leV ((l.drop 4).take 2) = a1 at *
        generalize ((l.getD 1 0).toNat : Int) = ch at *
        generalize (W.alloc (.cells #[.int .u64 gn, .int .i64 rt, .int .i64 0, .int .i64 0, .int .i64 ch] 53)).drew = W4 at *
        have y2 := X4.out.at_ (i := 2) _ rfl
        have z2 := X4.out.free 2
        go_wp2_with fail
        refine (HN3.out _).mono ?_
        rintro e wq ⟨rfl, rfl⟩
        have X5 := Lib.hid (X4.out.set 2 (.int .i64 a0))
        have Z5 := Lib.hid (Z4.out.set_far (p := ⟨Z, 2, none⟩) (fun e => by dsimp only at e; omega) (.int .i64 a0))
        have M5 := Lib.hid ((show Mod (fun i => i = Z) _ _ from (Mod.refl (fun i => i = Z) wq).setCell (p := ⟨Z, 2, none⟩) (fun _ => rfl) (.int .i64 a0)))
        have y3 := X5.out.at_ (i := 3) _ rfl
        have z3 := X5.out.free 3
        go_wp2_with fail
        generalize wq.setCell ⟨Z, 2, none⟩ (.int .i64 a0) = W5 at *
        have M5a := Lib.hid (M4.out.then_ M5.out (fun i hi q => by omega))
        refine (HN4.out _).mono ?_
        rintro e wr ⟨rfl, rfl⟩
        clear y2 z2 y3 z3 X4 Z4 M4 M5
        have X6 := Lib.hid (X5.out.set 3 (.int .i64 a1))
        have Z6 := Lib.hid (Z5.out.set_far (p := ⟨Z, 3, none⟩) (fun e => by dsimp only at e; omega) (.int .i64 a1))
        have M6 := Lib.hid (M5a.out.then_ ((show Mod (fun i => i = Z) _ _ from (Mod.refl (fun i => i = Z) wr).setCell (p := ⟨Z, 3, none⟩) (fun _ => rfl) (.int .i64 a1))) (fun i hi q => by omega))
        have y3 := X5.out.at_ (i := 3) _ rfl
        have z3 := X5.out.free 3
        have x60 := X6.out.at_ (i := 0) _ rfl
        have x61 := X6.out.at_ (i := 1) _ rfl
        have x62 := X6.out.at_ (i := 2) _ rfl
        have x63 := X6.out.at_ (i := 3) _ rfl
        have x64 := X6.out.at_ (i := 4) _ rfl
        clear X5 Z5 M5a
        try dsimp only at HGd HBy HRR
        go_wp2_with fail
        generalize wr.setCell ⟨Z, 3, none⟩ (.int .i64 a1) = W6 at *
        refine (HGd.out _).mono ?_
        rintro e w7 ⟨rfl, M⟩
        have X7 := Lib.hid (X6.out.mod M (fun q => q))
        have Z7 := Lib.hid (Z6.out.mod M (fun q => q))
        have M7 := Lib.hid (M6.out.same M)
        clear M X6 Z6 M6 HGd x60 x61 x62 x63 x64 y3 z3
        cases hg : goodH ⟨gn, rt, a0, a1, ch⟩ with
        | false =>
          have HR := Lib.hid HRR.out
          rw [if_neg (by rw [hg]; simp)] at HR
          dsimp only [hdV, hdC, zeroH] at HR
          have q0 := Z7.out.at_ (i := 0) _ rfl
          have p0 := Z7.out.free 0
          have q1 := Z7.out.at_ (i := 1) _ rfl
          have p1 := Z7.out.free 1
          have q2 := Z7.out.at_ (i := 2) _ rfl
          have p2 := Z7.out.free 2
          have q3 := Z7.out.at_ (i := 3) _ rfl
          have p3 := Z7.out.free 3
          have q4 := Z7.out.at_ (i := 4) _ rfl
          have p4 := Z7.out.free 4
          have YF := Lib.hid (five_set Z7.out (.int .u64 0) (.int .i64 0) (.int .i64 0) (.int .i64 0) (.int .i64 0))
          have NF := Lib.hid (M7.out.then_ (five_mod _ w.heap.size (.int .u64 0) (.int .i64 0) (.int .i64 0) (.int .i64 0) (.int .i64 0)) (fun i hi q => by omega))
          go_wp2_with fail
          generalize World.setCell _ _ _ = wF at *
          have r0 := YF.out.at_ (i := 0) _ rfl
          have r1 := YF.out.at_ (i := 1) _ rfl
          have r2 := YF.out.at_ (i := 2) _ rfl
          have r3 := YF.out.at_ (i := 3) _ rfl
          have r4 := YF.out.at_ (i := 4) _ rfl
          exact bodyPost_ret (v := .tuple #[.agg #[.int .u64 0, .int .i64 0, .int .i64 0, .int .i64 0, .int .i64 0], .bool false]) (by simp [results, Tryz.results39, go_sem, r0, r1, r2, r3, r4]) rfl (HR.out _ _ ⟨rfl, NF.out⟩)
        | true =>
          have x70 := X7.out.at_ (i := 0) _ rfl
          have x71 := X7.out.at_ (i := 1) _ rfl
          have x72 := X7.out.at_ (i := 2) _ rfl
          have x73 := X7.out.at_ (i := 3) _ rfl
          have x74 := X7.out.at_ (i := 4) _ rfl
          have HB := Lib.hid (HBy.out hg)
          unfold strV at HB
          go_wp2_with fail
          refine (HB.out _).mono ?_
          rintro e w8 ⟨rfl, M⟩
          have X8 := Lib.hid (X7.out.mod M (fun q => q))
          have Z8 := Lib.hid (Z7.out.mod M (fun q => q))
          have M8 := Lib.hid (M7.out.same M)
          clear M X7 Z7 M7 HB HBy x70 x71 x72 x73 x74
          by_cases hq : headB ⟨gn, rt, a0, a1, ch⟩ = l
          · have HR := Lib.hid HRR.out
            rw [if_pos ⟨hg, hq⟩] at HR
            dsimp only [hdV, hdC] at HR
            rw [hq]
            clear hq
            have x80 := X8.out.at_ (i := 0) _ rfl
            have x81 := X8.out.at_ (i := 1) _ rfl
            have x82 := X8.out.at_ (i := 2) _ rfl
            have x83 := X8.out.at_ (i := 3) _ rfl
            have x84 := X8.out.at_ (i := 4) _ rfl
            have q0 := Z8.out.at_ (i := 0) _ rfl
            have p0 := Z8.out.free 0
            have q1 := Z8.out.at_ (i := 1) _ rfl
            have p1 := Z8.out.free 1
            have q2 := Z8.out.at_ (i := 2) _ rfl
            have p2 := Z8.out.free 2
            have q3 := Z8.out.at_ (i := 3) _ rfl
            have p3 := Z8.out.free 3
            have q4 := Z8.out.at_ (i := 4) _ rfl
            have p4 := Z8.out.free 4
            have YF := Lib.hid (five_set Z8.out (.int .u64 gn) (.int .i64 rt) (.int .i64 a0) (.int .i64 a1) (.int .i64 ch))
            have NF := Lib.hid (M8.out.then_ (five_mod _ w.heap.size (.int .u64 gn) (.int .i64 rt) (.int .i64 a0) (.int .i64 a1) (.int .i64 ch)) (fun i hi q => by omega))
            go_wp2_with fail
            generalize World.setCell _ _ _ = wF at *
            have r0 := YF.out.at_ (i := 0) _ rfl
            have r1 := YF.out.at_ (i := 1) _ rfl
            have r2 := YF.out.at_ (i := 2) _ rfl
            have r3 := YF.out.at_ (i := 3) _ rfl
            have r4 := YF.out.at_ (i := 4) _ rfl
            exact bodyPost_ret (v := .tuple #[.agg #[.int .u64 gn, .int .i64 rt, .int .i64 a0, .int .i64 a1, .int .i64 ch], .bool true]) (by simp [results, Tryz.results39, go_sem, r0, r1, r2, r3, r4]) rfl (HR.out _ _ ⟨rfl, NF.out⟩)
          · have HR := Lib.hid HRR.out
            rw [if_neg (fun q => hq q.2)] at HR
            dsimp only [hdV, hdC, zeroH] at HR
            generalize headB ⟨gn, rt, a0, a1, ch⟩ = hB at *
            have hn1 : (hB == l) = false := beq_eq_false_iff_ne.2 hq
            clear hq
            have q0 := Z8.out.at_ (i := 0) _ rfl
            have p0 := Z8.out.free 0
            have q1 := Z8.out.at_ (i := 1) _ rfl
            have p1 := Z8.out.free 1
            have q2 := Z8.out.at_ (i := 2) _ rfl
            have p2 := Z8.out.free 2
            have q3 := Z8.out.at_ (i := 3) _ rfl
            have p3 := Z8.out.free 3
            have q4 := Z8.out.at_ (i := 4) _ rfl
            have p4 := Z8.out.free 4
            have YF := Lib.hid (five_set Z8.out (.int .u64 0) (.int .i64 0) (.int .i64 0) (.int .i64 0) (.int .i64 0))
            have NF := Lib.hid (M8.out.then_ (five_mod _ w.heap.size (.int .u64 0) (.int .i64 0) (.int .i64 0) (.int .i64 0) (.int .i64 0)) (fun i hi q => by omega))
            go_wp2_with fail
            generalize World.setCell _ _ _ = wF at *
            have r0 := YF.out.at_ (i := 0) _ rfl
            have r1 := YF.out.at_ (i := 1) _ rfl
            have r2 := YF.out.at_ (i := 2) _ rfl
            have r3 := YF.out.at_ (i := 3) _ rfl
            have r4 := YF.out.at_ (i := 4) _ rfl
            exact bodyPost_ret (v := .tuple #[.agg #[.int .u64 0, .int .i64 0, .int .i64 0, .int .i64 0, .int .i64 0], .bool false]) (by simp [results, Tryz.results39, go_sem, r0, r1, r2, r3, r4]) rfl (HR.out _ _ ⟨rfl, NF.out⟩)
    · go_simp
      refine hKc.out _ _ (by (try dsimp only); first | exact (Mod.refl _ _).drew | exact ((Mod.refl _ _).drew).alloc _ | exact ((Mod.refl _ _).alloc _).drew) (fun hHeld => ?_)
      clear hKc Kc
      try simp only [List.getElem_toArray, List.getElem_cons_succ, List.getElem_cons_zero, Act.put, List.setIfInBounds_toArray, List.set_cons_zero, List.set_cons_succ]
      refine wpAnyH_ready (rs := [5]) (by kernel_rfl) (by simp) ?_
      refine AllReadyH.cons rfl (fun Kc hKc => ?_) AllReadyH.nil
      go_simp
      refine (HN1.out _).mono ?_
      rintro e wq ⟨rfl, rfl⟩
      go_wp2_with fail
      refine hKc.out _ _ (by (try dsimp only); first | exact (Mod.refl _ _).drew | exact ((Mod.refl _ _).drew).alloc _ | exact ((Mod.refl _ _).alloc _).drew) (fun hHeld => ?_)
      clear hKc Kc
      try simp only [List.getElem_toArray, List.getElem_cons_succ, List.getElem_cons_zero, Act.put, List.setIfInBounds_toArray, List.set_cons_zero, List.set_cons_succ]
      refine wpAnyH_ready (rs := [8]) (by kernel_rfl) (by simp) ?_
      refine AllReadyH.cons rfl (fun Kc hKc => ?_) AllReadyH.nil
      go_simp
      refine (HN2.out _).mono ?_
      rintro e wq ⟨rfl, rfl⟩
      go_wp2_with fail
      refine hKc.out _ _ (by (try dsimp only); first | exact (Mod.refl _ _).drew | exact ((Mod.refl _ _).drew).alloc _ | exact ((Mod.refl _ _).alloc _).drew) (fun hHeld => ?_)
      clear hKc Kc
      try simp only [List.getElem_toArray, List.getElem_cons_succ, List.getElem_cons_zero, Act.put, List.setIfInBounds_toArray, List.set_cons_zero, List.set_cons_succ]
      refine wpAnyH_take (i := 9) (v := ?_) rfl (by kernel_rfl) (by kernel_rfl) (by kernel_rfl) (fun _ _ _ h => h) (Or.inl ⟨by rfl, ?_⟩) (by assumption) ?_
      rotate_left
      · intro w hSw
        try dsimp only at hSw
        go_simp
        try with_reducible rfl
      try simp only [List.getElem_toArray, List.getElem_cons_succ, List.getElem_cons_zero, Act.put, List.setIfInBounds_toArray, List.set_cons_zero, List.set_cons_succ]
      refine wpAnyH_take (i := 10) (v := ?_) rfl (by kernel_rfl) (by kernel_rfl) (by kernel_rfl) (fun _ _ _ h => h) (Or.inl ⟨by rfl, ?_⟩) (by assumption) ?_
      rotate_left
      · intro w hSw
        try dsimp only at hSw
        go_simp
        try with_reducible rfl
      try simp only [List.getElem_toArray, List.getElem_cons_succ, List.getElem_cons_zero, Act.put, List.setIfInBounds_toArray, List.set_cons_zero, List.set_cons_succ]
      refine wpAnyH_ready (rs := [12]) (by kernel_rfl) (by simp) ?_
      refine AllReadyH.cons rfl (fun Kc hKc => ?_) AllReadyH.nil
      go_simp
      refine hKc.out _ _ (by (try dsimp only); first | exact (Mod.refl _ _).drew | exact ((Mod.refl _ _).drew).alloc _ | exact ((Mod.refl _ _).alloc _).drew) (fun hHeld => ?_)
      clear hKc Kc
      try simp only [List.getElem_toArray, List.getElem_cons_succ, List.getElem_cons_zero, Act.put, List.setIfInBounds_toArray, List.set_cons_zero, List.set_cons_succ]
      refine wpAnyH_done (by kernel_rfl) ?_ _
      rw [HB1.out, VB.out, V10.out]
      have X4 := Lib.hid ((Blk.new W #[.int .u64 (leV ((l.drop 6).take 4)), .int .i64 (leV ((l.drop 10).take 2)), .int .i64 0, .int .i64 0, .int .i64 ((l.getD 1 0).toNat : Int)] 53).drew)
      have Z4 := Lib.hid ((X0.out.alloc (.cells #[.int .u64 (leV ((l.drop 6).take 4)), .int .i64 (leV ((l.drop 10).take 2)), .int .i64 0, .int .i64 0, .int .i64 ((l.getD 1 0).toNat : Int)] 53)).drew)
      have M4 := Lib.hid ((M0.out.alloc (.cells #[.int .u64 (leV ((l.drop 6).take 4)), .int .i64 (leV ((l.drop 10).take 2)), .int .i64 0, .int .i64 0, .int .i64 ((l.getD 1 0).toNat : Int)] 53)).drew)
      have hlt0 := X0.out.lt
      generalize hZ : W.heap.size = Z at *
      have hpd : pD l = ⟨leV ((l.drop 6).take 4), leV ((l.drop 10).take 2), leV ((l.drop 2).take 2), leV ((l.drop 4).take 2), ((l.getD 1 0).toNat : Int)⟩ := rfl
      generalize pD l = hd at *
      subst hpd
      generalize leV ((l.drop 6).take 4) = gn at *
      generalize leV ((l.drop 10).take 2) = rt at *
      generalize leV ((l.drop 2).take 2) = a0 at *
      generalize leV ((l.drop 4).take 2) = a1 at *
      generalize ((l.getD 1 0).toNat : Int) = ch at *
      generalize (W.alloc (.cells #[.int .u64 gn, .int .i64 rt, .int .i64 0, .int .i64 0, .int .i64 ch] 53)).drew = W4 at *
      have y2 := X4.out.at_ (i := 2) _ rfl
      have z2 := X4.out.free 2
      go_wp2_with fail
      refine (HN3.out _).mono ?_
      rintro e wq ⟨rfl, rfl⟩
      have X5 := Lib.hid (X4.out.set 2 (.int .i64 a0))
      have Z5 := Lib.hid (Z4.out.set_far (p := ⟨Z, 2, none⟩) (fun e => by dsimp only at e; omega) (.int .i64 a0))
      have M5 := Lib.hid ((show Mod (fun i => i = Z) _ _ from (Mod.refl (fun i => i = Z) wq).setCell (p := ⟨Z, 2, none⟩) (fun _ => rfl) (.int .i64 a0)))
      have y3 := X5.out.at_ (i := 3) _ rfl
      have z3 := X5.out.free 3
      go_wp2_with fail
      generalize wq.setCell ⟨Z, 2, none⟩ (.int .i64 a0) = W5 at *
      have M5a := Lib.hid (M4.out.then_ M5.out (fun i hi q => by omega))
      refine (HN4.out _).mono ?_
      rintro e wr ⟨rfl, rfl⟩
      clear y2 z2 y3 z3 X4 Z4 M4 M5
      have X6 := Lib.hid (X5.out.set 3 (.int .i64 a1))
      have Z6 := Lib.hid (Z5.out.set_far (p := ⟨Z, 3, none⟩) (fun e => by dsimp only at e; omega) (.int .i64 a1))
      have M6 := Lib.hid (M5a.out.then_ ((show Mod (fun i => i = Z) _ _ from (Mod.refl (fun i => i = Z) wr).setCell (p := ⟨Z, 3, none⟩) (fun _ => rfl) (.int .i64 a1))) (fun i hi q => by omega))
      have y3 := X5.out.at_ (i := 3) _ rfl
      have z3 := X5.out.free 3
      have x60 := X6.out.at_ (i := 0) _ rfl
      have x61 := X6.out.at_ (i := 1) _ rfl
      have x62 := X6.out.at_ (i := 2) _ rfl
      have x63 := X6.out.at_ (i := 3) _ rfl
      have x64 := X6.out.at_ (i := 4) _ rfl
      clear X5 Z5 M5a
      try dsimp only at HGd HBy HRR
      go_wp2_with fail
      generalize wr.setCell ⟨Z, 3, none⟩ (.int .i64 a1) = W6 at *
      refine (HGd.out _).mono ?_
      rintro e w7 ⟨rfl, M⟩
      have X7 := Lib.hid (X6.out.mod M (fun q => q))
      have Z7 := Lib.hid (Z6.out.mod M (fun q => q))
      have M7 := Lib.hid (M6.out.same M)
      clear M X6 Z6 M6 HGd x60 x61 x62 x63 x64 y3 z3
      cases hg : goodH ⟨gn, rt, a0, a1, ch⟩ with
      | false =>
        have HR := Lib.hid HRR.out
        rw [if_neg (by rw [hg]; simp)] at HR
        dsimp only [hdV, hdC, zeroH] at HR
        have q0 := Z7.out.at_ (i := 0) _ rfl
        have p0 := Z7.out.free 0
        have q1 := Z7.out.at_ (i := 1) _ rfl
        have p1 := Z7.out.free 1
        have q2 := Z7.out.at_ (i := 2) _ rfl
        have p2 := Z7.out.free 2
        have q3 := Z7.out.at_ (i := 3) _ rfl
        have p3 := Z7.out.free 3
        have q4 := Z7.out.at_ (i := 4) _ rfl
        have p4 := Z7.out.free 4
        have YF := Lib.hid (five_set Z7.out (.int .u64 0) (.int .i64 0) (.int .i64 0) (.int .i64 0) (.int .i64 0))
        have NF := Lib.hid (M7.out.then_ (five_mod _ w.heap.size (.int .u64 0) (.int .i64 0) (.int .i64 0) (.int .i64 0) (.int .i64 0)) (fun i hi q => by omega))
        go_wp2_with fail
        generalize World.setCell _ _ _ = wF at *
        have r0 := YF.out.at_ (i := 0) _ rfl
        have r1 := YF.out.at_ (i := 1) _ rfl
        have r2 := YF.out.at_ (i := 2) _ rfl
        have r3 := YF.out.at_ (i := 3) _ rfl
        have r4 := YF.out.at_ (i := 4) _ rfl
        exact bodyPost_ret (v := .tuple #[.agg #[.int .u64 0, .int .i64 0, .int .i64 0, .int .i64 0, .int .i64 0], .bool false]) (by simp [results, Tryz.results39, go_sem, r0, r1, r2, r3, r4]) rfl (HR.out _ _ ⟨rfl, NF.out⟩)
      | true =>
        have x70 := X7.out.at_ (i := 0) _ rfl
        have x71 := X7.out.at_ (i := 1) _ rfl
        have x72 := X7.out.at_ (i := 2) _ rfl
        have x73 := X7.out.at_ (i := 3) _ rfl
        have x74 := X7.out.at_ (i := 4) _ rfl
        have HB := Lib.hid (HBy.out hg)
        unfold strV at HB
        go_wp2_with fail
        refine (HB.out _).mono ?_
        rintro e w8 ⟨rfl, M⟩
        have X8 := Lib.hid (X7.out.mod M (fun q => q))
        have Z8 := Lib.hid (Z7.out.mod M (fun q => q))
        have M8 := Lib.hid (M7.out.same M)
        clear M X7 Z7 M7 HB HBy x70 x71 x72 x73 x74
        by_cases hq : headB ⟨gn, rt, a0, a1, ch⟩ = l
        · have HR := Lib.hid HRR.out
          rw [if_pos ⟨hg, hq⟩] at HR
          dsimp only [hdV, hdC] at HR
          rw [hq]
          clear hq
          have x80 := X8.out.at_ (i := 0) _ rfl
          have x81 := X8.out.at_ (i := 1) _ rfl
          have x82 := X8.out.at_ (i := 2) _ rfl
          have x83 := X8.out.at_ (i := 3) _ rfl
          have x84 := X8.out.at_ (i := 4) _ rfl
          have q0 := Z8.out.at_ (i := 0) _ rfl
          have p0 := Z8.out.free 0
          have q1 := Z8.out.at_ (i := 1) _ rfl
          have p1 := Z8.out.free 1
          have q2 := Z8.out.at_ (i := 2) _ rfl
          have p2 := Z8.out.free 2
          have q3 := Z8.out.at_ (i := 3) _ rfl
          have p3 := Z8.out.free 3
          have q4 := Z8.out.at_ (i := 4) _ rfl
          have p4 := Z8.out.free 4
          have YF := Lib.hid (five_set Z8.out (.int .u64 gn) (.int .i64 rt) (.int .i64 a0) (.int .i64 a1) (.int .i64 ch))
          have NF := Lib.hid (M8.out.then_ (five_mod _ w.heap.size (.int .u64 gn) (.int .i64 rt) (.int .i64 a0) (.int .i64 a1) (.int .i64 ch)) (fun i hi q => by omega))
          go_wp2_with fail
          generalize World.setCell _ _ _ = wF at *
          have r0 := YF.out.at_ (i := 0) _ rfl
          have r1 := YF.out.at_ (i := 1) _ rfl
          have r2 := YF.out.at_ (i := 2) _ rfl
          have r3 := YF.out.at_ (i := 3) _ rfl
          have r4 := YF.out.at_ (i := 4) _ rfl
          exact bodyPost_ret (v := .tuple #[.agg #[.int .u64 gn, .int .i64 rt, .int .i64 a0, .int .i64 a1, .int .i64 ch], .bool true]) (by simp [results, Tryz.results39, go_sem, r0, r1, r2, r3, r4]) rfl (HR.out _ _ ⟨rfl, NF.out⟩)
        · have HR := Lib.hid HRR.out
          rw [if_neg (fun q => hq q.2)] at HR
          dsimp only [hdV, hdC, zeroH] at HR
          generalize headB ⟨gn, rt, a0, a1, ch⟩ = hB at *
          have hn1 : (hB == l) = false := beq_eq_false_iff_ne.2 hq
          clear hq
          have q0 := Z8.out.at_ (i := 0) _ rfl
          have p0 := Z8.out.free 0
          have q1 := Z8.out.at_ (i := 1) _ rfl
          have p1 := Z8.out.free 1
          have q2 := Z8.out.at_ (i := 2) _ rfl
          have p2 := Z8.out.free 2
          have q3 := Z8.out.at_ (i := 3) _ rfl
          have p3 := Z8.out.free 3
          have q4 := Z8.out.at_ (i := 4) _ rfl
          have p4 := Z8.out.free 4
          have YF := Lib.hid (five_set Z8.out (.int .u64 0) (.int .i64 0) (.int .i64 0) (.int .i64 0) (.int .i64 0))
          have NF := Lib.hid (M8.out.then_ (five_mod _ w.heap.size (.int .u64 0) (.int .i64 0) (.int .i64 0) (.int .i64 0) (.int .i64 0)) (fun i hi q => by omega))
          go_wp2_with fail
          generalize World.setCell _ _ _ = wF at *
          have r0 := YF.out.at_ (i := 0) _ rfl
          have r1 := YF.out.at_ (i := 1) _ rfl
          have r2 := YF.out.at_ (i := 2) _ rfl
          have r3 := YF.out.at_ (i := 3) _ rfl
          have r4 := YF.out.at_ (i := 4) _ rfl
          exact bodyPost_ret (v := .tuple #[.agg #[.int .u64 0, .int .i64 0, .int .i64 0, .int .i64 0, .int .i64 0], .bool false]) (by simp [results, Tryz.results39, go_sem, r0, r1, r2, r3, r4]) rfl (HR.out _ _ ⟨rfl, NF.out⟩)
end Go.Proofs.YtjkndfenniongaaGreatDoor

