import Derived.Test.YtlcepoagpocadaaGreatDoorXqD
set_option linter.unusedSimpArgs false
set_option linter.unusedVariables false
set_option maxRecDepth 100000
/- The document's model: what an order's answer is. -/
namespace Go.Proofs.YtlcepoagpocadaaGreatDoor
open Go Go.RowKit
section
variable {F : Nat → Prop} {w : World} {p : Nat} {D : DP}
set_option maxHeartbeats 16000000 in
theorem rdo_6 (h : Dq F w p D) (hB : D.vols.length ≤ 1000) (hC : D.ch.length ≤ 50000) (hb : 0 ≤ D.births ∧ D.births ≤ 100000) (n0 n1 n2 : Int) (a1 a2 : Option Addr) (c1 c2 : Nat) (hn0 : J64 n0) (hn1 : J64 n1) (hn2 : J64 n2) (hr : RowAt w a1 (([n0, n1, n2] : List Int).map (Value.int .i64))) (hr2 : RowAt w a2 (([] : List (List UInt8)).map strV)) :
    Calls Tryz.prog 21 #[bp p, rordV ⟨6, [n0, n1, n2], []⟩ a1 a2 c1 c2] w fun e w' => RDo F w p D ⟨6, [n0, n1, n2], []⟩ e w' := by
  refine opq fun R HR => ?_
  have HD := Lib.hid h
  have HRN := Lib.hid hr
  have HQ := Lib.hid (show ¬ (([] : List (List UInt8)).all (fun t => decide (t.length ≤ 512)) = false) by simp)
  have BE := Lib.hid (Blk.new w #[.int .i64 7, .slice a1 3 c1, .slice a2 0 c2] 64)
  have JE := Lib.hid (show Same w (w.alloc (.cells #[.int .i64 7, .slice a1 3 c1, .slice a2 0 c2] 64)) from (Mod.refl _ _).alloc _)
  unfold bp rordV
  clear h hr hr2
  show Calls Tryz.prog 21 #[_, .agg #[.int .i64 7, .slice a1 3 c1, .slice a2 0 c2]] w R
  go_enter Tryz.func21, Tryz.ntmps21
  go_wp2_with fail
  obtain ⟨E, hE⟩ : ∃ E, w.heap.size = E := ⟨_, rfl⟩
  rw [hE] at BE ⊢
  obtain ⟨w2, hw2⟩ : ∃ w2, (w.alloc (.cells #[.int .i64 7, .slice a1 3 c1, .slice a2 0 c2] 64)) = w2 := ⟨_, rfl⟩
  rw [hw2] at BE JE ⊢
  have e0 := BE.out.at_ (i := 0) _ rfl
  have e1 := BE.out.at_ (i := 1) _ rfl
  have e2 := BE.out.at_ (i := 2) _ rfl
  have hEl := BE.out.lt
  have HE := Lib.hid hE
  clear hw2 hE
  go_loopw [7] (fun ii wr => ∃ j : Nat, j ≤ 0 ∧ ii = .int .i64 j ∧ wr = w2) (fun ii _ => 0 - (intOf ii).toNat)
  case atStart => exact ⟨0, Nat.zero_le _, rfl, rfl⟩
  case round =>
    obtain ⟨j, hj, rfl, rfl⟩ := hrel
    obtain rfl : j = 0 := by omega
    have OE := Lib.hid (show (wr.alloc (.cells #[] 3)).ownsRow wr.heap.size 3 1 (.slice (some ⟨wr.heap.size, 0, none⟩) 0 0) 0 [] from ⟨rfl, .inr ⟨_, 0, #[], rfl, Nat.le_refl _, heap_new _ _, Nat.le_refl _, by unfold maxLen; omega, rfl, rfl⟩⟩)
    have HR1 := Lib.hid (show RowAt (wr.alloc (.cells #[] 3)) a1 (([n0, n1, n2] : List Int).map (Value.int .i64)) from (HRN.out.same JE.out).same ((Mod.refl _ _).alloc _))
    go_upto_region 7 with (first | (at_builtin; refine wpList_append_in (by rfl) (.tmp 26) (.tmp 28) (by rfl) wr.heap.size _ 0 [] (by rfl) OE.out a1 3 c1 [n0, n1, n2] (by rfl) (by rfl) HR1.out (by omega) (by simp) ?_; intro v3 w3 hown3 hgrow3; have J3 := Lib.hid (show Same wr w3 from ((Mod.refl (fun _ => False) wr).alloc _).grown hgrow3 (fun k hk hl => by have := owns_ge OE.out k hk; omega)); have K3 := Lib.hid hown3; have f0 := (J3.out.cell hEl (fun q => q) 0).trans e0; have hE3 := Nat.lt_of_lt_of_le hEl J3.out.size; have hs3 := J3.out.size; clear hown3 hgrow3) | (at_builtin; refine wpList_append_in (by rfl) (.tmp 29) (.tmp 30) (by rfl) wr.heap.size _ (0 + 3) _ (by rfl) (own_mod2 K3.out ((Mod.refl _ _).alloc _) (fun _ _ q => q)) (some ⟨w3.heap.size, 0, none⟩) 3 3 [0, 0, 0] (by rfl) (by rfl) (fun _ => ⟨w3.heap.size, 0, rfl, by simp, fun i u hu => by rw [Nat.zero_add]; exact (one3_new w3 i u hu)⟩) (by omega) (by simp; omega) ?_; intro v4 w4 hown4 hgrow4; have J4 := Lib.hid (show Same wr w4 from (J3.out.alloc _).grown hgrow4 (fun k hk hl => by have := owns_ge K3.out k hk; omega)); have K4 := Lib.hid hown4; have f00 := (J4.out.cell hEl (fun q => q) 0).trans e0; clear hown4 hgrow4))
    obtain ⟨gn, cn, rfl, hgn, hgnl, m0, m1, m2⟩ := row3_of (ns := [n0, n1, n2]) (n := 3) rfl (by have hh := K4.out; simp only [List.nil_append, Nat.zero_add] at hh; exact hh)
    change w4.cell? ⟨gn, 0, none⟩ = some (.int .i64 n0) at m0
    change w4.cell? ⟨gn, 1, none⟩ = some (.int .i64 n1) at m1
    change w4.cell? ⟨gn, 2, none⟩ = some (.int .i64 n2) at m2
    have JW := Lib.hid (JE.out.same J4.out)
    have hE4 := Nat.lt_of_lt_of_le hEl J4.out.size
    have HD4 := Lib.hid (HD.out.same JW.out)
    have hs4 := JW.out.size
    have HFL := Lib.hid (show ∀ i, F i → i < w.heap.size from by obtain ⟨_, _, _, _, _, _, hx⟩ := HD.out; exact hx.fl)
    have hgF : ¬ F gn := fun z => by have := HFL.out gn z; have := JE.out.size; omega
    have hEF : ¬ F E := fun z => by have := HFL.out E z; have := HE.out; omega
    clear K3 K4 OE e0 e1 e2 f0 hE3 hs3 J3 HR1
    obtain ⟨rg, hrg⟩ : ∃ rg, rangeS (toMS D) n0 n1 n2 = rg := ⟨_, rfl⟩
    have CC := Lib.hid (fun W (M : Same w4 W) => drange_any (HD4.out.same M) (by omega) n0 n1 n2 ⟨hn1.1, by have := hn1.2; omega⟩ ⟨hn2.1, by have := hn2.2; omega⟩)
    rw [hrg] at CC
    have HRGE := Lib.hid hrg
    unfold bp at CC
    have hS4 : (fun W : World => W.cell? ⟨gn, 0, none⟩ = some (.int .i64 n0) ∧ W.cell? ⟨gn, 1, none⟩ = some (.int .i64 n1) ∧ W.cell? ⟨gn, 2, none⟩ = some (.int .i64 n2)) w4 := ⟨m0, m1, m2⟩
    have HS := Lib.hid (show ∀ W, Same w4 W → (fun W : World => W.cell? ⟨gn, 0, none⟩ = some (.int .i64 n0) ∧ W.cell? ⟨gn, 1, none⟩ = some (.int .i64 n1) ∧ W.cell? ⟨gn, 2, none⟩ = some (.int .i64 n2)) W from fun W M => ⟨(M.cell hgnl (fun q => q) _).trans m0, (M.cell hgnl (fun q => q) _).trans m1, (M.cell hgnl (fun q => q) _).trans m2⟩)
    have HSM := Lib.hid (show ∀ W W', Same w4 W → Mod F W W' → (fun W : World => W.cell? ⟨gn, 0, none⟩ = some (.int .i64 n0) ∧ W.cell? ⟨gn, 1, none⟩ = some (.int .i64 n1) ∧ W.cell? ⟨gn, 2, none⟩ = some (.int .i64 n2)) W' from fun W W' J M => ⟨(M.cell (Nat.lt_of_lt_of_le hgnl J.size) hgF _).trans (HS.out W J).1, (M.cell (Nat.lt_of_lt_of_le hgnl J.size) hgF _).trans (HS.out W J).2.1, (M.cell (Nat.lt_of_lt_of_le hgnl J.size) hgF _).trans (HS.out W J).2.2⟩)
    clear hrg
    go_wp2_with fail
    go_region_held3 (fun W : World => W.cell? ⟨gn, 0, none⟩ = some (.int .i64 n0) ∧ W.cell? ⟨gn, 1, none⟩ = some (.int .i64 n1) ∧ W.cell? ⟨gn, 2, none⟩ = some (.int .i64 n2)) (first | exact hS4 | assumption | exact HS.out _ ((Mod.refl _ _).drew) | exact HS.out _ J5.out) ((
      first
      | (go_at_call 49; refine (CC.out _ ((Mod.refl _ _).drew)).mono ?_; rintro e w5 ⟨rfl, M⟩; have J5 := Lib.hid (show Same w4 w5 from ((Mod.refl _ w4).drew).same M); clear M)))
    have JW5 := Lib.hid (JW.out.same J5.out)
    have HD5 := Lib.hid (HD.out.same JW5.out)
    have hs5 := JW5.out.size
    have hS5 := HS.out w5 J5.out
    have HS5 := Lib.hid (show ∀ W, Same w5 W → _ from fun W M => HS.out W (J5.out.same M))
    clear hS4
    by_cases hz : rg = 0
    · subst hz
      obtain ⟨i, v, a, m, sz, e1, e2, rfl, rfl, e5, e6, e7, e8, e9⟩ := drange_zero HD.out.1 HRGE.out
      have h64 : sz ≤ 64 := by have := HD.out.1.sizes v (List.mem_of_getElem? e1); omega
      have h64k : sz * D.k ≤ 64 * D.k := Nat.mul_le_mul_right _ h64
      have CR := Lib.hid (fun W (M : Same w5 W) => dread_any (HD5.out.same M) (by omega) (by omega) e1 a m (by omega))
      rw [e2] at CR
      unfold bp strV at CR
      have HDO := Lib.hid (show DoR (toMS D) 6 [n0, (a : Int), (m : Int)] [] 0 (readS (toMS D) (toVo v) a m) false (toMS D) by
        unfold DoR
        rw [if_neg HQ.out]
        refine ⟨rfl, rfl, HRGE.out.symm, ?_⟩
        show _ = match findV (toMS D) n0 with | some v => if rangeS (toMS D) n0 (a : Int) (m : Int) = 0 then readS (toMS D) v ((a : Int)).toNat ((m : Int)).toNat else [] | none => []
        rw [e9]
        dsimp only
        rw [if_pos HRGE.out, Int.toNat_natCast, Int.toNat_natCast])
      clear e1 e2 e5 e6 e7 e8 e9 h64 h64k
      go_wp2_with fail
      go_region_held3 (fun W : World => W.cell? ⟨gn, 0, none⟩ = some (.int .i64 n0) ∧ W.cell? ⟨gn, 1, none⟩ = some (.int .i64 (a : Int)) ∧ W.cell? ⟨gn, 2, none⟩ = some (.int .i64 (m : Int))) (first | exact hS5 | assumption | exact HS5.out _ ((Mod.refl _ _).drew) | exact HS5.out _ J6.out) ((
        first
        | (go_at_call 65; refine (CR.out _ ((Mod.refl _ _).drew)).mono ?_; rintro e w6 ⟨rfl, M⟩; have J6 := Lib.hid (show Same w5 w6 from ((Mod.refl _ w5).drew).same M); clear M)))
      go_wp2_with fail
      exact HR.out _ _ ⟨0, readS (toMS D) (toVo v) a m, false, D, F, rfl, HDO.out, HD5.out.same J6.out, fun y => .inl, ((JW5.out.same J6.out).mono (fun _ _ q => q.elim)), rfl, by omega, Int.le_refl _, by omega⟩
    · have hb0 : (rg != 0) = true := by simpa using hz
      have hb1 : (rg == 0) = false := by simpa using hz
      go_wp2_with fail
      exact HR.out _ _ ⟨rg, [], false, D, F, rfl, by
        unfold DoR
        rw [if_neg HQ.out]
        refine ⟨rfl, rfl, HRGE.out.symm, ?_⟩
        show [] = match findV (toMS D) n0 with | some v => if rangeS (toMS D) n0 n1 n2 = 0 then readS (toMS D) v n1.toNat n2.toNat else [] | none => []
        cases findV (toMS D) n0 with
        | none => rfl
        | some v => dsimp only; rw [if_neg (by rw [HRGE.out]; exact hz)], HD5.out, fun y => .inl, JW5.out.mono (fun _ _ q => q.elim), rfl, by omega, Int.le_refl _, by omega⟩

set_option maxHeartbeats 16000000 in
theorem rdo_8 (h : Dq F w p D) (hB : D.vols.length ≤ 1000) (hC : D.ch.length ≤ 50000) (hb : 0 ≤ D.births ∧ D.births ≤ 100000) (n0 n1 n2 : Int) (a1 a2 : Option Addr) (c1 c2 : Nat) (hn0 : J64 n0) (hn1 : J64 n1) (hn2 : J64 n2) (hr : RowAt w a1 (([n0, n1, n2] : List Int).map (Value.int .i64))) (hr2 : RowAt w a2 (([] : List (List UInt8)).map strV)) :
    Calls Tryz.prog 21 #[bp p, rordV ⟨8, [n0, n1, n2], []⟩ a1 a2 c1 c2] w fun e w' => RDo F w p D ⟨8, [n0, n1, n2], []⟩ e w' := by
  refine opq fun R HR => ?_
  have HD := Lib.hid h
  have HRN := Lib.hid hr
  have HQ := Lib.hid (show ¬ (([] : List (List UInt8)).all (fun t => decide (t.length ≤ 512)) = false) by simp)
  have BE := Lib.hid (Blk.new w #[.int .i64 9, .slice a1 3 c1, .slice a2 0 c2] 64)
  have JE := Lib.hid (show Same w (w.alloc (.cells #[.int .i64 9, .slice a1 3 c1, .slice a2 0 c2] 64)) from (Mod.refl _ _).alloc _)
  unfold bp rordV
  clear h hr hr2
  show Calls Tryz.prog 21 #[_, .agg #[.int .i64 9, .slice a1 3 c1, .slice a2 0 c2]] w R
  go_enter Tryz.func21, Tryz.ntmps21
  go_wp2_with fail
  obtain ⟨E, hE⟩ : ∃ E, w.heap.size = E := ⟨_, rfl⟩
  rw [hE] at BE ⊢
  obtain ⟨w2, hw2⟩ : ∃ w2, (w.alloc (.cells #[.int .i64 9, .slice a1 3 c1, .slice a2 0 c2] 64)) = w2 := ⟨_, rfl⟩
  rw [hw2] at BE JE ⊢
  have e0 := BE.out.at_ (i := 0) _ rfl
  have e1 := BE.out.at_ (i := 1) _ rfl
  have e2 := BE.out.at_ (i := 2) _ rfl
  have hEl := BE.out.lt
  have HE := Lib.hid hE
  clear hw2 hE
  go_loopw [7] (fun ii wr => ∃ j : Nat, j ≤ 0 ∧ ii = .int .i64 j ∧ wr = w2) (fun ii _ => 0 - (intOf ii).toNat)
  case atStart => exact ⟨0, Nat.zero_le _, rfl, rfl⟩
  case round =>
    obtain ⟨j, hj, rfl, rfl⟩ := hrel
    obtain rfl : j = 0 := by omega
    have OE := Lib.hid (show (wr.alloc (.cells #[] 3)).ownsRow wr.heap.size 3 1 (.slice (some ⟨wr.heap.size, 0, none⟩) 0 0) 0 [] from ⟨rfl, .inr ⟨_, 0, #[], rfl, Nat.le_refl _, heap_new _ _, Nat.le_refl _, by unfold maxLen; omega, rfl, rfl⟩⟩)
    have HR1 := Lib.hid (show RowAt (wr.alloc (.cells #[] 3)) a1 (([n0, n1, n2] : List Int).map (Value.int .i64)) from (HRN.out.same JE.out).same ((Mod.refl _ _).alloc _))
    go_upto_region 7 with (first | (at_builtin; refine wpList_append_in (by rfl) (.tmp 26) (.tmp 28) (by rfl) wr.heap.size _ 0 [] (by rfl) OE.out a1 3 c1 [n0, n1, n2] (by rfl) (by rfl) HR1.out (by omega) (by simp) ?_; intro v3 w3 hown3 hgrow3; have J3 := Lib.hid (show Same wr w3 from ((Mod.refl (fun _ => False) wr).alloc _).grown hgrow3 (fun k hk hl => by have := owns_ge OE.out k hk; omega)); have K3 := Lib.hid hown3; have f0 := (J3.out.cell hEl (fun q => q) 0).trans e0; have hE3 := Nat.lt_of_lt_of_le hEl J3.out.size; have hs3 := J3.out.size; clear hown3 hgrow3) | (at_builtin; refine wpList_append_in (by rfl) (.tmp 29) (.tmp 30) (by rfl) wr.heap.size _ (0 + 3) _ (by rfl) (own_mod2 K3.out ((Mod.refl _ _).alloc _) (fun _ _ q => q)) (some ⟨w3.heap.size, 0, none⟩) 3 3 [0, 0, 0] (by rfl) (by rfl) (fun _ => ⟨w3.heap.size, 0, rfl, by simp, fun i u hu => by rw [Nat.zero_add]; exact (one3_new w3 i u hu)⟩) (by omega) (by simp; omega) ?_; intro v4 w4 hown4 hgrow4; have J4 := Lib.hid (show Same wr w4 from (J3.out.alloc _).grown hgrow4 (fun k hk hl => by have := owns_ge K3.out k hk; omega)); have K4 := Lib.hid hown4; have f00 := (J4.out.cell hEl (fun q => q) 0).trans e0; clear hown4 hgrow4))
    obtain ⟨gn, cn, rfl, hgn, hgnl, m0, m1, m2⟩ := row3_of (ns := [n0, n1, n2]) (n := 3) rfl (by have hh := K4.out; simp only [List.nil_append, Nat.zero_add] at hh; exact hh)
    change w4.cell? ⟨gn, 0, none⟩ = some (.int .i64 n0) at m0
    change w4.cell? ⟨gn, 1, none⟩ = some (.int .i64 n1) at m1
    change w4.cell? ⟨gn, 2, none⟩ = some (.int .i64 n2) at m2
    have JW := Lib.hid (JE.out.same J4.out)
    have hE4 := Nat.lt_of_lt_of_le hEl J4.out.size
    have HD4 := Lib.hid (HD.out.same JW.out)
    have hs4 := JW.out.size
    have HFL := Lib.hid (show ∀ i, F i → i < w.heap.size from by obtain ⟨_, _, _, _, _, _, hx⟩ := HD.out; exact hx.fl)
    have hgF : ¬ F gn := fun z => by have := HFL.out gn z; have := JE.out.size; omega
    have hEF : ¬ F E := fun z => by have := HFL.out E z; have := HE.out; omega
    clear K3 K4 OE e0 e1 e2 f0 hE3 hs3 J3 HR1
    obtain ⟨rg, hrg⟩ : ∃ rg, rangeS (toMS D) n0 n1 n2 = rg := ⟨_, rfl⟩
    have CC := Lib.hid (fun W (M : Same w4 W) => drange_any (HD4.out.same M) (by omega) n0 n1 n2 ⟨hn1.1, by have := hn1.2; omega⟩ ⟨hn2.1, by have := hn2.2; omega⟩)
    rw [hrg] at CC
    have HRGE := Lib.hid hrg
    unfold bp at CC
    have hS4 : (fun W : World => W.cell? ⟨gn, 0, none⟩ = some (.int .i64 n0) ∧ W.cell? ⟨gn, 1, none⟩ = some (.int .i64 n1) ∧ W.cell? ⟨gn, 2, none⟩ = some (.int .i64 n2)) w4 := ⟨m0, m1, m2⟩
    have HS := Lib.hid (show ∀ W, Same w4 W → (fun W : World => W.cell? ⟨gn, 0, none⟩ = some (.int .i64 n0) ∧ W.cell? ⟨gn, 1, none⟩ = some (.int .i64 n1) ∧ W.cell? ⟨gn, 2, none⟩ = some (.int .i64 n2)) W from fun W M => ⟨(M.cell hgnl (fun q => q) _).trans m0, (M.cell hgnl (fun q => q) _).trans m1, (M.cell hgnl (fun q => q) _).trans m2⟩)
    have HSM := Lib.hid (show ∀ W W', Same w4 W → Mod F W W' → (fun W : World => W.cell? ⟨gn, 0, none⟩ = some (.int .i64 n0) ∧ W.cell? ⟨gn, 1, none⟩ = some (.int .i64 n1) ∧ W.cell? ⟨gn, 2, none⟩ = some (.int .i64 n2)) W' from fun W W' J M => ⟨(M.cell (Nat.lt_of_lt_of_le hgnl J.size) hgF _).trans (HS.out W J).1, (M.cell (Nat.lt_of_lt_of_le hgnl J.size) hgF _).trans (HS.out W J).2.1, (M.cell (Nat.lt_of_lt_of_le hgnl J.size) hgF _).trans (HS.out W J).2.2⟩)
    clear hrg
    go_wp2_with fail
    go_region_held3 (fun W : World => W.cell? ⟨gn, 0, none⟩ = some (.int .i64 n0) ∧ W.cell? ⟨gn, 1, none⟩ = some (.int .i64 n1) ∧ W.cell? ⟨gn, 2, none⟩ = some (.int .i64 n2)) (first | exact hS4 | assumption | exact HS.out _ ((Mod.refl _ _).drew) | exact HS.out _ J5.out) ((
      first
      | (go_at_call 49; refine (CC.out _ ((Mod.refl _ _).drew)).mono ?_; rintro e w5 ⟨rfl, M⟩; have J5 := Lib.hid (show Same w4 w5 from ((Mod.refl _ w4).drew).same M); clear M)))
    have JW5 := Lib.hid (JW.out.same J5.out)
    have HD5 := Lib.hid (HD.out.same JW5.out)
    have hs5 := JW5.out.size
    have hS5 := HS.out w5 J5.out
    have HS5 := Lib.hid (show ∀ W, Same w5 W → _ from fun W M => HS.out W (J5.out.same M))
    clear hS4
    by_cases hz : rg = 0
    · subst hz
      obtain ⟨i, v, a, m, sz, e1, e2, rfl, rfl, e5, e6, e7, e8, e9⟩ := drange_zero HD.out.1 HRGE.out
      have CR := Lib.hid (fun W (M : Same w5 W) => ddiscard_any (HD5.out.same M) (by omega) hC e1 a m e5 e6 e7 e8)
      rw [e2] at CR
      unfold bp at CR
      clear e1 e2 e5 e6 e7 e8 e9
      go_wp2_with fail
      go_region_held3 (fun W : World => W.cell? ⟨gn, 0, none⟩ = some (.int .i64 n0) ∧ W.cell? ⟨gn, 1, none⟩ = some (.int .i64 (a : Int)) ∧ W.cell? ⟨gn, 2, none⟩ = some (.int .i64 (m : Int))) (first | exact hS5 | assumption | exact HS5.out _ ((Mod.refl _ _).drew)) ((
        first
        | (go_at_call 68; refine (CR.out _ ((Mod.refl _ _).drew)).mono ?_; rintro e w6 ⟨rfl, D', F', hDis, hTurn⟩; have hS6 := HSM.out _ w6 (J5.out.drew) hTurn.md; have HDIS := Lib.hid hDis; have HTU := Lib.hid hTurn; clear hDis hTurn)))
      go_wp2_with fail
      have ht := HTU.out
      exact HR.out _ _ ⟨0, [], false, D', F', rfl, by
        unfold DoR
        rw [if_neg HQ.out]
        refine ⟨rfl, rfl, HRGE.out.symm, ?_⟩
        show if rangeS (toMS D) n0 (a : Int) (m : Int) = 0 then DisR (toMS D) n0 ((a : Int)).toNat ((m : Int)).toNat ((m : Int)).toNat (toMS D') else _
        rw [if_pos HRGE.out, Int.toNat_natCast, Int.toNat_natCast]
        exact HDIS.out, ht.dq, fun y hy => (ht.ff y hy).imp (fun z => z) (fun z => by have : w5.heap.size ≤ y := z; omega), (JW5.out.drew.mono (fun _ _ q => q.elim)).then_ ht.md (fun i _ q => q), ht.k, by rw [ht.births]; omega, by rw [ht.births]; exact Int.le_refl _, by have := ht.ch; omega⟩
    · have hb0 : (rg != 0) = true := by simpa using hz
      have hb1 : (rg == 0) = false := by simpa using hz
      go_wp2_with fail
      exact HR.out _ _ ⟨rg, [], false, D, F, rfl, by
        unfold DoR
        rw [if_neg HQ.out]
        refine ⟨rfl, rfl, HRGE.out.symm, ?_⟩
        show if rangeS (toMS D) n0 n1 n2 = 0 then _ else toMS D = toMS D
        rw [if_neg (by rw [HRGE.out]; exact hz)], HD5.out, fun y => .inl, JW5.out.mono (fun _ _ q => q.elim), rfl, by omega, Int.le_refl _, by omega⟩
end
end Go.Proofs.YtlcepoagpocadaaGreatDoor
set_option maxRecDepth 100000
/- The document's model: what an order's answer is. -/
namespace Go.Proofs.YtlcepoagpocadaaGreatDoor
open Go Go.RowKit
section
variable {F : Nat → Prop} {w : World} {p : Nat} {D : DP}
set_option maxHeartbeats 16000000 in
theorem rdo_7 (h : Dq F w p D) (hB : D.vols.length ≤ 1000) (hC : D.ch.length ≤ 50000) (hb : 0 ≤ D.births ∧ D.births ≤ 100000) (n0 n1 : Int) (t0 : List UInt8) (a1 a2 : Option Addr) (c1 c2 : Nat) (hn0 : J64 n0) (hn1 : J64 n1) (ht0 : t0.length ≤ 512) (hF2 : ∀ b o, a2 = some ⟨b, o, none⟩ → ¬ F b) (hr : RowAt w a1 (([n0, n1] : List Int).map (Value.int .i64))) (hr2 : RowAt w a2 (([t0] : List (List UInt8)).map strV)) :
    Calls Tryz.prog 21 #[bp p, rordV ⟨7, [n0, n1], [t0]⟩ a1 a2 c1 c2] w fun e w' => RDo F w p D ⟨7, [n0, n1], [t0]⟩ e w' := by
  refine opq fun R HR => ?_
  have HD := Lib.hid h
  have HRN := Lib.hid hr
  have HQ := Lib.hid (show ¬ (([t0] : List (List UInt8)).all (fun t => decide (t.length ≤ 512)) = false) by simp [ht0])
  have BE := Lib.hid (Blk.new w #[.int .i64 8, .slice a1 2 c1, .slice a2 1 c2] 64)
  have JE := Lib.hid (show Same w (w.alloc (.cells #[.int .i64 8, .slice a1 2 c1, .slice a2 1 c2] 64)) from (Mod.refl _ _).alloc _)
  obtain ⟨tb, to_, rfl, htb, ht0⟩ := hr2.oneT
  have hFt : ¬ F tb := hF2 tb to_ rfl
  have HT0 := Lib.hid ht0
  have hbs := bytes_size t0
  obtain ⟨TT, hTT⟩ : ∃ TT : ByteArray, (⟨t0.toArray⟩ : ByteArray) = TT := ⟨_, rfl⟩
  have HTT := Lib.hid hTT
  unfold strV at HT0
  rw [hTT] at HT0 hbs
  clear hTT ht0 hF2
  unfold bp rordV
  clear h hr hr2
  show Calls Tryz.prog 21 #[_, .agg #[.int .i64 8, .slice a1 2 c1, .slice (some ⟨tb, to_, none⟩) 1 c2]] w R
  go_enter Tryz.func21, Tryz.ntmps21
  go_wp2_with fail
  obtain ⟨E, hE⟩ : ∃ E, w.heap.size = E := ⟨_, rfl⟩
  rw [hE] at BE ⊢
  obtain ⟨w2, hw2⟩ : ∃ w2, (w.alloc (.cells #[.int .i64 8, .slice a1 2 c1, .slice (some ⟨tb, to_, none⟩) 1 c2] 64)) = w2 := ⟨_, rfl⟩
  rw [hw2] at BE JE ⊢
  have e0 := BE.out.at_ (i := 0) _ rfl
  have e1 := BE.out.at_ (i := 1) _ rfl
  have e2 := BE.out.at_ (i := 2) _ rfl
  have hEl := BE.out.lt
  have HE := Lib.hid hE
  clear hw2 hE
  go_loopw [7] (fun ii wr => ∃ j : Nat, j ≤ 1 ∧ ii = .int .i64 j ∧ wr = w2) (fun ii _ => 1 - (intOf ii).toNat)
  case atStart => exact ⟨0, Nat.zero_le _, rfl, rfl⟩
  case round =>
    obtain ⟨j, hj, rfl, rfl⟩ := hrel
    by_cases hlt : j < 1
    · obtain rfl : j = 0 := by omega
      have s0 := (JE.out.cell htb (fun q => q) to_).trans HT0.out
      have hsl := Nat.lt_of_lt_of_le htb JE.out.size
      have hd : decide ((512 : Int) < (t0.length : Int)) = false := decide_eq_false (by omega)
      clear HR
      go_wp2_with fail
      go_roundw
      case rel => exact ⟨1, by first | omega | exact Nat.le_refl _, by first | exact rfl | go_num, by first | exact rfl | trivial⟩
      case measure => first | (simp [intOf]; done) | (simp [intOf]; omega)
    obtain rfl : j = 1 := by omega
    have OE := Lib.hid (show (wr.alloc (.cells #[] 3)).ownsRow wr.heap.size 3 1 (.slice (some ⟨wr.heap.size, 0, none⟩) 0 0) 0 [] from ⟨rfl, .inr ⟨_, 0, #[], rfl, Nat.le_refl _, heap_new _ _, Nat.le_refl _, by unfold maxLen; omega, rfl, rfl⟩⟩)
    have HR1 := Lib.hid (show RowAt (wr.alloc (.cells #[] 3)) a1 (([n0, n1] : List Int).map (Value.int .i64)) from (HRN.out.same JE.out).same ((Mod.refl _ _).alloc _))
    go_upto_region 7 with (first | (at_builtin; refine wpList_append_in (by rfl) (.tmp 26) (.tmp 28) (by rfl) wr.heap.size _ 0 [] (by rfl) OE.out a1 2 c1 [n0, n1] (by rfl) (by rfl) HR1.out (by omega) (by simp) ?_; intro v3 w3 hown3 hgrow3; have J3 := Lib.hid (show Same wr w3 from ((Mod.refl (fun _ => False) wr).alloc _).grown hgrow3 (fun k hk hl => by have := owns_ge OE.out k hk; omega)); have K3 := Lib.hid hown3; have f0 := (J3.out.cell hEl (fun q => q) 0).trans e0; have hE3 := Nat.lt_of_lt_of_le hEl J3.out.size; have hs3 := J3.out.size; clear hown3 hgrow3) | (at_builtin; refine wpList_append_in (by rfl) (.tmp 29) (.tmp 30) (by rfl) wr.heap.size _ (0 + 2) _ (by rfl) (own_mod2 K3.out ((Mod.refl _ _).alloc _) (fun _ _ q => q)) (some ⟨w3.heap.size, 0, none⟩) 3 3 [0, 0, 0] (by rfl) (by rfl) (fun _ => ⟨w3.heap.size, 0, rfl, by simp, fun i u hu => by rw [Nat.zero_add]; exact (one3_new w3 i u hu)⟩) (by omega) (by simp; omega) ?_; intro v4 w4 hown4 hgrow4; have J4 := Lib.hid (show Same wr w4 from (J3.out.alloc _).grown hgrow4 (fun k hk hl => by have := owns_ge K3.out k hk; omega)); have K4 := Lib.hid hown4; have f00 := (J4.out.cell hEl (fun q => q) 0).trans e0; clear hown4 hgrow4))
    obtain ⟨gn, cn, rfl, hgn, hgnl, m0, m1, m2⟩ := row3_of (ns := [n0, n1]) (n := 2) rfl (by have hh := K4.out; simp only [List.nil_append, Nat.zero_add] at hh; exact hh)
    change w4.cell? ⟨gn, 0, none⟩ = some (.int .i64 n0) at m0
    change w4.cell? ⟨gn, 1, none⟩ = some (.int .i64 n1) at m1
    change w4.cell? ⟨gn, 2, none⟩ = some (.int .i64 0) at m2
    have JW := Lib.hid (JE.out.same J4.out)
    have hE4 := Nat.lt_of_lt_of_le hEl J4.out.size
    have HD4 := Lib.hid (HD.out.same JW.out)
    have hs4 := JW.out.size
    have HFL := Lib.hid (show ∀ i, F i → i < w.heap.size from by obtain ⟨_, _, _, _, _, _, hx⟩ := HD.out; exact hx.fl)
    have hgF : ¬ F gn := fun z => by have := HFL.out gn z; have := JE.out.size; omega
    have hEF : ¬ F E := fun z => by have := HFL.out E z; have := HE.out; omega
    have hsw := JE.out.size
    have HS4 := Lib.hid ((JW.out.cell htb (fun q => q) to_).trans HT0.out)
    have htb4 := Nat.lt_of_lt_of_le htb JW.out.size
    have HE2 := Lib.hid ((J4.out.cell hEl (fun q => q) 2).trans e2)
    clear K3 K4 OE e0 e1 e2 f0 hE3 hs3 J3 HR1
    have CF := Lib.hid (dfind_any HD4.out (by omega) n0)
    have he2 := HE2.out
    have hst := HS4.out
    change w4.cell? ⟨E, 2, none⟩ = some (.slice (some ⟨tb, to_, none⟩) 1 c2) at he2
    have HWE := Lib.hid (show writeE (toMS D) n0 n1 t0 = (match findV (toMS D) n0 with | none => 7 | some _ => if t0.length % 16 ≠ 0 then 1 else rangeS (toMS D) n0 n1 ((t0.length / 16 : Nat) : Int)) from rfl)
    have HDO := Lib.hid (fun (e : Int) (S' : MS) (h1 : e = writeE (toMS D) n0 n1 t0) (h2 : if writeE (toMS D) n0 n1 t0 = 0 then WrR (cut16 t0) (toMS D) n0 n1.toNat S' else S' = toMS D) => show DoR (toMS D) 7 [n0, n1] [t0] e [] false S' by
      unfold DoR
      rw [if_neg HQ.out]
      exact ⟨rfl, rfl, h1, h2⟩)
    have HS := Lib.hid (show ∀ W, Same w4 W → (fun W : World => W.cell? ⟨gn, 0, none⟩ = some (.int .i64 n0) ∧ W.cell? ⟨gn, 1, none⟩ = some (.int .i64 n1) ∧ W.cell? ⟨E, 2, none⟩ = some (.slice (some ⟨tb, to_, none⟩) 1 c2) ∧ W.cell? ⟨tb, to_, none⟩ = some (.string TT)) W from fun W M => ⟨(M.cell hgnl (fun q => q) _).trans m0, (M.cell hgnl (fun q => q) _).trans m1, (M.cell hE4 (fun q => q) _).trans he2, (M.cell htb4 (fun q => q) _).trans hst⟩)
    have HSM := Lib.hid (show ∀ W W', Same w4 W → Mod F W W' → (fun W : World => W.cell? ⟨gn, 0, none⟩ = some (.int .i64 n0) ∧ W.cell? ⟨gn, 1, none⟩ = some (.int .i64 n1) ∧ W.cell? ⟨E, 2, none⟩ = some (.slice (some ⟨tb, to_, none⟩) 1 c2) ∧ W.cell? ⟨tb, to_, none⟩ = some (.string TT)) W' from fun W W' J M => ⟨(M.cell (Nat.lt_of_lt_of_le hgnl J.size) hgF _).trans (HS.out W J).1, (M.cell (Nat.lt_of_lt_of_le hgnl J.size) hgF _).trans (HS.out W J).2.1, (M.cell (Nat.lt_of_lt_of_le hE4 J.size) hEF _).trans (HS.out W J).2.2.1, (M.cell (Nat.lt_of_lt_of_le htb4 J.size) hFt _).trans (HS.out W J).2.2.2⟩)
    unfold bp at CF
    go_wp2_with fail
    refine CF.out.mono ?_
    rintro e w5 ⟨r, rfl, hr5, M5⟩
    have J5 := Lib.hid M5
    have JW5 := Lib.hid (JW.out.same M5)
    have HD5 := Lib.hid (HD.out.same JW5.out)
    have hs5 := JW5.out.size
    have hS5 := HS.out w5 M5
    have HS5 := Lib.hid (show ∀ W, Same w5 W → _ from fun W M => HS.out W (J5.out.same M))
    have hgn5 := Nat.lt_of_lt_of_le hgnl M5.size
    have hE5 := Nat.lt_of_lt_of_le hE4 M5.size
    have htb5 := Nat.lt_of_lt_of_le htb4 M5.size
    clear M5 CF
    rcases hr5 with ⟨i, v, rfl, hv, hid⟩ | ⟨rfl, hno⟩
    · have HV := Lib.hid hv
      have HFI := Lib.hid (show findV (toMS D) n0 = some (toVo v) by rw [← hid]; exact HD.out.1.find hv)
      rw [HFI.out] at HWE
      clear hv hid
      have t5 := hS5.2.2.1
      have t6 := hS5.2.2.2
      obtain ⟨L, hL⟩ : ∃ L, t0.length = L := ⟨_, rfl⟩
      have HL := Lib.hid hL
      rw [hL] at HWE hbs ht0
      clear hL
      by_cases hL16 : L % 16 = 0
      · obtain ⟨m, rfl⟩ : ∃ m, L = 16 * m := ⟨L / 16, by omega⟩
        have hdv : 16 * m / 16 = m := by omega
        rw [hdv] at HWE
        have CC := Lib.hid (fun W (M : Same w5 W) => drange_any (HD5.out.same M) (by omega) n0 n1 (m : Int) ⟨hn1.1, by have := hn1.2; omega⟩ ⟨by omega, by omega⟩)
        unfold bp at CC
        obtain ⟨rg, hrg⟩ : ∃ rg, rangeS (toMS D) n0 n1 (m : Int) = rg := ⟨_, rfl⟩
        rw [hrg] at CC HWE
        have HWE2 := Lib.hid (show writeE (toMS D) n0 n1 t0 = rg by rw [HWE.out]; dsimp only; rw [if_neg (by rw [hL16]; simp)])
        have HRGE := Lib.hid hrg
        have q1 : (16 * (m : Int)).tdiv 16 = (m : Int) := by rw [Int.tdiv_eq_ediv_of_nonneg (by omega)]; omega
        have q2 : (16 * (m : Int)).tmod 16 = 0 := by rw [Int.tmod_eq_emod_of_nonneg (by omega)]; omega
        have q3 : (((16 * m : Nat) : Int)).tdiv 16 = (m : Int) := by rw [Int.tdiv_eq_ediv_of_nonneg (by omega)]; omega
        have q4 : (((16 * m : Nat) : Int)).tmod 16 = 0 := by rw [Int.tmod_eq_emod_of_nonneg (by omega)]; omega
        have q5 : IntKind.i64.wrap (m : Int) = (m : Int) := IntWalk.i64_in _ (by omega)
        clear hrg
        go_upto_region 29 with fail
        clear t5 t6
        go_region_held3 (fun W : World => W.cell? ⟨gn, 0, none⟩ = some (.int .i64 n0) ∧ W.cell? ⟨gn, 1, none⟩ = some (.int .i64 n1) ∧ W.cell? ⟨E, 2, none⟩ = some (.slice (some ⟨tb, to_, none⟩) 1 c2) ∧ W.cell? ⟨tb, to_, none⟩ = some (.string TT)) (first | exact hS5 | assumption | exact HS5.out _ ((Mod.refl _ _).drew) | exact HS5.out _ J6.out) ((
          first
          | (go_at_call 49; refine (CC.out _ ((Mod.refl _ _).drew)).mono ?_; rintro e w6 ⟨rfl, M⟩; have J6 := Lib.hid (show Same w5 w6 from ((Mod.refl _ w5).drew).same M); clear M)))
        have JW6 := Lib.hid (JW5.out.same J6.out)
        have HD6 := Lib.hid (HD.out.same JW6.out)
        have hs6 := JW6.out.size
        have hS6 := HS5.out w6 J6.out
        have HS6 := Lib.hid (show ∀ W, Same w6 W → _ from fun W M => HS5.out W (J6.out.same M))
        by_cases hz : rg = 0
        · subst hz
          obtain ⟨i', v', a, m', sz, e1, e2, rfl, e4, e5, e6, e7, e8, e9⟩ := drange_zero HD.out.1 HRGE.out
          obtain rfl : m = m' := by omega
          have CR := Lib.hid (fun W (M : Same w6 W) => dwrite_any (HD6.out.same M) (by omega) hC e1 a t0 (by rw [HL.out]; exact hL16) (by rw [HL.out]; exact ht0) e7 (by rw [HL.out, hdv]; exact e8))
          rw [e2] at CR
          unfold bp strV at CR
          rw [HTT.out] at CR
          have hb0 : ((0 : Int) == 0) = true := rfl
          clear e1 e2 e4 e5 e6 e7 e8 e9 hS5
          go_upto_region 31 with fail
          go_region_held3 (fun W : World => W.cell? ⟨gn, 0, none⟩ = some (.int .i64 n0) ∧ W.cell? ⟨gn, 1, none⟩ = some (.int .i64 (a : Int)) ∧ W.cell? ⟨E, 2, none⟩ = some (.slice (some ⟨tb, to_, none⟩) 1 c2) ∧ W.cell? ⟨tb, to_, none⟩ = some (.string TT)) (first | exact hS6 | assumption | exact HS6.out _ ((Mod.refl _ _).drew)) ((
            first
            | (go_at_call 67; refine (CR.out _ ((Mod.refl _ _).drew)).mono ?_; rintro e w7 ⟨rfl, D', F', hWr, hTurn⟩; have hS7 := HSM.out _ w7 ((J5.out.same J6.out).drew) hTurn.md; have HWR := Lib.hid hWr; have HTU := Lib.hid hTurn; clear hWr hTurn)))
          go_wp2_with fail
          have ht := HTU.out
          exact HR.out _ _ ⟨0, [], false, D', F', rfl, HDO.out 0 _ HWE2.out.symm (by rw [if_pos HWE2.out, Int.toNat_natCast]; exact HWR.out), ht.dq, fun y hy => (ht.ff y hy).imp (fun z => z) (fun z => by have : w6.heap.size ≤ y := z; omega), (JW6.out.drew.mono (fun _ _ q => q.elim)).then_ ht.md (fun i _ q => q), ht.k, by rw [ht.births]; omega, by rw [ht.births]; exact Int.le_refl _, ht.ch⟩
        · have hb0 : (rg == 0) = false := by simpa using hz
          clear hS5
          go_wp2_with fail
          exact HR.out _ _ ⟨rg, [], false, D, F, rfl, HDO.out rg _ HWE2.out.symm (by rw [if_neg (by rw [HWE2.out]; exact hz)]), HD6.out, fun y => .inl, JW6.out.mono (fun _ _ q => q.elim), rfl, by omega, Int.le_refl _, by omega⟩
      · have HWE2 := Lib.hid (show writeE (toMS D) n0 n1 t0 = 1 by rw [HWE.out]; dsimp only; rw [if_pos hL16])
        obtain ⟨q, r, hr16, hqr⟩ : ∃ q r, r < 16 ∧ L = 16 * q + r := ⟨L / 16, L % 16, by omega, by omega⟩
        have hr0 : r ≠ 0 := by omega
        have q2 : ((L : Int)).tmod 16 = (r : Int) := by rw [Int.tmod_eq_emod_of_nonneg (by omega)]; omega
        have q5 : IntKind.i64.wrap (r : Int) = (r : Int) := IntWalk.i64_in _ (by omega)
        have q6 : ((r : Int) != 0) = true := by simpa using hr0
        clear hqr hL16 hS5
        go_wp2_with fail
        exact HR.out _ _ ⟨1, [], false, D, F, rfl, HDO.out 1 _ HWE2.out.symm (by rw [if_neg (by rw [HWE2.out]; decide)]), HD5.out, fun y => .inl, JW5.out.mono (fun _ _ q => q.elim), rfl, by omega, Int.le_refl _, by omega⟩
    · have HWE2 := Lib.hid (show writeE (toMS D) n0 n1 t0 = 7 by rw [HWE.out, find_noneD hno])
      clear hno hS5
      go_wp2_with fail
      exact HR.out _ _ ⟨7, [], false, D, F, rfl, HDO.out 7 _ HWE2.out.symm (by rw [if_neg (by rw [HWE2.out]; decide)]), HD5.out, fun y => .inl, JW5.out.mono (fun _ _ q => q.elim), rfl, by omega, Int.le_refl _, by omega⟩
end
end Go.Proofs.YtlcepoagpocadaaGreatDoor
set_option maxRecDepth 100000
/- The document's model: any order's answer, and what it wants; rows of texts that are the same. -/
namespace Go.Proofs.YtlcepoagpocadaaGreatDoor
open Go Go.RowKit
section
variable {F : Nat → Prop} {w : World} {p : Nat} {D : DP}
theorem rwants_any (h : Dq F w p D) (hB : D.vols.length ≤ 1000) (o : OW) (hf : o.form) (hfit : o.fits = true) (a1 a2 : Option Addr) (c1 c2 : Nat) (hr : RowAt w a1 (o.ns.map (Value.int .i64))) (hr2 : RowAt w a2 (o.ts.map strV)) :
    Calls Tryz.prog 19 #[bp p, rordV o a1 a2 c1 c2] w fun e w' => e = .returned (.int .i64 (wantS (toMS D) o.k o.ns o.ts : Int)) ∧ Same w w' := by
  by_cases h7 : o.k = 7
  · obtain ⟨k, ns, ts⟩ := o
    obtain ⟨h15, hnn, hnd, hi⟩ := hf
    dsimp only at h7
    subst h7
    obtain ⟨a, b, rfl⟩ := len2 (show ns.length = 2 from hnn)
    obtain ⟨t, rfl⟩ := len1 (show ts.length = 1 from hnd)
    exact rwants_write h hB a b t a1 a2 c1 c2 (hi a (by simp)) (hi b (by simp)) (by unfold OW.fits at hfit; simpa using hfit) hr hr2
  · by_cases h8 : o.k = 8
    · obtain ⟨k, ns, ts⟩ := o
      obtain ⟨h15, hnn, hnd, hi⟩ := hf
      dsimp only at h8
      subst h8
      obtain ⟨a, b, c, rfl⟩ := len3 (show ns.length = 3 from hnn)
      exact rwants_disc h hB a b c ts a1 a2 c1 c2 (hi a (by simp)) (hi b (by simp)) (hi c (by simp)) hr
    · exact rwants_other w o a1 a2 c1 c2 h7 h8 hf.lt
theorem rdo_any (h : Dq F w p D) (hB : D.vols.length ≤ 1000) (hC : D.ch.length ≤ 50000) (hb : 0 ≤ D.births ∧ D.births ≤ 100000) (o : OW) (hf : o.form) (hfit : o.fits = true) (a1 a2 : Option Addr) (c1 c2 : Nat) (hF2 : ∀ b x, 0 < o.ts.length → a2 = some ⟨b, x, none⟩ → ¬ F b) (hr : RowAt w a1 (o.ns.map (Value.int .i64))) (hr2 : RowAt w a2 (o.ts.map strV)) :
    Calls Tryz.prog 21 #[bp p, rordV o a1 a2 c1 c2] w fun e w' => RDo F w p D o e w' := by
  obtain ⟨k, ns, ts⟩ := o
  obtain ⟨h15, hnn, hnd, hi⟩ := hf
  unfold OW.fits at hfit
  dsimp only at h15 hnn hnd hi hfit hr hr2
  rcases kinds15 h15 with rfl | rfl | rfl | rfl | rfl | rfl | rfl | rfl | rfl | rfl | rfl | rfl | rfl | rfl | rfl
  · obtain ⟨a, b, rfl⟩ := len2 (show ns.length = 2 from hnn)
    obtain rfl := List.length_eq_zero_iff.1 (show ts.length = 0 from hnd)
    exact rdo_0 h hB hC hb a b a1 a2 c1 c2 (hi a (by simp)) (hi b (by simp)) hr hr2
  · obtain ⟨a, rfl⟩ := len1 (show ns.length = 1 from hnn)
    obtain rfl := List.length_eq_zero_iff.1 (show ts.length = 0 from hnd)
    exact rdo_1 h hB hC hb a a1 a2 c1 c2 (hi a (by simp)) hr hr2
  · obtain ⟨a, b, rfl⟩ := len2 (show ns.length = 2 from hnn)
    obtain rfl := List.length_eq_zero_iff.1 (show ts.length = 0 from hnd)
    exact rdo_2 h hB hC hb a b a1 a2 c1 c2 (hi a (by simp)) (hi b (by simp)) hr hr2
  · obtain ⟨a, b, rfl⟩ := len2 (show ns.length = 2 from hnn)
    obtain rfl := List.length_eq_zero_iff.1 (show ts.length = 0 from hnd)
    exact rdo_3 h hB hC hb a b a1 a2 c1 c2 (hi a (by simp)) (hi b (by simp)) hr hr2
  · obtain ⟨a, rfl⟩ := len1 (show ns.length = 1 from hnn)
    obtain rfl := List.length_eq_zero_iff.1 (show ts.length = 0 from hnd)
    exact rdo_4 h hB hC hb a a1 a2 c1 c2 (hi a (by simp)) hr hr2
  · obtain ⟨a, rfl⟩ := len1 (show ns.length = 1 from hnn)
    obtain rfl := List.length_eq_zero_iff.1 (show ts.length = 0 from hnd)
    exact rdo_5 h hB hC hb a a1 a2 c1 c2 (hi a (by simp)) hr hr2
  · obtain ⟨a, b, c, rfl⟩ := len3 (show ns.length = 3 from hnn)
    obtain rfl := List.length_eq_zero_iff.1 (show ts.length = 0 from hnd)
    exact rdo_6 h hB hC hb a b c a1 a2 c1 c2 (hi a (by simp)) (hi b (by simp)) (hi c (by simp)) hr hr2
  · obtain ⟨a, b, rfl⟩ := len2 (show ns.length = 2 from hnn)
    obtain ⟨t, rfl⟩ := len1 (show ts.length = 1 from hnd)
    exact rdo_7 h hB hC hb a b t a1 a2 c1 c2 (hi a (by simp)) (hi b (by simp)) (by simpa using hfit) (fun b x e => hF2 b x (by simp) e) hr hr2
  · obtain ⟨a, b, c, rfl⟩ := len3 (show ns.length = 3 from hnn)
    obtain rfl := List.length_eq_zero_iff.1 (show ts.length = 0 from hnd)
    exact rdo_8 h hB hC hb a b c a1 a2 c1 c2 (hi a (by simp)) (hi b (by simp)) (hi c (by simp)) hr hr2
  · obtain rfl := List.length_eq_zero_iff.1 (show ns.length = 0 from hnn)
    obtain rfl := List.length_eq_zero_iff.1 (show ts.length = 0 from hnd)
    exact rdo_9 h hB hC hb a1 a2 c1 c2 hr hr2
  · obtain ⟨a, rfl⟩ := len1 (show ns.length = 1 from hnn)
    obtain rfl := List.length_eq_zero_iff.1 (show ts.length = 0 from hnd)
    exact rdo_10 h hB hC hb a a1 a2 c1 c2 (hi a (by simp)) hr hr2
  · obtain rfl := List.length_eq_zero_iff.1 (show ns.length = 0 from hnn)
    obtain rfl := List.length_eq_zero_iff.1 (show ts.length = 0 from hnd)
    exact rdo_11 h hB hC hb a1 a2 c1 c2 hr hr2
  · obtain rfl := List.length_eq_zero_iff.1 (show ns.length = 0 from hnn)
    obtain rfl := List.length_eq_zero_iff.1 (show ts.length = 0 from hnd)
    exact rdo_12 h hB hC hb a1 a2 c1 c2 hr hr2
  · obtain ⟨a, rfl⟩ := len1 (show ns.length = 1 from hnn)
    obtain rfl := List.length_eq_zero_iff.1 (show ts.length = 0 from hnd)
    exact rdo_13 h hB hC hb a a1 a2 c1 c2 (hi a (by simp)) hr hr2
  · obtain rfl := List.length_eq_zero_iff.1 (show ns.length = 0 from hnn)
    obtain ⟨t0, t1, t2, rfl⟩ := len3 (show ts.length = 3 from hnd)
    have hl : t0.length ≤ 512 ∧ t1.length ≤ 512 ∧ t2.length ≤ 512 := by simpa using hfit
    exact rdo_14 h hB hC hb t0 t1 t2 a1 a2 c1 c2 hl.1 hl.2.1 hl.2.2 hr hr2
/-- Two rows of texts that read alike. -/
theorem same26_any (w : World) (xs : List (List UInt8)) (n : Nat) (hn : xs.length = n) (hn2 : n ≤ 100000) (a1 a2 : Option Addr) (c1 c2 : Nat) (h1 : RowAt w a1 (xs.map strV)) (h2 : RowAt w a2 (xs.map strV)) :
    Calls Tryz.prog 26 #[.slice a1 n c1, .slice a2 n c2] w fun e w' => e = .returned (.bool true) ∧ Same w w' := by
  refine opq fun R HR => ?_
  have H1 := Lib.hid h1
  have H2 := Lib.hid h2
  have HN := Lib.hid hn
  have hq : ((n : Int) != (n : Int)) = false := by simp
  clear h1 h2 hn
  go_enter Tryz.func26, Tryz.ntmps26
  go_wp2_with fail
  go_loopw [5] (fun i wr => ∃ j : Nat, j ≤ n ∧ i = .int .i64 j ∧ Same w wr) (fun i _ => n - (intOf i).toNat)
  case atStart => exact ⟨0, Nat.zero_le _, rfl, Mod.refl _ _⟩
  case round =>
    obtain ⟨j, hj, rfl, hM⟩ := hrel
    have J := Lib.hid hM
    clear hM
    by_cases hlt : j < n
    · obtain ⟨x, hx⟩ : ∃ x, xs[j]? = some x := ⟨_, List.getElem?_eq_getElem (by rw [HN.out]; exact hlt)⟩
      obtain ⟨b1, o1, rfl, hb1, k1⟩ := H1.out (by rw [List.length_map, HN.out]; omega)
      obtain ⟨b2, o2, rfl, hb2, k2⟩ := H2.out (by rw [List.length_map, HN.out]; omega)
      have p1 := (J.out.cell hb1 (fun q => q) (o1 + j)).trans (k1 j (strV x) (by rw [List.getElem?_map, hx]; rfl))
      have p2 := (J.out.cell hb2 (fun q => q) (o2 + j)).trans (k2 j (strV x) (by rw [List.getElem?_map, hx]; rfl))
      have hl1 := Nat.lt_of_lt_of_le hb1 J.out.size
      have hl2 := Nat.lt_of_lt_of_le hb2 J.out.size
      unfold strV at p1 p2
      obtain ⟨X, hX⟩ : ∃ X : ByteArray, (⟨x.toArray⟩ : ByteArray) = X := ⟨_, rfl⟩
      rw [hX] at p1 p2
      have hd : decide (X = X) = true := by simp
      clear k1 k2 hx hX
      go_upto_region 6 with fail
      go_big_quiet (fail)
      go_wp2_with fail
      go_roundw
      case rel => exact ⟨j + 1, by omega, by go_num, J.out.drewN _⟩
      case measure => simp [intOf]; omega
    · obtain rfl : j = n := by omega
      go_wp2_with fail
      exact HR.out _ _ ⟨rfl, J.out⟩
end
end Go.Proofs.YtlcepoagpocadaaGreatDoor
